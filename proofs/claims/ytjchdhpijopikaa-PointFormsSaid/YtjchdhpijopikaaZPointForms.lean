/- Of chapter 8, PointForms: for every input the law returns true, and each argument reads behind the call as it read before. No condition. -/
import Derived.Test.YtjchdhpijopikaaZPCD
import Derived.ProofKit
import Derived.ShutString
import Derived.ChangeOld
namespace Go.Proofs.Ytjchdhpijopikaa
open Go Go.ChangeShapes Go.WideShapes Go.ChangeAt Go.RowKit
open Go.ChangeMaps (open_string shut_string)

set_option maxRecDepth 100000 in
set_option maxHeartbeats 8000000 in
theorem pointForms_few {a : Option Addr} {na capa : Nat} {la : List UInt8} (w : World) (ha : RdB w a na capa la) (t0 : ¬ (100 : Int) < (na : Int)) :
    Calls Try.prog 4 #[.slice a na capa] w fun e w' => e = .returned (.bool true) ∧ Below w.heap.size w w' := by
  have d0 : decide ((100 : Int) < (na : Int)) = false := decide_eq_false t0
  obtain ⟨sa, hsa⟩ : ∃ s, wS la = s := ⟨_, rfl⟩; have HSa := Lib.hid hsa; clear hsa
  obtain ⟨P, hP⟩ : ∃ P, Cp.mul sa.val base = P := ⟨_, rfl⟩; have HP := Lib.hid hP; clear hP
  clear t0
  go_enter Try.func4, Try.ntmps4
  have hbel : Below w.heap.size w w := Below.refl _ _
  have hbel0 := hbel
  go_upto_region 0 with fail
  refine wp_region_turn (fun u => (.slice a na capa :: undef :: u 0 :: undef :: undef :: undef :: undef :: undef :: undef :: undef :: undef :: undef :: undef :: undef :: undef :: undef :: undef :: undef :: undef :: undef :: undef :: undef :: undef :: undef :: undef :: undef :: undef :: undef :: undef :: undef :: undef :: undef :: undef :: undef :: undef :: undef :: undef :: undef :: undef :: undef :: undef :: undef :: undef :: undef :: undef :: undef :: undef :: undef :: undef :: undef :: undef :: undef :: undef :: undef :: undef :: undef :: undef :: undef :: undef :: undef :: undef :: undef :: undef :: undef :: undef :: undef :: undef :: undef :: undef :: undef :: undef :: undef :: undef :: undef :: undef :: undef :: undef :: undef :: undef :: []).toArray) (Holds [.oth (fun v => v = .bool false)] w) (Keep [.oth (fun v => v = .bool false)] w) (fun _ => undef) ?_ (by rfl) Keep.start (holds_soft (by kernel_rfl)) ?_ ?_
  · intro u i v h
    rcases i with _ | i
    all_goals first | (simp [Act.put, putV]; done) | (exfalso; simp at h; omega)
  · intro hs
    refine ⟨?_, trivial⟩
    · exact step_pureO hs (wants_none rfl) rfl fun L u W hG hdep => ⟨_, run_assign rfl, rfl⟩
  intro L0 u0 W0 hall hJ hG
  have hb := hJ.all rfl
  have hbel := Below.call hbel hb
  have HC2 := Lib.hid (show u0 0 = .bool false from hG 0 (by simp))
  have hbel0 := hbel
  clear hJ hG hall hb
  go_upto_region 1 with fail
  refine wp_region_turn (fun u => (.slice a na capa :: undef :: u0 0 :: undef :: undef :: undef :: undef :: undef :: undef :: undef :: undef :: u 0 :: u 1 :: u 2 :: undef :: undef :: undef :: undef :: undef :: undef :: undef :: undef :: undef :: undef :: undef :: undef :: undef :: undef :: undef :: undef :: undef :: undef :: undef :: undef :: undef :: undef :: undef :: undef :: undef :: undef :: undef :: undef :: undef :: undef :: undef :: undef :: undef :: undef :: undef :: undef :: undef :: undef :: undef :: undef :: undef :: undef :: undef :: undef :: undef :: undef :: undef :: undef :: undef :: undef :: undef :: undef :: undef :: undef :: undef :: undef :: undef :: undef :: undef :: undef :: undef :: undef :: undef :: undef :: undef :: []).toArray) (Holds [.oth (fun v => v = .slice a na capa), .oth (fun v => v = .int .i64 (na : Nat)), .oth (fun v => v = .bool false)] W0) (Keep [.oth (fun v => v = .slice a na capa), .oth (fun v => v = .int .i64 (na : Nat)), .oth (fun v => v = .bool false)] W0) (fun _ => undef) ?_ (by rfl) Keep.start (holds_soft (by kernel_rfl)) ?_ ?_
  · intro u i v h
    rcases i with _ | _ | _ | i
    all_goals first | (simp [Act.put, putV]; done) | (exfalso; simp at h; omega)
  · intro hs
    refine ⟨?_, ?_, ?_, trivial⟩
    · exact step_pureO hs (wants_none rfl) rfl fun L u W hG hdep => ⟨_, run_move rfl, rfl⟩
    · refine step_pureO hs (wants_none rfl) rfl fun L u W hG hdep => ⟨_, ?_, rfl⟩
      have e0 := (show u 0 = .slice a na capa from hG 0 (hdep 0 (by kernel_rfl)))
      go_simp
    · refine step_pureO hs (wants_none rfl) rfl fun L u W hG hdep => ⟨_, ?_, rfl⟩
      have e0 := (show u 1 = .int .i64 (na : Nat) from hG 1 (hdep 1 (by kernel_rfl)))
      go_simp
      try simp [bne]
  intro L1 u1 W1 hall hJ hG
  have hb := hJ.all rfl
  have hbel := Below.call hbel hb
  have HC13 := Lib.hid (show u1 2 = .bool false from hG 2 (by simp))
  have hbel0 := hbel
  clear hJ hG hall hb
  have hx : u1 2 = .bool false := HC13.out
  go_wp2_with fail
  rw [hx]
  clear hx
  clear d0
  go_upto_region 3 with fail
  refine wp_region_turn (fun u => (.slice a na capa :: undef :: u0 0 :: u 4 :: undef :: undef :: undef :: undef :: undef :: undef :: undef :: u1 0 :: u1 1 :: .bool false :: undef :: u 0 :: u 1 :: u 2 :: u 3 :: undef :: undef :: undef :: undef :: undef :: undef :: undef :: undef :: undef :: undef :: undef :: undef :: undef :: undef :: undef :: undef :: undef :: undef :: undef :: undef :: undef :: undef :: undef :: undef :: undef :: undef :: undef :: undef :: undef :: undef :: undef :: undef :: undef :: undef :: undef :: undef :: undef :: undef :: undef :: undef :: undef :: undef :: undef :: undef :: undef :: undef :: undef :: undef :: undef :: undef :: undef :: undef :: undef :: undef :: undef :: undef :: undef :: undef :: undef :: undef :: []).toArray) (Holds [.val rP [base], .oth (fun v => v = .slice a na capa), .val rS [sa], .val rP [P], .new 20, .st 4 rP [P]] W1) (Keep [.val rP [base], .oth (fun v => v = .slice a na capa), .val rS [sa], .val rP [P], .new 20, .st 4 rP [P]] W1) (fun _ => undef) ?_ (by rfl) Keep.start (holds_soft (by kernel_rfl)) ?_ ?_
  · intro u i v h
    rcases i with _ | _ | _ | _ | _ | _ | i
    all_goals first | (simp [Act.put, putV]; done) | (exfalso; simp at h; omega)
  · intro hs
    refine ⟨?_, ?_, ?_, ?_, ?_, ?_, trivial⟩
    · refine step_call hs (wants_none rfl) rfl fun L u W hJ hG hL hdep K hK => ?_
      go_simp
      go_at_call 16
      (with_reducible refine (cBase _).mono ?_); rintro e w1 ⟨r, rfl, hr, hb⟩
      have hk := hK.out _ _ hr hb
      exact hk
    · exact step_pureO hs (wants_none rfl) rfl fun L u W hG hdep => ⟨_, run_move rfl, rfl⟩
    · refine step_call hs (wants_none rfl) rfl fun L u W hJ hG hL hdep K hK => ?_
      have x0 := (show u 1 = .slice a na capa from hG 1 (hdep 1 (by kernel_rfl)))
      have hRB0 := (ha.below hbel).below (hJ.all rfl)
      go_simp
      go_at_call 18
      (with_reducible refine (cWide HSa.out hRB0).mono ?_); rintro e w1 ⟨r, rfl, hr, hb⟩
      have hk := hK.out _ _ hr hb
      simp only [x0] at hk
      exact hk
    · refine step_call hs (wants_none rfl) rfl fun L u W hJ hG hL hdep K hK => ?_
      have a0 := (show IsFs rP (u 0) [base] from hG 0 (hdep 0 (by kernel_rfl)))
      have a1 := (show IsFs rS (u 2) [sa] from hG 2 (hdep 2 (by kernel_rfl)))
      go_simp
      go_at_call 17
      (with_reducible refine (cMult HP.out a0 a1 _).mono ?_); rintro e w1 ⟨r, rfl, hr, hb⟩
      have hk := hK.out _ _ hr hb
      exact hk
    · exact step_alloc hs (wants_none rfl) rfl rfl (by omega) rfl allocP
    · exact step_store 4 hs (by kernel_rfl) (wants_none rfl) rfl rfl rfl (by kernel_rfl) (by kernel_rfl) (by kernel_rfl) (by kernel_rfl) (fun _ => rfl) (gives_op 3 rfl (by kernel_rfl) (fun _ => rfl)) tyP rfl
  intro L3 u3 W3 hall hJ hG
  obtain ⟨q3, e3, hq3, _, ht3⟩ := (show ∃ g, u3 4 = .pointer (some ⟨g, 0, none⟩) ∧ W1.heap.size ≤ g ∧ 0 < 20 ∧ W3.there g 0 20 from hG 4 (by simp))
  have hm3 : HasFs rP W3 q3 0 [P] := by
    obtain ⟨g, e, _, h⟩ := (show ∃ g, u3 4 = .pointer (some ⟨g, 0, none⟩) ∧ W1.heap.size ≤ g ∧ HasFs rP W3 g 0 [P] from hG 5 (by simp))
    rw [e3] at e; cases e; exact h
  have hq3 : w.heap.size ≤ q3 := by have := hbel0.size; omega
  have E3 := Lib.hid e3; clear e3
  have hb := hJ.all rfl
  have hbel := Below.call hbel hb
  have hbel0 := hbel
  clear hJ hG hall hb
  go_upto_region 4 with fail
  refine wp_region_turn (fun u => (.slice a na capa :: undef :: u0 0 :: u3 4 :: u 2 :: undef :: undef :: undef :: undef :: undef :: undef :: u1 0 :: u1 1 :: .bool false :: undef :: u3 0 :: u3 1 :: u3 2 :: u3 3 :: u 0 :: u 1 :: undef :: undef :: undef :: undef :: undef :: undef :: undef :: undef :: undef :: undef :: undef :: undef :: undef :: undef :: undef :: undef :: undef :: undef :: undef :: undef :: undef :: undef :: undef :: undef :: undef :: undef :: undef :: undef :: undef :: undef :: undef :: undef :: undef :: undef :: undef :: undef :: undef :: undef :: undef :: undef :: undef :: undef :: undef :: undef :: undef :: undef :: undef :: undef :: undef :: undef :: undef :: undef :: undef :: undef :: undef :: undef :: undef :: undef :: []).toArray) (Holds [.val rP [P], .rd (encP P), .rd (encP P)] W3) (Keep [.val rP [P], .rd (encP P), .rd (encP P)] W3) (fun _ => undef) ?_ (by rfl) Keep.start (holds_soft (by kernel_rfl)) ?_ ?_
  · intro u i v h
    rcases i with _ | _ | _ | i
    all_goals first | (simp [Act.put, putV]; done) | (exfalso; simp at h; omega)
  · intro hs
    refine ⟨?_, ?_, ?_, trivial⟩
    · exact step_load q3 0 hs (wants_none rfl) rfl rfl tyP (fun _ => E3.out) hm3.lt hm3 (noSto_apart (by kernel_rfl))
    · refine step_callB hs (wants_none rfl) rfl fun L u W hJ hG hL hdep K hK => ?_
      have a0 := (show IsFs rP (u 0) [P] from hG 0 (hdep 0 (by kernel_rfl)))
      go_simp
      go_at_call 13
      (with_reducible refine (cEncode a0 _).mono ?_); rintro e w1 ⟨g, n, cap, r, rfl, h1, h2, h3, h4, h5, hb⟩
      have hk := hK.out _ _ _ _ _ h1 h2 h3 h4 h5 hb
      exact hk
    · exact step_moveB 1 hs (wants_none rfl) rfl (by first | exact .inl rfl | exact .inr rfl) rfl (by kernel_rfl) (fun _ => rfl)
  intro L4 u4 W4 hall hJ hG
  obtain ⟨gB402, nB402, cB402, rB402, eB402, hgB402, hB402, hlB402, hcB402, hmB402⟩ := (show ∃ g n cap r, u4 2 = .slice (some ⟨g, 0, none⟩) n cap ∧ W3.heap.size ≤ g ∧ Blk W4 g ((encP P).map bV ++ r) 5 ∧ (encP P).length = n ∧ n ≤ cap ∧ cap ≤ maxLen from hG 2 (by simp))
  have hgB402 : w.heap.size ≤ gB402 := by have := hbel0.size; omega
  have EB402 := Lib.hid eB402; clear eB402
  obtain rfl : nB402 = 32 := by have h : (((encP P).length : Nat) : Int) = 32 := (by rw [encP_len]; rfl); omega
  have HB402 := Lib.hid hB402; clear hB402
  have HE402_q3 := Lib.hid (show q3 ≠ gB402 by have := there_lt ht3 (by omega); omega)
  have hb := hJ.all rfl
  have hbel := Below.call hbel hb
  have hm3 := hm3.later hb
  have ht3 := there_later ht3 hb
  have hbel0 := hbel
  clear hJ hG hall hb
  go_upto_region 5 with fail
  refine wp_region_turn (fun u => (.slice a na capa :: undef :: u0 0 :: u3 4 :: u4 2 :: u 5 :: u 7 :: undef :: undef :: undef :: undef :: u1 0 :: u1 1 :: .bool false :: undef :: u3 0 :: u3 1 :: u3 2 :: u3 3 :: u4 0 :: u4 1 :: u 2 :: u 0 :: u 1 :: u 3 :: u 4 :: undef :: undef :: undef :: undef :: undef :: undef :: undef :: undef :: undef :: undef :: undef :: undef :: undef :: undef :: undef :: undef :: undef :: undef :: undef :: undef :: undef :: undef :: undef :: undef :: undef :: undef :: undef :: undef :: undef :: undef :: undef :: undef :: undef :: undef :: undef :: undef :: undef :: undef :: undef :: undef :: undef :: undef :: undef :: undef :: undef :: undef :: undef :: undef :: undef :: undef :: undef :: undef :: undef :: []).toArray) (Holds [.oth (fun v => v = .slice (some ⟨gB402, 0, none⟩) 32 cB402), .oth (fun v => IsTV rP v [P] (.int .i64 0)), .oth (fun v => IsTV rP v [P] (.int .i64 0)), .val rP [P], .oth (fun v => v = .int .i64 0), .new 20, .st 5 rP [P], .oth (fun v => v = .int .i64 0)] W4) (Keep [.oth (fun v => v = .slice (some ⟨gB402, 0, none⟩) 32 cB402), .oth (fun v => IsTV rP v [P] (.int .i64 0)), .oth (fun v => IsTV rP v [P] (.int .i64 0)), .val rP [P], .oth (fun v => v = .int .i64 0), .new 20, .st 5 rP [P], .oth (fun v => v = .int .i64 0)] W4) (fun _ => undef) ?_ (by rfl) Keep.start (holds_soft (by kernel_rfl)) ?_ ?_
  · intro u i v h
    rcases i with _ | _ | _ | _ | _ | _ | _ | _ | i
    all_goals first | (simp [Act.put, putV]; done) | (exfalso; simp at h; omega)
  · intro hs
    refine ⟨?_, ?_, ?_, ?_, ?_, ?_, ?_, ?_, trivial⟩
    · exact step_pureO hs (wants_none rfl) rfl fun L u W hG hdep => ⟨_, run_move rfl, EB402.out⟩
    · refine step_callO hs (wants_none rfl) rfl fun L u W hJ hG hL hdep K hK => ?_
      have x0 := (show u 0 = .slice (some ⟨gB402, 0, none⟩) 32 cB402 from hG 0 (hdep 0 (by kernel_rfl)))
      have hRB0 := (RdB.blk rB402 HB402.out hlB402 hcB402 hmB402).below (hJ.all rfl)
      go_simp
      go_at_call 10
      (with_reducible refine (cDecode ((dec_enc P).1) ((dec_enc P).2) hRB0).mono ?_); rintro e w1 ⟨r, rfl, hr, hb⟩
      have hk := hK.out _ _ ⟨r, rfl, hr⟩ hb
      simp only [x0] at hk
      exact hk
    · exact step_pureO hs (wants_none rfl) rfl fun L u W hG hdep => ⟨_, run_move rfl, (show IsTV rP (u 1) [P] (.int .i64 0) from hG 1 (hdep 1 (by kernel_rfl)))⟩
    · exact step_pure hs (wants_none rfl) rfl fun L u W hG hdep => run_extractV0 rfl (show IsTV rP (u 2) [P] (.int .i64 0) from hG 2 (hdep 2 (by kernel_rfl)))
    · exact step_pureO hs (wants_none rfl) rfl fun L u W hG hdep => run_extractV1 rfl (show IsTV rP (u 2) [P] (.int .i64 0) from hG 2 (hdep 2 (by kernel_rfl)))
    · exact step_alloc hs (wants_none rfl) rfl rfl (by omega) rfl allocP
    · exact step_store 5 hs (by kernel_rfl) (wants_none rfl) rfl rfl rfl (by kernel_rfl) (by kernel_rfl) (by kernel_rfl) (by kernel_rfl) (fun _ => rfl) (gives_op 3 rfl (by kernel_rfl) (fun _ => rfl)) tyP rfl
    · exact step_pureO hs (wants_none rfl) rfl fun L u W hG hdep => ⟨_, run_assign rfl, (show u 4 = .int .i64 0 from hG 4 (hdep 4 (by kernel_rfl)))⟩
  intro L5 u5 W5 hall hJ hG
  obtain ⟨q5, e5, hq5, _, ht5⟩ := (show ∃ g, u5 5 = .pointer (some ⟨g, 0, none⟩) ∧ W4.heap.size ≤ g ∧ 0 < 20 ∧ W5.there g 0 20 from hG 5 (by simp))
  have hm5 : HasFs rP W5 q5 0 [P] := by
    obtain ⟨g, e, _, h⟩ := (show ∃ g, u5 5 = .pointer (some ⟨g, 0, none⟩) ∧ W4.heap.size ≤ g ∧ HasFs rP W5 g 0 [P] from hG 6 (by simp))
    rw [e5] at e; cases e; exact h
  have HD5_q3 := Lib.hid (show q3 ≠ q5 by have := there_lt ht3 (by omega); omega)
  have hq5 : w.heap.size ≤ q5 := by have := hbel0.size; omega
  have E5 := Lib.hid e5; clear e5
  have hb := hJ.all rfl
  have hbel := Below.call hbel hb
  have hm3 := hm3.later hb
  have ht3 := there_later ht3 hb
  have HB402 := Lib.hid (HB402.out.below' hb)
  have HC6 := Lib.hid (show u5 7 = .int .i64 0 from hG 7 (by simp))
  have hbel0 := hbel
  clear hJ hG hall hb
  go_upto_region 6 with fail
  refine wp_region_turn (fun u => (.slice a na capa :: undef :: u0 0 :: u3 4 :: u4 2 :: u5 5 :: u5 7 :: undef :: undef :: undef :: undef :: u1 0 :: u1 1 :: .bool false :: undef :: u3 0 :: u3 1 :: u3 2 :: u3 3 :: u4 0 :: u4 1 :: u5 2 :: u5 0 :: u5 1 :: u5 3 :: u5 4 :: u 0 :: u 1 :: u 2 :: u 3 :: u 4 :: u 5 :: u 6 :: u 7 :: u 8 :: u 9 :: u 10 :: u 11 :: u 12 :: undef :: undef :: undef :: undef :: undef :: undef :: undef :: undef :: undef :: undef :: undef :: undef :: undef :: undef :: undef :: undef :: undef :: undef :: undef :: undef :: undef :: undef :: undef :: undef :: undef :: undef :: undef :: undef :: undef :: undef :: undef :: undef :: undef :: undef :: undef :: undef :: undef :: undef :: undef :: undef :: []).toArray) (Holds [.oth (fun v => v = .slice (some ⟨gB402, 0, none⟩) 32 cB402), .oth (fun v => v = .int .i64 32), .oth (fun v => v = .bool false), .oth (fun v => v = .bool false), .oth (fun v => v = .int .i64 0), .oth (fun v => v = .bool false), .oth (fun v => v = .bool false), .oth (fun v => v = .bool false), .val rP [P], .val rP [P], .oth (fun v => v = .bool true), .oth (fun v => v = .bool false), .oth (fun v => v = .bool false)] W5) (Keep [.oth (fun v => v = .slice (some ⟨gB402, 0, none⟩) 32 cB402), .oth (fun v => v = .int .i64 32), .oth (fun v => v = .bool false), .oth (fun v => v = .bool false), .oth (fun v => v = .int .i64 0), .oth (fun v => v = .bool false), .oth (fun v => v = .bool false), .oth (fun v => v = .bool false), .val rP [P], .val rP [P], .oth (fun v => v = .bool true), .oth (fun v => v = .bool false), .oth (fun v => v = .bool false)] W5) (fun _ => undef) ?_ (by rfl) Keep.start (holds_soft (by kernel_rfl)) ?_ ?_
  · intro u i v h
    rcases i with _ | _ | _ | _ | _ | _ | _ | _ | _ | _ | _ | _ | _ | i
    all_goals first | (simp [Act.put, putV]; done) | (exfalso; simp at h; omega)
  · intro hs
    refine ⟨?_, ?_, ?_, ?_, ?_, ?_, ?_, ?_, ?_, ?_, ?_, ?_, ?_, trivial⟩
    · exact step_pureO hs (wants_none rfl) rfl fun L u W hG hdep => ⟨_, run_move rfl, EB402.out⟩
    · refine step_pureO hs (wants_none rfl) rfl fun L u W hG hdep => ⟨_, ?_, rfl⟩
      have e0 := (show u 0 = .slice (some ⟨gB402, 0, none⟩) 32 cB402 from hG 0 (hdep 0 (by kernel_rfl)))
      go_simp
    · refine step_pureO hs (wants_none rfl) rfl fun L u W hG hdep => ⟨_, ?_, rfl⟩
      have e0 := (show u 1 = .int .i64 32 from hG 1 (hdep 1 (by kernel_rfl)))
      go_simp
      try simp [bne]
    · exact step_pureO hs (wants_none rfl) rfl fun L u W hG hdep => ⟨_, run_move rfl, (show u 2 = .bool false from hG 2 (hdep 2 (by kernel_rfl)))⟩
    · exact step_pureO hs (wants_on 3 rfl rfl (by kernel_rfl) (fun _ => rfl)) rfl fun L u W hG hdep => ⟨_, run_move rfl, HC6.out⟩
    · refine step_pureO hs (wants_on 3 rfl rfl (by kernel_rfl) (fun _ => rfl)) rfl fun L u W hG hdep => ⟨_, ?_, rfl⟩
      have e0 := (show u 4 = .int .i64 0 from hG 4 (hdep 4 (by kernel_rfl)))
      go_simp
      try simp [bne]
    · exact step_pick false hs (wants_none rfl) rfl rfl (fun L u W hG hdep => (show u 3 = .bool false from hG 3 (hdep 3 (by kernel_rfl)))) (fun L u W hG hdep => (show u 5 = .bool false from hG 5 (hdep 5 (by kernel_rfl))))
    · exact step_pureO hs (wants_none rfl) rfl fun L u W hG hdep => ⟨_, run_move rfl, (show u 6 = .bool false from hG 6 (hdep 6 (by kernel_rfl)))⟩
    · exact step_load q5 0 hs (wants_on 7 rfl rfl (by kernel_rfl) (fun _ => rfl)) rfl rfl tyP (fun _ => E5.out) hm5.lt hm5 (noSto_apart (by kernel_rfl))
    · exact step_load q3 0 hs (wants_on 7 rfl rfl (by kernel_rfl) (fun _ => rfl)) rfl rfl tyP (fun _ => E3.out) hm3.lt hm3 (noSto_apart (by kernel_rfl))
    · refine step_callO hs (wants_on 7 rfl rfl (by kernel_rfl) (fun _ => rfl)) rfl fun L u W hJ hG hL hdep K hK => ?_
      have a0 := (show IsFs rP (u 8) [P] from hG 8 (hdep 8 (by kernel_rfl)))
      have a1 := (show IsFs rP (u 9) [P] from hG 9 (hdep 9 (by kernel_rfl)))
      go_simp
      go_at_call 19
      (with_reducible refine (cPSame (b := true) (decide_eq_true rfl) a0 a1 _).mono ?_); rintro e w1 ⟨rfl, hb⟩
      have hk := hK.out _ _ rfl hb
      exact hk
    · refine step_pureO hs (wants_on 7 rfl rfl (by kernel_rfl) (fun _ => rfl)) rfl fun L u W hG hdep => ⟨_, ?_, rfl⟩
      have e0 := (show u 10 = .bool true from hG 10 (hdep 10 (by kernel_rfl)))
      go_simp
    · exact step_pick false hs (wants_none rfl) rfl rfl (fun L u W hG hdep => (show u 7 = .bool false from hG 7 (hdep 7 (by kernel_rfl)))) (fun L u W hG hdep => (show u 11 = .bool false from hG 11 (hdep 11 (by kernel_rfl))))
  intro L6 u6 W6 hall hJ hG
  have hb := hJ.all rfl
  have hbel := Below.call hbel hb
  have hm3 := hm3.later hb
  have hm5 := hm5.later hb
  have ht3 := there_later ht3 hb
  have ht5 := there_later ht5 hb
  have HB402 := Lib.hid (HB402.out.below' hb)
  have HC28 := Lib.hid (show u6 2 = .bool false from hG 2 (by simp))
  have HC29 := Lib.hid (show u6 3 = .bool false from hG 3 (by simp))
  have HC31 := Lib.hid (show u6 5 = .bool false from hG 5 (by simp))
  have HC32 := Lib.hid (show u6 6 = .bool false from hG 6 (by simp))
  have HC33 := Lib.hid (show u6 7 = .bool false from hG 7 (by simp))
  have HC36 := Lib.hid (show u6 10 = .bool true from hG 10 (by simp))
  have HC37 := Lib.hid (show u6 11 = .bool false from hG 11 (by simp))
  have HC38 := Lib.hid (show u6 12 = .bool false from hG 12 (by simp))
  have hbel0 := hbel
  clear hJ hG hall hb
  have hx : u6 12 = .bool false := HC38.out
  go_wp2_with fail
  rw [hx]
  clear hx
  obtain ⟨FB, hF⟩ : ∃ F, flipS (encP P) = F := ⟨_, rfl⟩
  have HF := Lib.hid hF
  have HFL : Hid (FB.length = 32) := Lib.hid (by rw [← hF]; exact leB_len _ _)
  clear hF
  go_upto_region 8 with fail
  refine wp_region_turn (fun u => (.slice a na capa :: undef :: u0 0 :: u3 4 :: u4 2 :: u5 5 :: u5 7 :: u 2 :: undef :: undef :: undef :: u1 0 :: u1 1 :: .bool false :: undef :: u3 0 :: u3 1 :: u3 2 :: u3 3 :: u4 0 :: u4 1 :: u5 2 :: u5 0 :: u5 1 :: u5 3 :: u5 4 :: u6 0 :: u6 1 :: u6 2 :: u6 3 :: u6 4 :: u6 5 :: u6 6 :: u6 7 :: u6 8 :: u6 9 :: u6 10 :: u6 11 :: .bool false :: u 0 :: u 1 :: undef :: undef :: undef :: undef :: undef :: undef :: undef :: undef :: undef :: undef :: undef :: undef :: undef :: undef :: undef :: undef :: undef :: undef :: undef :: undef :: undef :: undef :: undef :: undef :: undef :: undef :: undef :: undef :: undef :: undef :: undef :: undef :: undef :: undef :: undef :: undef :: undef :: undef :: []).toArray) (Holds [.oth (fun v => v = .slice (some ⟨gB402, 0, none⟩) 32 cB402), .rd FB, .rd FB] W6) (Keep [.oth (fun v => v = .slice (some ⟨gB402, 0, none⟩) 32 cB402), .rd FB, .rd FB] W6) (fun _ => undef) ?_ (by rfl) Keep.start (holds_soft (by kernel_rfl)) ?_ ?_
  · intro u i v h
    rcases i with _ | _ | _ | i
    all_goals first | (simp [Act.put, putV]; done) | (exfalso; simp at h; omega)
  · intro hs
    refine ⟨?_, ?_, ?_, trivial⟩
    · exact step_pureO hs (wants_none rfl) rfl fun L u W hG hdep => ⟨_, run_move rfl, EB402.out⟩
    · refine step_callB hs (wants_none rfl) rfl fun L u W hJ hG hL hdep K hK => ?_
      have x0 := (show u 0 = .slice (some ⟨gB402, 0, none⟩) 32 cB402 from hG 0 (hdep 0 (by kernel_rfl)))
      have hRB0 := (RdB.blk rB402 HB402.out hlB402 hcB402 hmB402).below (hJ.all rfl)
      go_simp
      go_at_call 20
      (with_reducible refine (flip_enc HF.out (k := 255) (bit := 255) (by omega) rfl hRB0).mono ?_); rintro e w1 ⟨g, n, cap, r, rfl, h1, h2, h3, h4, h5, hb⟩
      have hk := hK.out _ _ _ _ _ h1 h2 h3 h4 h5 hb
      simp only [x0] at hk
      exact hk
    · exact step_moveB 1 hs (wants_none rfl) rfl (by first | exact .inl rfl | exact .inr rfl) rfl (by kernel_rfl) (fun _ => rfl)
  intro L8 u8 W8 hall hJ hG
  obtain ⟨gB802, nB802, cB802, rB802, eB802, hgB802, hB802, hlB802, hcB802, hmB802⟩ := (show ∃ g n cap r, u8 2 = .slice (some ⟨g, 0, none⟩) n cap ∧ W6.heap.size ≤ g ∧ Blk W8 g (FB.map bV ++ r) 5 ∧ FB.length = n ∧ n ≤ cap ∧ cap ≤ maxLen from hG 2 (by simp))
  have hgB802 : w.heap.size ≤ gB802 := by have := hbel0.size; omega
  have EB802 := Lib.hid eB802; clear eB802
  obtain rfl : nB802 = 32 := by have h : (((FB).length : Nat) : Int) = 32 := (by rw [HFL.out]; rfl); omega
  have HB802 := Lib.hid hB802; clear hB802
  have HE802_q3 := Lib.hid (show q3 ≠ gB802 by have := there_lt ht3 (by omega); omega)
  have HE802_q5 := Lib.hid (show q5 ≠ gB802 by have := there_lt ht5 (by omega); omega)
  have hb := hJ.all rfl
  have hbel := Below.call hbel hb
  have hm3 := hm3.later hb
  have hm5 := hm5.later hb
  have ht3 := there_later ht3 hb
  have ht5 := there_later ht5 hb
  have HB402 := Lib.hid (HB402.out.below' hb)
  have hbel0 := hbel
  clear hJ hG hall hb
  by_cases hx : P.x = 0
  · have HX := Lib.hid hx; clear hx
    have HD := Lib.hid (dec_flip0 HX.out)
    rw [HF.out] at HD
    go_upto_region 9 with fail
    refine wp_region_turn (fun u => (.slice a na capa :: undef :: u0 0 :: u3 4 :: u4 2 :: u5 5 :: u5 7 :: u8 2 :: u 5 :: u 7 :: undef :: u1 0 :: u1 1 :: .bool false :: undef :: u3 0 :: u3 1 :: u3 2 :: u3 3 :: u4 0 :: u4 1 :: u5 2 :: u5 0 :: u5 1 :: u5 3 :: u5 4 :: u6 0 :: u6 1 :: u6 2 :: u6 3 :: u6 4 :: u6 5 :: u6 6 :: u6 7 :: u6 8 :: u6 9 :: u6 10 :: u6 11 :: .bool false :: u8 0 :: u8 1 :: u 2 :: u 0 :: u 1 :: u 3 :: u 4 :: undef :: undef :: undef :: undef :: undef :: undef :: undef :: undef :: undef :: undef :: undef :: undef :: undef :: undef :: undef :: undef :: undef :: undef :: undef :: undef :: undef :: undef :: undef :: undef :: undef :: undef :: undef :: undef :: undef :: undef :: undef :: undef :: undef :: []).toArray) (Holds [.oth (fun v => v = .slice (some ⟨gB802, 0, none⟩) 32 cB802), .oth (fun v => IsTV rP v [Cp.zero] (.int .i64 12)), .oth (fun v => IsTV rP v [Cp.zero] (.int .i64 12)), .val rP [Cp.zero], .oth (fun v => v = .int .i64 12), .new 20, .st 5 rP [Cp.zero], .oth (fun v => v = .int .i64 12)] W8) (Keep [.oth (fun v => v = .slice (some ⟨gB802, 0, none⟩) 32 cB802), .oth (fun v => IsTV rP v [Cp.zero] (.int .i64 12)), .oth (fun v => IsTV rP v [Cp.zero] (.int .i64 12)), .val rP [Cp.zero], .oth (fun v => v = .int .i64 12), .new 20, .st 5 rP [Cp.zero], .oth (fun v => v = .int .i64 12)] W8) (fun _ => undef) ?_ (by rfl) Keep.start (holds_soft (by kernel_rfl)) ?_ ?_
    · intro u i v h
      rcases i with _ | _ | _ | _ | _ | _ | _ | _ | i
      all_goals first | (simp [Act.put, putV]; done) | (exfalso; simp at h; omega)
    · intro hs
      refine ⟨?_, ?_, ?_, ?_, ?_, ?_, ?_, ?_, trivial⟩
      · exact step_pureO hs (wants_none rfl) rfl fun L u W hG hdep => ⟨_, run_move rfl, EB802.out⟩
      · refine step_callO hs (wants_none rfl) rfl fun L u W hJ hG hL hdep K hK => ?_
        have x0 := (show u 0 = .slice (some ⟨gB802, 0, none⟩) 32 cB802 from hG 0 (hdep 0 (by kernel_rfl)))
        have hRB0 := (RdB.blk rB802 HB802.out hlB802 hcB802 hmB802).below (hJ.all rfl)
        go_simp
        go_at_call 10
        (with_reducible refine (cDecode HD.out.1 HD.out.2 hRB0).mono ?_); rintro e w1 ⟨r, rfl, hr, hb⟩
        have hk := hK.out _ _ ⟨r, rfl, hr⟩ hb
        simp only [x0] at hk
        exact hk
      · exact step_pureO hs (wants_none rfl) rfl fun L u W hG hdep => ⟨_, run_move rfl, (show IsTV rP (u 1) [Cp.zero] (.int .i64 12) from hG 1 (hdep 1 (by kernel_rfl)))⟩
      · exact step_pure hs (wants_none rfl) rfl fun L u W hG hdep => run_extractV0 rfl (show IsTV rP (u 2) [Cp.zero] (.int .i64 12) from hG 2 (hdep 2 (by kernel_rfl)))
      · exact step_pureO hs (wants_none rfl) rfl fun L u W hG hdep => run_extractV1 rfl (show IsTV rP (u 2) [Cp.zero] (.int .i64 12) from hG 2 (hdep 2 (by kernel_rfl)))
      · exact step_alloc hs (wants_none rfl) rfl rfl (by omega) rfl allocP
      · exact step_store 5 hs (by kernel_rfl) (wants_none rfl) rfl rfl rfl (by kernel_rfl) (by kernel_rfl) (by kernel_rfl) (by kernel_rfl) (fun _ => rfl) (gives_op 3 rfl (by kernel_rfl) (fun _ => rfl)) tyP rfl
      · exact step_pureO hs (wants_none rfl) rfl fun L u W hG hdep => ⟨_, run_assign rfl, (show u 4 = .int .i64 12 from hG 4 (hdep 4 (by kernel_rfl)))⟩
    intro L9 u9a W9a hall hJ hG
    obtain ⟨q8, e8, hq8, _, ht8⟩ := (show ∃ g, u9a 5 = .pointer (some ⟨g, 0, none⟩) ∧ W8.heap.size ≤ g ∧ 0 < 20 ∧ W9a.there g 0 20 from hG 5 (by simp))
    have hm8 : HasFs rP W9a q8 0 [Cp.zero] := by
      obtain ⟨g, e, _, h⟩ := (show ∃ g, u9a 5 = .pointer (some ⟨g, 0, none⟩) ∧ W8.heap.size ≤ g ∧ HasFs rP W9a g 0 [Cp.zero] from hG 6 (by simp))
      rw [e8] at e; cases e; exact h
    have HD8_q3 := Lib.hid (show q3 ≠ q8 by have := there_lt ht3 (by omega); omega)
    have HD8_q5 := Lib.hid (show q5 ≠ q8 by have := there_lt ht5 (by omega); omega)
    have hq8 : w.heap.size ≤ q8 := by have := hbel0.size; omega
    have E8 := Lib.hid e8; clear e8
    have hb := hJ.all rfl
    have hbel := Below.call hbel hb
    have hm3 := hm3.later hb
    have hm5 := hm5.later hb
    have ht3 := there_later ht3 hb
    have ht5 := there_later ht5 hb
    have HB402 := Lib.hid (HB402.out.below' hb)
    have HB802 := Lib.hid (HB802.out.below' hb)
    have HC9 := Lib.hid (show u9a 7 = .int .i64 12 from hG 7 (by simp))
    have hbel0 := hbel
    clear hJ hG hall hb
    go_upto_region 10 with fail
    refine wp_region_turn (fun u => (.slice a na capa :: undef :: u0 0 :: u3 4 :: u4 2 :: u5 5 :: u5 7 :: u8 2 :: u9a 5 :: u9a 7 :: undef :: u1 0 :: u1 1 :: .bool false :: undef :: u3 0 :: u3 1 :: u3 2 :: u3 3 :: u4 0 :: u4 1 :: u5 2 :: u5 0 :: u5 1 :: u5 3 :: u5 4 :: u6 0 :: u6 1 :: u6 2 :: u6 3 :: u6 4 :: u6 5 :: u6 6 :: u6 7 :: u6 8 :: u6 9 :: u6 10 :: u6 11 :: .bool false :: u8 0 :: u8 1 :: u9a 2 :: u9a 0 :: u9a 1 :: u9a 3 :: u9a 4 :: u 0 :: u 1 :: undef :: undef :: undef :: undef :: undef :: undef :: undef :: undef :: undef :: undef :: undef :: undef :: undef :: undef :: undef :: undef :: undef :: undef :: undef :: undef :: undef :: undef :: undef :: undef :: undef :: undef :: undef :: undef :: undef :: undef :: undef :: []).toArray) (Holds [.oth (fun v => v = .int .i64 12), .oth (fun v => v = .bool false)] W9a) (Keep [.oth (fun v => v = .int .i64 12), .oth (fun v => v = .bool false)] W9a) (fun _ => undef) ?_ (by rfl) Keep.start (holds_soft (by kernel_rfl)) ?_ ?_
    · intro u i v h
      rcases i with _ | _ | i
      all_goals first | (simp [Act.put, putV]; done) | (exfalso; simp at h; omega)
    · intro hs
      refine ⟨?_, ?_, trivial⟩
      · exact step_pureO hs (wants_none rfl) rfl fun L u W hG hdep => ⟨_, run_move rfl, HC9.out⟩
      · refine step_pureO hs (wants_none rfl) rfl fun L u W hG hdep => ⟨_, ?_, rfl⟩
        have e0 := (show u 0 = .int .i64 12 from hG 0 (hdep 0 (by kernel_rfl)))
        go_simp
        try simp [bne]
    intro L10 u10a W10a hall hJ hG
    have hb := hJ.all rfl
    have hbel := Below.call hbel hb
    have hm3 := hm3.later hb
    have hm5 := hm5.later hb
    have hm8 := hm8.later hb
    have ht3 := there_later ht3 hb
    have ht5 := there_later ht5 hb
    have ht8 := there_later ht8 hb
    have HB402 := Lib.hid (HB402.out.below' hb)
    have HB802 := Lib.hid (HB802.out.below' hb)
    have HC47 := Lib.hid (show u10a 1 = .bool false from hG 1 (by simp))
    have hbel0 := hbel
    clear hJ hG hall hb
    have hx : u10a 1 = .bool false := HC47.out
    go_wp2_with fail
    rw [hx]
    clear hx
    go_upto_region 12 with fail
    refine wp_region_turn (fun u => (.slice a na capa :: undef :: u0 0 :: u3 4 :: u4 2 :: u5 5 :: u5 7 :: u8 2 :: u9a 5 :: u9a 7 :: u 0 :: u1 0 :: u1 1 :: .bool false :: undef :: u3 0 :: u3 1 :: u3 2 :: u3 3 :: u4 0 :: u4 1 :: u5 2 :: u5 0 :: u5 1 :: u5 3 :: u5 4 :: u6 0 :: u6 1 :: u6 2 :: u6 3 :: u6 4 :: u6 5 :: u6 6 :: u6 7 :: u6 8 :: u6 9 :: u6 10 :: u6 11 :: .bool false :: u8 0 :: u8 1 :: u9a 2 :: u9a 0 :: u9a 1 :: u9a 3 :: u9a 4 :: u10a 0 :: .bool false :: undef :: undef :: undef :: undef :: undef :: undef :: undef :: undef :: undef :: undef :: undef :: undef :: undef :: undef :: undef :: undef :: undef :: undef :: undef :: undef :: undef :: undef :: undef :: undef :: undef :: undef :: undef :: undef :: undef :: undef :: undef :: []).toArray) (Holds [.box rP [Cp.zero]] W10a) (Keep [.box rP [Cp.zero]] W10a) (fun _ => undef) ?_ (by rfl) Keep.start (holds_soft (by kernel_rfl)) ?_ ?_
    · intro u i v h
      rcases i with _ | i
      all_goals first | (simp [Act.put, putV]; done) | (exfalso; simp at h; omega)
    · intro hs
      refine ⟨?_, trivial⟩
      · exact step_allocZ hs (wants_none rfl) rfl rfl zero_P allocP
    intro L12 u12a W12a hall hJ hG
    obtain ⟨q10, e10, ⟨hq10, _⟩, ht10, hm10⟩ := (show ∃ g, u12a 0 = .pointer (some ⟨g, 0, none⟩) ∧ (W10a.heap.size ≤ g ∧ g < W12a.heap.size) ∧ W12a.there g 0 20 ∧ HasFs rP W12a g 0 [Cp.zero] from hG 0 (by simp))
    have HD10_q3 := Lib.hid (show q3 ≠ q10 by have := there_lt ht3 (by omega); omega)
    have HD10_q5 := Lib.hid (show q5 ≠ q10 by have := there_lt ht5 (by omega); omega)
    have HD10_q8 := Lib.hid (show q8 ≠ q10 by have := there_lt ht8 (by omega); omega)
    have hq10 : w.heap.size ≤ q10 := by have := hbel0.size; omega
    have E10 := Lib.hid e10; clear e10
    have hb := hJ.all rfl
    have hbel := Below.call hbel hb
    have hm3 := hm3.later hb
    have hm5 := hm5.later hb
    have hm8 := hm8.later hb
    have ht3 := there_later ht3 hb
    have ht5 := there_later ht5 hb
    have ht8 := there_later ht8 hb
    have HB402 := Lib.hid (HB402.out.below' hb)
    have HB802 := Lib.hid (HB802.out.below' hb)
    have hbel0 := hbel
    clear hJ hG hall hb
    go_upto_region 13 with fail
    refine wp_region_turn (fun u => (.slice a na capa :: undef :: u 10 :: u3 4 :: u4 2 :: u5 5 :: u5 7 :: u8 2 :: u9a 5 :: u9a 7 :: u12a 0 :: u1 0 :: u1 1 :: .bool false :: undef :: u3 0 :: u3 1 :: u3 2 :: u3 3 :: u4 0 :: u4 1 :: u5 2 :: u5 0 :: u5 1 :: u5 3 :: u5 4 :: u6 0 :: u6 1 :: u6 2 :: u6 3 :: u6 4 :: u6 5 :: u6 6 :: u6 7 :: u6 8 :: u6 9 :: u6 10 :: u6 11 :: .bool false :: u8 0 :: u8 1 :: u9a 2 :: u9a 0 :: u9a 1 :: u9a 3 :: u9a 4 :: u10a 0 :: .bool false :: undef :: undef :: undef :: undef :: undef :: undef :: undef :: undef :: undef :: undef :: undef :: undef :: undef :: undef :: undef :: undef :: undef :: undef :: undef :: undef :: undef :: u 0 :: u 1 :: u 2 :: u 3 :: u 4 :: u 5 :: u 6 :: u 7 :: u 8 :: u 9 :: []).toArray) (Holds [.oth (fun v => v = .int .i64 12), .oth (fun v => v = .bool true), .oth (fun v => v = .bool true), .val rP [P], .val rP [Cp.zero], .oth (fun v => v = .bool true), .oth (fun v => v = .bool true), .oth (fun v => v = .bool true), .oth (fun v => v = .bool true), .oth (fun v => v = .bool true), .oth (fun v => v = .bool true)] W12a) (Keep [.oth (fun v => v = .int .i64 12), .oth (fun v => v = .bool true), .oth (fun v => v = .bool true), .val rP [P], .val rP [Cp.zero], .oth (fun v => v = .bool true), .oth (fun v => v = .bool true), .oth (fun v => v = .bool true), .oth (fun v => v = .bool true), .oth (fun v => v = .bool true), .oth (fun v => v = .bool true)] W12a) (fun k => ((undef :: undef :: undef :: undef :: undef :: undef :: undef :: undef :: undef :: undef :: u0 0 :: []) : List Value).getD k undef) ?_ (by rfl) Keep.start (holds_soft (by kernel_rfl)) ?_ ?_
    · intro u i v h
      rcases i with _ | _ | _ | _ | _ | _ | _ | _ | _ | _ | _ | i
      all_goals first | (simp [Act.put, putV]; done) | (exfalso; simp at h; omega)
    · intro hs
      refine ⟨?_, ?_, ?_, ?_, ?_, ?_, ?_, ?_, ?_, ?_, ?_, trivial⟩
      · exact step_pureO hs (wants_none rfl) rfl fun L u W hG hdep => ⟨_, run_move rfl, HC9.out⟩
      · refine step_pureO hs (wants_none rfl) rfl fun L u W hG hdep => ⟨_, ?_, rfl⟩
        have e0 := (show u 0 = .int .i64 12 from hG 0 (hdep 0 (by kernel_rfl)))
        go_simp
        try simp [bne]
      · exact step_pureO hs (wants_none rfl) rfl fun L u W hG hdep => ⟨_, run_move rfl, (show u 1 = .bool true from hG 1 (hdep 1 (by kernel_rfl)))⟩
      · exact step_load q3 0 hs (wants_on 2 rfl rfl (by kernel_rfl) (fun _ => rfl)) rfl rfl tyP (fun _ => E3.out) hm3.lt hm3 (noSto_apart (by kernel_rfl))
      · exact step_load q10 0 hs (wants_on 2 rfl rfl (by kernel_rfl) (fun _ => rfl)) rfl rfl tyP (fun _ => E10.out) hm10.lt hm10 (noSto_apart (by kernel_rfl))
      · refine step_callO hs (wants_on 2 rfl rfl (by kernel_rfl) (fun _ => rfl)) rfl fun L u W hJ hG hL hdep K hK => ?_
        have a0 := (show IsFs rP (u 3) [P] from hG 3 (hdep 3 (by kernel_rfl)))
        have a1 := (show IsFs rP (u 4) [Cp.zero] from hG 4 (hdep 4 (by kernel_rfl)))
        go_simp
        go_at_call 19
        (with_reducible refine (cPSame (b := true) (decide_eq_true (mulb_x0 HP.out HX.out)) a0 a1 _).mono ?_); rintro e w1 ⟨rfl, hb⟩
        have hk := hK.out _ _ rfl hb
        exact hk
      · exact step_pick true hs (wants_none rfl) rfl rfl (fun L u W hG hdep => (show u 2 = .bool true from hG 2 (hdep 2 (by kernel_rfl)))) (fun L u W hG hdep => (show u 5 = .bool true from hG 5 (hdep 5 (by kernel_rfl))))
      · exact step_pureO hs (wants_none rfl) rfl fun L u W hG hdep => ⟨_, run_move rfl, (show u 6 = .bool true from hG 6 (hdep 6 (by kernel_rfl)))⟩
      · refine step_callO hs (wants_on 7 rfl rfl (by kernel_rfl) (fun _ => rfl)) rfl fun L u W hJ hG hL hdep K hK => ?_
        go_simp
        go_at_call 9
        (with_reducible refine (law8awake_any _).mono ?_); rintro e w1 ⟨rfl, hb⟩
        have hk := hK.out _ _ rfl hb
        exact hk
      · exact step_pick true hs (wants_none rfl) rfl rfl (fun L u W hG hdep => (show u 7 = .bool true from hG 7 (hdep 7 (by kernel_rfl)))) (fun L u W hG hdep => (show u 8 = .bool true from hG 8 (hdep 8 (by kernel_rfl))))
      · exact step_pureO hs (wants_none rfl) rfl fun L u W hG hdep => ⟨_, run_assign rfl, (show u 9 = .bool true from hG 9 (hdep 9 (by kernel_rfl)))⟩
    intro L13 u13a W13a hall hJ hG
    have hb := hJ.all rfl
    have hbel := Below.call hbel hb
    have hm3 := hm3.later hb
    have hm5 := hm5.later hb
    have hm8 := hm8.later hb
    have hm10 := hm10.later hb
    have ht3 := there_later ht3 hb
    have ht5 := there_later ht5 hb
    have ht8 := there_later ht8 hb
    have ht10 := there_later ht10 hb
    have HB402 := Lib.hid (HB402.out.below' hb)
    have HB802 := Lib.hid (HB802.out.below' hb)
    have HC70 := Lib.hid (show u13a 1 = .bool true from hG 1 (by simp))
    have HC71 := Lib.hid (show u13a 2 = .bool true from hG 2 (by simp))
    have HC74 := Lib.hid (show u13a 5 = .bool true from hG 5 (by simp))
    have HC75 := Lib.hid (show u13a 6 = .bool true from hG 6 (by simp))
    have HC76 := Lib.hid (show u13a 7 = .bool true from hG 7 (by simp))
    have HC77 := Lib.hid (show u13a 8 = .bool true from hG 8 (by simp))
    have HC78 := Lib.hid (show u13a 9 = .bool true from hG 9 (by simp))
    have HC2 := Lib.hid (show u13a 10 = .bool true from hG 10 (by simp))
    have hbel0 := hbel
    clear hJ hG hall hb
    rw [HC2.out]
    go_wp2
    go_ret
    exact ⟨rfl, hbel⟩
  · have HX := Lib.hid hx; clear hx
    have HD := Lib.hid (dec_flip1 HX.out)
    rw [HF.out] at HD
    have HE : Hid (encP (Cp.neg P) = FB) := Lib.hid (by rw [← HF.out]; exact (flip_neg HX.out).symm)
    go_upto_region 9 with fail
    refine wp_region_turn (fun u => (.slice a na capa :: undef :: u0 0 :: u3 4 :: u4 2 :: u5 5 :: u5 7 :: u8 2 :: u 5 :: u 7 :: undef :: u1 0 :: u1 1 :: .bool false :: undef :: u3 0 :: u3 1 :: u3 2 :: u3 3 :: u4 0 :: u4 1 :: u5 2 :: u5 0 :: u5 1 :: u5 3 :: u5 4 :: u6 0 :: u6 1 :: u6 2 :: u6 3 :: u6 4 :: u6 5 :: u6 6 :: u6 7 :: u6 8 :: u6 9 :: u6 10 :: u6 11 :: .bool false :: u8 0 :: u8 1 :: u 2 :: u 0 :: u 1 :: u 3 :: u 4 :: undef :: undef :: undef :: undef :: undef :: undef :: undef :: undef :: undef :: undef :: undef :: undef :: undef :: undef :: undef :: undef :: undef :: undef :: undef :: undef :: undef :: undef :: undef :: undef :: undef :: undef :: undef :: undef :: undef :: undef :: undef :: undef :: undef :: []).toArray) (Holds [.oth (fun v => v = .slice (some ⟨gB802, 0, none⟩) 32 cB802), .oth (fun v => IsTV rP v [Cp.neg P] (.int .i64 0)), .oth (fun v => IsTV rP v [Cp.neg P] (.int .i64 0)), .val rP [Cp.neg P], .oth (fun v => v = .int .i64 0), .new 20, .st 5 rP [Cp.neg P], .oth (fun v => v = .int .i64 0)] W8) (Keep [.oth (fun v => v = .slice (some ⟨gB802, 0, none⟩) 32 cB802), .oth (fun v => IsTV rP v [Cp.neg P] (.int .i64 0)), .oth (fun v => IsTV rP v [Cp.neg P] (.int .i64 0)), .val rP [Cp.neg P], .oth (fun v => v = .int .i64 0), .new 20, .st 5 rP [Cp.neg P], .oth (fun v => v = .int .i64 0)] W8) (fun _ => undef) ?_ (by rfl) Keep.start (holds_soft (by kernel_rfl)) ?_ ?_
    · intro u i v h
      rcases i with _ | _ | _ | _ | _ | _ | _ | _ | i
      all_goals first | (simp [Act.put, putV]; done) | (exfalso; simp at h; omega)
    · intro hs
      refine ⟨?_, ?_, ?_, ?_, ?_, ?_, ?_, ?_, trivial⟩
      · exact step_pureO hs (wants_none rfl) rfl fun L u W hG hdep => ⟨_, run_move rfl, EB802.out⟩
      · refine step_callO hs (wants_none rfl) rfl fun L u W hJ hG hL hdep K hK => ?_
        have x0 := (show u 0 = .slice (some ⟨gB802, 0, none⟩) 32 cB802 from hG 0 (hdep 0 (by kernel_rfl)))
        have hRB0 := (RdB.blk rB802 HB802.out hlB802 hcB802 hmB802).below (hJ.all rfl)
        go_simp
        go_at_call 10
        (with_reducible refine (cDecode HD.out.1 HD.out.2 hRB0).mono ?_); rintro e w1 ⟨r, rfl, hr, hb⟩
        have hk := hK.out _ _ ⟨r, rfl, hr⟩ hb
        simp only [x0] at hk
        exact hk
      · exact step_pureO hs (wants_none rfl) rfl fun L u W hG hdep => ⟨_, run_move rfl, (show IsTV rP (u 1) [Cp.neg P] (.int .i64 0) from hG 1 (hdep 1 (by kernel_rfl)))⟩
      · exact step_pure hs (wants_none rfl) rfl fun L u W hG hdep => run_extractV0 rfl (show IsTV rP (u 2) [Cp.neg P] (.int .i64 0) from hG 2 (hdep 2 (by kernel_rfl)))
      · exact step_pureO hs (wants_none rfl) rfl fun L u W hG hdep => run_extractV1 rfl (show IsTV rP (u 2) [Cp.neg P] (.int .i64 0) from hG 2 (hdep 2 (by kernel_rfl)))
      · exact step_alloc hs (wants_none rfl) rfl rfl (by omega) rfl allocP
      · exact step_store 5 hs (by kernel_rfl) (wants_none rfl) rfl rfl rfl (by kernel_rfl) (by kernel_rfl) (by kernel_rfl) (by kernel_rfl) (fun _ => rfl) (gives_op 3 rfl (by kernel_rfl) (fun _ => rfl)) tyP rfl
      · exact step_pureO hs (wants_none rfl) rfl fun L u W hG hdep => ⟨_, run_assign rfl, (show u 4 = .int .i64 0 from hG 4 (hdep 4 (by kernel_rfl)))⟩
    intro L9 u9b W9b hall hJ hG
    obtain ⟨q8, e8, hq8, _, ht8⟩ := (show ∃ g, u9b 5 = .pointer (some ⟨g, 0, none⟩) ∧ W8.heap.size ≤ g ∧ 0 < 20 ∧ W9b.there g 0 20 from hG 5 (by simp))
    have hm8 : HasFs rP W9b q8 0 [Cp.neg P] := by
      obtain ⟨g, e, _, h⟩ := (show ∃ g, u9b 5 = .pointer (some ⟨g, 0, none⟩) ∧ W8.heap.size ≤ g ∧ HasFs rP W9b g 0 [Cp.neg P] from hG 6 (by simp))
      rw [e8] at e; cases e; exact h
    have HD8_q3 := Lib.hid (show q3 ≠ q8 by have := there_lt ht3 (by omega); omega)
    have HD8_q5 := Lib.hid (show q5 ≠ q8 by have := there_lt ht5 (by omega); omega)
    have hq8 : w.heap.size ≤ q8 := by have := hbel0.size; omega
    have E8 := Lib.hid e8; clear e8
    have hb := hJ.all rfl
    have hbel := Below.call hbel hb
    have hm3 := hm3.later hb
    have hm5 := hm5.later hb
    have ht3 := there_later ht3 hb
    have ht5 := there_later ht5 hb
    have HB402 := Lib.hid (HB402.out.below' hb)
    have HB802 := Lib.hid (HB802.out.below' hb)
    have HC9 := Lib.hid (show u9b 7 = .int .i64 0 from hG 7 (by simp))
    have hbel0 := hbel
    clear hJ hG hall hb
    go_upto_region 10 with fail
    refine wp_region_turn (fun u => (.slice a na capa :: undef :: u0 0 :: u3 4 :: u4 2 :: u5 5 :: u5 7 :: u8 2 :: u9b 5 :: u9b 7 :: undef :: u1 0 :: u1 1 :: .bool false :: undef :: u3 0 :: u3 1 :: u3 2 :: u3 3 :: u4 0 :: u4 1 :: u5 2 :: u5 0 :: u5 1 :: u5 3 :: u5 4 :: u6 0 :: u6 1 :: u6 2 :: u6 3 :: u6 4 :: u6 5 :: u6 6 :: u6 7 :: u6 8 :: u6 9 :: u6 10 :: u6 11 :: .bool false :: u8 0 :: u8 1 :: u9b 2 :: u9b 0 :: u9b 1 :: u9b 3 :: u9b 4 :: u 0 :: u 1 :: undef :: undef :: undef :: undef :: undef :: undef :: undef :: undef :: undef :: undef :: undef :: undef :: undef :: undef :: undef :: undef :: undef :: undef :: undef :: undef :: undef :: undef :: undef :: undef :: undef :: undef :: undef :: undef :: undef :: undef :: undef :: []).toArray) (Holds [.oth (fun v => v = .int .i64 0), .oth (fun v => v = .bool true)] W9b) (Keep [.oth (fun v => v = .int .i64 0), .oth (fun v => v = .bool true)] W9b) (fun _ => undef) ?_ (by rfl) Keep.start (holds_soft (by kernel_rfl)) ?_ ?_
    · intro u i v h
      rcases i with _ | _ | i
      all_goals first | (simp [Act.put, putV]; done) | (exfalso; simp at h; omega)
    · intro hs
      refine ⟨?_, ?_, trivial⟩
      · exact step_pureO hs (wants_none rfl) rfl fun L u W hG hdep => ⟨_, run_move rfl, HC9.out⟩
      · refine step_pureO hs (wants_none rfl) rfl fun L u W hG hdep => ⟨_, ?_, rfl⟩
        have e0 := (show u 0 = .int .i64 0 from hG 0 (hdep 0 (by kernel_rfl)))
        go_simp
        try simp [bne]
    intro L10 u10b W10b hall hJ hG
    have hb := hJ.all rfl
    have hbel := Below.call hbel hb
    have hm3 := hm3.later hb
    have hm5 := hm5.later hb
    have hm8 := hm8.later hb
    have ht3 := there_later ht3 hb
    have ht5 := there_later ht5 hb
    have ht8 := there_later ht8 hb
    have HB402 := Lib.hid (HB402.out.below' hb)
    have HB802 := Lib.hid (HB802.out.below' hb)
    have HC47 := Lib.hid (show u10b 1 = .bool true from hG 1 (by simp))
    have hbel0 := hbel
    clear hJ hG hall hb
    have hx : u10b 1 = .bool true := HC47.out
    go_wp2_with fail
    rw [hx]
    clear hx
    go_upto_region 11 with fail
    refine wp_region_mid (fun u => (.slice a na capa :: undef :: u 21 :: u3 4 :: u4 2 :: u5 5 :: u5 7 :: u8 2 :: u9b 5 :: u9b 7 :: undef :: u1 0 :: u1 1 :: .bool false :: undef :: u3 0 :: u3 1 :: u3 2 :: u3 3 :: u4 0 :: u4 1 :: u5 2 :: u5 0 :: u5 1 :: u5 3 :: u5 4 :: u6 0 :: u6 1 :: u6 2 :: u6 3 :: u6 4 :: u6 5 :: u6 6 :: u6 7 :: u6 8 :: u6 9 :: u6 10 :: u6 11 :: .bool false :: u8 0 :: u8 1 :: u9b 2 :: u9b 0 :: u9b 1 :: u9b 3 :: u9b 4 :: u10b 0 :: .bool true :: u 0 :: u 1 :: u 2 :: u 3 :: u 4 :: u 5 :: u 6 :: u 7 :: u 8 :: u 9 :: u 10 :: u 11 :: u 12 :: u 13 :: u 14 :: u 15 :: u 16 :: u 17 :: u 18 :: u 19 :: u 20 :: undef :: undef :: undef :: undef :: undef :: undef :: undef :: undef :: undef :: undef :: []).toArray) (Holds [.val rP [Cp.neg P], .val rP [P], .val rP [Cp.neg P], .oth (fun v => v = .bool true), .oth (fun v => v = .bool true), .val rP [Cp.neg P], .val rP [P], .oth (fun v => v = .bool false), .oth (fun v => v = .bool true), .oth (fun v => v = .bool true), .oth (fun v => v = .bool true), .val rP [Cp.neg P], .rd (encP (Cp.neg P)), .oth (fun v => v = (.string (bs (encP (Cp.neg P))))), .oth (fun v => v = .slice (some ⟨gB802, 0, none⟩) 32 cB802), .oth (fun v => v = (.string (bs FB))), .oth (fun v => v = .bool true), .oth (fun v => v = .bool true), .oth (fun v => v = .bool true), .oth (fun v => v = .bool true), .oth (fun v => v = .bool true), .oth (fun v => v = .bool true)] W10b) (Keep [.val rP [Cp.neg P], .val rP [P], .val rP [Cp.neg P], .oth (fun v => v = .bool true), .oth (fun v => v = .bool true), .val rP [Cp.neg P], .val rP [P], .oth (fun v => v = .bool false), .oth (fun v => v = .bool true), .oth (fun v => v = .bool true), .oth (fun v => v = .bool true), .val rP [Cp.neg P], .rd (encP (Cp.neg P)), .oth (fun v => v = (.string (bs (encP (Cp.neg P))))), .oth (fun v => v = .slice (some ⟨gB802, 0, none⟩) 32 cB802), .oth (fun v => v = (.string (bs FB))), .oth (fun v => v = .bool true), .oth (fun v => v = .bool true), .oth (fun v => v = .bool true), .oth (fun v => v = .bool true), .oth (fun v => v = .bool true), .oth (fun v => v = .bool true)] W10b) (fun k => ((undef :: undef :: undef :: undef :: undef :: undef :: undef :: undef :: undef :: undef :: undef :: undef :: undef :: undef :: undef :: undef :: undef :: undef :: undef :: undef :: undef :: u0 0 :: []) : List Value).getD k undef) (by kernel_rfl) (by kernel_rfl) ?_ (by rfl) Keep.drew (holds_soft (by kernel_rfl)) ?_ ?_
    · intro u i v h
      rcases i with _ | _ | _ | _ | _ | _ | _ | _ | _ | _ | _ | _ | _ | _ | _ | _ | _ | _ | _ | _ | _ | _ | i
      all_goals first | (simp [Act.put, putV]; done) | (exfalso; simp at h; omega)
    · intro hs
      refine ⟨?_, ?_, ?_, ?_, ?_, ?_, ?_, ?_, ?_, ?_, ?_, ?_, ?_, ?_, ?_, ?_, ?_, ?_, ?_, ?_, ?_, ?_, trivial⟩
      · exact step_load q8 0 hs (wants_none rfl) rfl rfl tyP (fun _ => E8.out) hm8.lt hm8 (noSto_apart (by kernel_rfl))
      · exact step_load q3 0 hs (wants_none rfl) rfl rfl tyP (fun _ => E3.out) hm3.lt hm3 (noSto_apart (by kernel_rfl))
      · refine step_call hs (wants_none rfl) rfl fun L u W hJ hG hL hdep K hK => ?_
        have a0 := (show IsFs rP (u 1) [P] from hG 1 (hdep 1 (by kernel_rfl)))
        go_simp
        go_at_call 21
        (with_reducible refine (cPNeg a0 _).mono ?_); rintro e w1 ⟨r, rfl, hr, hb⟩
        have hk := hK.out _ _ hr hb
        exact hk
      · refine step_callO hs (wants_none rfl) rfl fun L u W hJ hG hL hdep K hK => ?_
        have a0 := (show IsFs rP (u 0) [Cp.neg P] from hG 0 (hdep 0 (by kernel_rfl)))
        have a1 := (show IsFs rP (u 2) [Cp.neg P] from hG 2 (hdep 2 (by kernel_rfl)))
        go_simp
        go_at_call 19
        (with_reducible refine (cPSame (b := true) (decide_eq_true rfl) a0 a1 _).mono ?_); rintro e w1 ⟨rfl, hb⟩
        have hk := hK.out _ _ rfl hb
        exact hk
      · exact step_pureO hs (wants_none rfl) rfl fun L u W hG hdep => ⟨_, run_move rfl, (show u 3 = .bool true from hG 3 (hdep 3 (by kernel_rfl)))⟩
      · exact step_load q8 0 hs (wants_on 4 rfl rfl (by kernel_rfl) (fun _ => rfl)) rfl rfl tyP (fun _ => E8.out) hm8.lt hm8 (noSto_apart (by kernel_rfl))
      · exact step_load q3 0 hs (wants_on 4 rfl rfl (by kernel_rfl) (fun _ => rfl)) rfl rfl tyP (fun _ => E3.out) hm3.lt hm3 (noSto_apart (by kernel_rfl))
      · refine step_callO hs (wants_on 4 rfl rfl (by kernel_rfl) (fun _ => rfl)) rfl fun L u W hJ hG hL hdep K hK => ?_
        have a0 := (show IsFs rP (u 5) [Cp.neg P] from hG 5 (hdep 5 (by kernel_rfl)))
        have a1 := (show IsFs rP (u 6) [P] from hG 6 (hdep 6 (by kernel_rfl)))
        go_simp
        go_at_call 19
        (with_reducible refine (cPSame (b := false) (decide_eq_false (neg_ne HX.out)) a0 a1 _).mono ?_); rintro e w1 ⟨rfl, hb⟩
        have hk := hK.out _ _ rfl hb
        exact hk
      · refine step_pureO hs (wants_on 4 rfl rfl (by kernel_rfl) (fun _ => rfl)) rfl fun L u W hG hdep => ⟨_, ?_, rfl⟩
        have e0 := (show u 7 = .bool false from hG 7 (hdep 7 (by kernel_rfl)))
        go_simp
      · exact step_pick true hs (wants_none rfl) rfl rfl (fun L u W hG hdep => (show u 4 = .bool true from hG 4 (hdep 4 (by kernel_rfl)))) (fun L u W hG hdep => (show u 8 = .bool true from hG 8 (hdep 8 (by kernel_rfl))))
      · exact step_pureO hs (wants_none rfl) rfl fun L u W hG hdep => ⟨_, run_move rfl, (show u 9 = .bool true from hG 9 (hdep 9 (by kernel_rfl)))⟩
      · exact step_load q8 0 hs (wants_on 10 rfl rfl (by kernel_rfl) (fun _ => rfl)) rfl rfl tyP (fun _ => E8.out) hm8.lt hm8 (noSto_apart (by kernel_rfl))
      · refine step_callB hs (wants_on 10 rfl rfl (by kernel_rfl) (fun _ => rfl)) rfl fun L u W hJ hG hL hdep K hK => ?_
        have a0 := (show IsFs rP (u 11) [Cp.neg P] from hG 11 (hdep 11 (by kernel_rfl)))
        go_simp
        go_at_call 13
        (with_reducible refine (cEncode a0 _).mono ?_); rintro e w1 ⟨g, n, cap, r, rfl, h1, h2, h3, h4, h5, hb⟩
        have hk := hK.out _ _ _ _ _ h1 h2 h3 h4 h5 hb
        exact hk
      · exact step_conv 12 hs (wants_on 10 rfl rfl (by kernel_rfl) (fun _ => rfl)) rfl rfl rfl (by kernel_rfl) (fun _ => rfl)
      · exact step_pureO hs (wants_on 10 rfl rfl (by kernel_rfl) (fun _ => rfl)) rfl fun L u W hG hdep => ⟨_, run_move rfl, EB802.out⟩
      · exact step_convC hs (wants_on 10 rfl rfl (by kernel_rfl) (fun _ => rfl)) rfl rfl (RdB.blk rB802 HB802.out hlB802 hcB802 hmB802) (by kernel_rfl) (fun L u W hG hdep => (show u 14 = .slice (some ⟨gB802, 0, none⟩) 32 cB802 from hG 14 (hdep 14 (by kernel_rfl))))
      · exact step_pureO hs (wants_on 10 rfl rfl (by kernel_rfl) (fun _ => rfl)) rfl fun L u W hG hdep => ⟨_, run_eqlS rfl (show u 13 = (.string (bs (encP (Cp.neg P)))) from hG 13 (hdep 13 (by kernel_rfl))) (show u 15 = (.string (bs FB)) from hG 15 (hdep 15 (by kernel_rfl))), by rw [decide_eq_true (show (encP (Cp.neg P)) = FB from HE.out)]⟩
      · exact step_pick true hs (wants_none rfl) rfl rfl (fun L u W hG hdep => (show u 10 = .bool true from hG 10 (hdep 10 (by kernel_rfl)))) (fun L u W hG hdep => (show u 16 = .bool true from hG 16 (hdep 16 (by kernel_rfl))))
      · exact step_pureO hs (wants_none rfl) rfl fun L u W hG hdep => ⟨_, run_move rfl, (show u 17 = .bool true from hG 17 (hdep 17 (by kernel_rfl)))⟩
      · refine step_callO hs (wants_on 18 rfl rfl (by kernel_rfl) (fun _ => rfl)) rfl fun L u W hJ hG hL hdep K hK => ?_
        go_simp
        go_at_call 9
        (with_reducible refine (law8awake_any _).mono ?_); rintro e w1 ⟨rfl, hb⟩
        have hk := hK.out _ _ rfl hb
        exact hk
      · exact step_pick true hs (wants_none rfl) rfl rfl (fun L u W hG hdep => (show u 18 = .bool true from hG 18 (hdep 18 (by kernel_rfl)))) (fun L u W hG hdep => (show u 19 = .bool true from hG 19 (hdep 19 (by kernel_rfl))))
      · exact step_pureO hs (wants_none rfl) rfl fun L u W hG hdep => ⟨_, run_assign rfl, (show u 20 = .bool true from hG 20 (hdep 20 (by kernel_rfl)))⟩
    intro L11 u11b W11b hall hJ hG
    have hb := hJ.all rfl
    have hbel := Below.call hbel hb
    have hm3 := hm3.later hb
    have hm5 := hm5.later hb
    have hm8 := hm8.later hb
    have ht3 := there_later ht3 hb
    have ht5 := there_later ht5 hb
    have ht8 := there_later ht8 hb
    have HB402 := Lib.hid (HB402.out.below' hb)
    have HB802 := Lib.hid (HB802.out.below' hb)
    have HC51 := Lib.hid (show u11b 3 = .bool true from hG 3 (by simp))
    have HC52 := Lib.hid (show u11b 4 = .bool true from hG 4 (by simp))
    have HC55 := Lib.hid (show u11b 7 = .bool false from hG 7 (by simp))
    have HC56 := Lib.hid (show u11b 8 = .bool true from hG 8 (by simp))
    have HC57 := Lib.hid (show u11b 9 = .bool true from hG 9 (by simp))
    have HC58 := Lib.hid (show u11b 10 = .bool true from hG 10 (by simp))
    have HC64 := Lib.hid (show u11b 16 = .bool true from hG 16 (by simp))
    have HC65 := Lib.hid (show u11b 17 = .bool true from hG 17 (by simp))
    have HC66 := Lib.hid (show u11b 18 = .bool true from hG 18 (by simp))
    have HC67 := Lib.hid (show u11b 19 = .bool true from hG 19 (by simp))
    have HC68 := Lib.hid (show u11b 20 = .bool true from hG 20 (by simp))
    have HC2 := Lib.hid (show u11b 21 = .bool true from hG 21 (by simp))
    have hbel0 := hbel
    clear hJ hG hall hb
    rw [HC2.out]
    go_wp2
    go_ret
    exact ⟨rfl, hbel⟩
set_option maxRecDepth 100000 in
theorem pointForms_any {a : Option Addr} {na capa : Nat} {la : List UInt8} (w : World) (ha : RdB w a na capa la) :
    Calls Try.prog 4 #[.slice a na capa] w fun e w' => e = .returned (.bool true) ∧ Below w.heap.size w w' := by
  by_cases t0 : (100 : Int) < (na : Int)
  · have e0 : decide ((100 : Int) < (na : Int)) = true := decide_eq_true t0
    clear t0
    go_enter Try.func4, Try.ntmps4
    go_wp2_with (go_at_call 9; (with_reducible refine (law8awake_any _).mono ?_); rintro e w2 ⟨rfl, h2⟩)
    go_ret
    exact ⟨rfl, h2⟩
  exact pointForms_few w ha t0
namespace pointFormsDone
theorem own : ownKnob Try.prog.godebug = none := by kernel_rfl
theorem laidOut : laidOutB Try.prog = true := by kernel_rfl
set_option maxRecDepth 100000 in
theorem lifted (os : Os) (started : os.Started) (H : Type) (enc : TypeId × Value → H) :
    ReturnsInHanded {} Try.checked os 4 .any (Rows.pointFormsSpec.pre6 enc Try.prog Try.f4 Rows.pointFormsRow.domain false) (Rows.pointFormsSpec.post enc Try.prog Try.f4 false true false false) := by
  refine returnsInHanded_of_change (C := Try.checked) own started (by kernel_rfl) Try.func4
    (ChangeSpec.witness6 (enc := enc) (C := Try.checked) false ⟨#[], #[.slice none 0 0], []⟩ 8 (by kernel_rfl) (by kernel_rfl) (by kernel_rfl) (by kernel_rfl)) ?_
  intro W base args ds gs before hval0 hW hcnd _
  have hval : ∀ (j : Nat) t v, Try.f4.params[j]? = some t → args[j]? = some v → Value.okWide Try.prog W .any base t v := hval0
  have hW' := hW
  obtain ⟨p, q, hA0, hV, rfl, hfz, hnd⟩ := hW
  have hA : DataW.TrodAll enc Try.prog W 0 (fun _ => true) true Try.f4.params.toList args.toList ds p := hA0
  rw [Try.params4] at hA hval
  obtain ⟨v0, vs0, d0, ds0, p0, q0, hargs, rfl, rfl, h0, r0⟩ := trodAll_cons hA
  obtain ⟨rfl, rfl, rfl⟩ := trodAll_nil r0
  obtain rfl : args = #[v0] := by cases args; simp_all
  obtain ⟨rfl, rfl⟩ := trodVars_none hV
  obtain ⟨a0, len0, cap0, rfl⟩ := okWide_slice Try.underlying22 (hval 0 22 v0 rfl rfl)
  have k0 := h0
  have lt0 : ∀ x ∈ p0, x.block < W.heap.size := by obtain ⟨m, hm⟩ := k0; exact DataW.trod_lt m _ _ _ hm
  obtain ⟨l0, w0⟩ : ∃ l, RdB W a0 len0 cap0 l := by
    obtain ⟨fuel, hf⟩ := h0
    rcases open_ints Try.underlying22 Try.underlying5 (by kernel_rfl) hf with ⟨hcs, _⟩ | ⟨x, l, c, zs, hcs, _, hl, hm, hz, _, hcell, hwz⟩
    · simp [Value.cells] at hcs
      obtain ⟨rfl, rfl, rfl⟩ := hcs
      exact ⟨[], RdB.nil _⟩
    · simp [Value.cells] at hcs
      obtain ⟨rfl, rfl, rfl⟩ := hcs
      exact RdB.of_ints (.inr ⟨_, rfl, hl, hm, by simpa using hz, hcell, hwz⟩)
  clear hA0 hval0
  refine (pointForms_any W w0).mono fun e W' ⟨he, bel⟩ => ?_
  subst he
  exact ⟨_, rfl, _, _, _, [], _, [], hW', trodAll_mk1 (shut_bool Try.underlying4 _), (trodAll_cons_mk (Below.trod laidOut (by kernel_rfl) (of_decide_eq_true (by kernel_rfl)) k0 bel lt0) trodAll_mk0), rfl, bel.frame _, fun h => by cases h⟩
theorem over : Rows.pointFormsRow.holds Try.pinned (OpenSpec.ofChange Rows.pointFormsSpec) :=
  OpenClaim.holds_of_wide 4 Try.f4 rfl rfl rfl rfl rfl rfl rfl ⟨rfl, rfl, rfl, rfl, rfl⟩ rfl rfl rfl rfl rfl (by kernel_rfl) Try.func4 (by kernel_rfl)
    (of_decide_eq_true (by kernel_rfl)) (by unfold Func.isWrapper; first | (rw [if_pos (by decide +kernel)]; kernel_rfl) | (rw [if_neg (by decide +kernel)]; exact ⟨rfl, rfl⟩))
    (fun os started H enc _ => lifted os started H enc)
theorem proved : Rows.PointFormsSaid := over
#print axioms proved
end pointFormsDone

end Go.Proofs.Ytjchdhpijopikaa
