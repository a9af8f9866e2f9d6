/- Of chapter 5: a number is the document's; FieldRoots and FieldAsks for few bytes. -/
import Derived.Test.YtfjaplggohflbaaRfs
import Derived.Test.YtfjaplggohflbaaRfr
import Derived.Test.YtfjaplggohflbaaFaw
namespace Go.Proofs.Ytfjaplggohflbaa
open Go Go.RowKit

set_option maxHeartbeats 4000000 in
theorem cIs {v v' : Value} {x y : F} {b : Bool} (hq : decide (x = y) = b) (h0 : IsFs rE v [x]) (h1 : IsFs rR v' [y]) (w : World) :
    Calls Try.prog 28 #[v, v'] w fun e w' => e = .returned (.bool b) ∧ Below w.heap.size w w' := by
  have HQ := Lib.hid hq
  clear hq
  go_enter Try.func28, Try.ntmps28
  have hbel : Below w.heap.size w w := Below.refl _ _
  have hbel0 := hbel
  go_upto_region 0 with fail
  refine wp_region_turn (fun u => #[v, v', u 0, u 1, u 2, undef, undef, undef, undef, undef, undef, undef]) (Holds [.box rE [x], .box rR [y], .oth (fun v => v = .bool false)] w) (Keep [.box rE [x], .box rR [y], .oth (fun v => v = .bool false)] w) (fun _ => undef) ?_ (by rfl) Keep.start (holds_soft (by kernel_rfl)) ?_ ?_
  · intro u i v h
    rcases i with _ | _ | _ | i
    all_goals first | (simp [Act.put, putV]; done) | (exfalso; simp at h; omega)
  · intro hs
    refine ⟨?_, ?_, ?_, trivial⟩
    · exact step_box hs (wants_none rfl) rfl rfl (gives_c h0 (fun _ => rfl))
    · exact step_box hs (wants_none rfl) rfl rfl (gives_c h1 (fun _ => rfl))
    · exact step_pureO hs (wants_none rfl) rfl fun L u W hG hdep => ⟨_, run_assign rfl, rfl⟩
  intro L0 u0 W0 hall hJ hG
  obtain ⟨q2, e2, ⟨hq2, _⟩, ht2, hm2⟩ := (show ∃ g, u0 0 = .pointer (some ⟨g, 0, none⟩) ∧ (w.heap.size ≤ g ∧ g < W0.heap.size) ∧ W0.there g 0 5 ∧ HasFs rE W0 g 0 [x] from hG 0 (by simp))
  have hq2 : w.heap.size ≤ q2 := by have := hbel0.size; omega
  have E2 := Lib.hid e2; clear e2
  obtain ⟨q3, e3, ⟨hq3, _⟩, ht3, hm3⟩ := (show ∃ g, u0 1 = .pointer (some ⟨g, 0, none⟩) ∧ (w.heap.size ≤ g ∧ g < W0.heap.size) ∧ W0.there g 0 16 ∧ HasFs rR W0 g 0 [y] from hG 1 (by simp))
  have hq3 : w.heap.size ≤ q3 := by have := hbel0.size; omega
  have E3 := Lib.hid e3; clear e3
  have hb := hJ.all rfl
  have hbel := Below.call hbel hb
  have HN2_3 := Lib.hid (show q2 ≠ q3 from fun e => hJ.apart 0 1 _ (by omega) (hall _ (by simp)) (hall _ (by simp)) rfl rfl (E2.out.trans (by rw [e])) E3.out)
  have HC4 := Lib.hid (show u0 2 = .bool false from hG 2 (by simp))
  have hbel0 := hbel
  clear hJ hG hall hb
  go_upto_region 1 with fail
  refine wp_region_mid (fun u => #[v, v', u0 0, u0 1, u 7, u 0, u 1, u 2, u 3, u 4, u 5, u 6]) (Holds [.val rE [x], .rd (leB 32 x.val), .oth (fun v => v = (.string (bs (leB 32 x.val)))), .val rR [y], .rd (leB 32 y.val), .oth (fun v => v = (.string (bs (leB 32 y.val)))), .oth (fun v => v = .bool b), .oth (fun v => v = .bool b)] W0) (Keep [.val rE [x], .rd (leB 32 x.val), .oth (fun v => v = (.string (bs (leB 32 x.val)))), .val rR [y], .rd (leB 32 y.val), .oth (fun v => v = (.string (bs (leB 32 y.val)))), .oth (fun v => v = .bool b), .oth (fun v => v = .bool b)] W0) (fun k => ([undef, undef, undef, undef, undef, undef, undef, u0 2] : List Value).getD k undef) (by kernel_rfl) (by kernel_rfl) ?_ (by rfl) Keep.drew (holds_soft (by kernel_rfl)) ?_ ?_
  · intro u i v h
    rcases i with _ | _ | _ | _ | _ | _ | _ | _ | i
    all_goals first | (simp [Act.put, putV]; done) | (exfalso; simp at h; omega)
  · intro hs
    refine ⟨?_, ?_, ?_, ?_, ?_, ?_, ?_, ?_, trivial⟩
    · exact step_load q2 0 hs (wants_none rfl) rfl rfl tyE (fun _ => E2.out) hm2.lt hm2 (noSto_apart (by kernel_rfl))
    · refine step_callB hs (wants_none rfl) rfl fun L u W hJ hG hdep K hK => ?_
      have a0 := (show IsFs rE (u 0) [x] from hG 0 (hdep 0 (by kernel_rfl)))
      go_simp
      go_at_call 16
      (with_reducible refine (cBytes a0 _).mono ?_); rintro e w1 ⟨g, n, cap, r, rfl, h1, h2, h3, h4, h5, hb⟩
      have hk := hK.out _ _ _ _ _ h1 h2 h3 h4 h5 hb
      exact hk
    · exact step_conv 1 hs (wants_none rfl) rfl rfl rfl (by kernel_rfl) (fun _ => rfl)
    · exact step_load q3 0 hs (wants_none rfl) rfl rfl tyFe (fun _ => E3.out) hm3.lt hm3 (noSto_apart (by kernel_rfl))
    · refine step_callB hs (wants_none rfl) rfl fun L u W hJ hG hdep K hK => ?_
      have a0 := (show IsFs rR (u 3) [y] from hG 3 (hdep 3 (by kernel_rfl)))
      go_simp
      go_at_call 47
      (with_reducible refine (kBytes a0 _).mono ?_); rintro e w1 ⟨g, n, cap, r, rfl, h1, h2, h3, h4, h5, hb⟩
      have hk := hK.out _ _ _ _ _ h1 h2 h3 h4 h5 hb
      exact hk
    · exact step_conv 4 hs (wants_none rfl) rfl rfl rfl (by kernel_rfl) (fun _ => rfl)
    · exact step_pureO hs (wants_none rfl) rfl fun L u W hG hdep => ⟨_, run_eqlS rfl (show u 2 = (.string (bs (leB 32 x.val))) from hG 2 (hdep 2 (by kernel_rfl))) (show u 5 = (.string (bs (leB 32 y.val))) from hG 5 (hdep 5 (by kernel_rfl))), by rw [leB_dec HQ.out]⟩
    · exact step_pureO hs (wants_none rfl) rfl fun L u W hG hdep => ⟨_, run_assign rfl, (show u 6 = .bool b from hG 6 (hdep 6 (by kernel_rfl)))⟩
  intro L1 u1 W1 hall hJ hG
  have hb := hJ.all rfl
  have hbel := Below.call hbel hb
  have hm2 := hm2.later hb
  have hm3 := hm3.later hb
  have ht2 := there_later ht2 hb
  have ht3 := there_later ht3 hb
  have HC11 := Lib.hid (show u1 6 = .bool b from hG 6 (by simp))
  have HC4 := Lib.hid (show u1 7 = .bool b from hG 7 (by simp))
  have hbel0 := hbel
  clear hJ hG hall hb
  rw [HC4.out]
  go_wp2
  go_ret
  exact ⟨rfl, hbel⟩
set_option maxHeartbeats 4000000 in
theorem fieldRoots_few {a : Option Addr} {n cap : Nat} {l : List UInt8} {x : F} (hx : feF l = x) (w : World) (ha : RdB w a n cap l) (hn : n ≤ 100) :
    Calls Try.prog 9 #[.slice a n cap] w fun e w' => e = .returned (.bool true) ∧ Below w.heap.size w w' := by
  have HX := Lib.hid hx
  have dn : decide ((100 : Int) < (n : Int)) = false := by simp; omega
  clear hn hx
  go_enter Try.func9, Try.ntmps9
  have hbel : Below w.heap.size w w := Below.refl _ _
  have hbel0 := hbel
  go_upto_region 3 with fail
  clear dn
  refine wp_region_turn (fun u => #[.slice a n cap, undef, .bool false, u 2, undef, undef, undef, undef, undef, .slice a n cap, .int .i64 (n : Nat), .bool false, undef, u 0, u 1, undef, undef, undef, undef, undef, undef, undef, undef, undef, undef, undef, undef, undef, undef, undef, undef, undef, undef, undef, undef, undef, undef, undef, undef, undef, undef, undef, undef, undef, undef]) (Holds [.oth (fun v => v = .slice a n cap), .val rE [x], .new 5, .st 2 rE [x]] w) (Keep [.oth (fun v => v = .slice a n cap), .val rE [x], .new 5, .st 2 rE [x]] w) (fun _ => undef) ?_ (by rfl) Keep.start (holds_soft (by kernel_rfl)) ?_ ?_
  · intro u i v h
    rcases i with _ | _ | _ | _ | i
    all_goals first | (simp [Act.put, putV]; done) | (exfalso; simp at h; omega)
  · intro hs
    refine ⟨?_, ?_, ?_, ?_, trivial⟩
    · exact step_pureO hs (wants_none rfl) rfl fun L u W hG hdep => ⟨_, run_move rfl, rfl⟩
    · refine step_call hs (wants_none rfl) rfl fun L u W hJ hG hL hdep K hK => ?_
      have x0 := (show u 0 = .slice a n cap from hG 0 (hdep 0 (by kernel_rfl)))
      have hRB0 := (ha.below hbel).below (hJ.all rfl)
      go_simp
      go_at_call 13
      (with_reducible refine (cOf' HX.out hRB0).mono ?_); rintro e w1 ⟨r, rfl, hr, hb⟩
      have hk := hK.out _ _ hr hb
      simp only [x0] at hk
      exact hk
    · exact step_alloc hs (wants_none rfl) rfl rfl (by omega) rfl allocE
    · exact step_store 2 hs (by kernel_rfl) (wants_none rfl) rfl rfl rfl (by kernel_rfl) (by kernel_rfl) (by kernel_rfl) (by kernel_rfl) (fun _ => rfl) (gives_op 1 rfl (by kernel_rfl) (fun _ => rfl)) tyE rfl
  intro L3 u3 W3 hall hJ hG
  obtain ⟨q3, e3, hq3, _, ht3⟩ := (show ∃ g, u3 2 = .pointer (some ⟨g, 0, none⟩) ∧ w.heap.size ≤ g ∧ 0 < 5 ∧ W3.there g 0 5 from hG 2 (by simp))
  have hm3 : HasFs rE W3 q3 0 [x] := by
    obtain ⟨g, e, _, h⟩ := (show ∃ g, u3 2 = .pointer (some ⟨g, 0, none⟩) ∧ w.heap.size ≤ g ∧ HasFs rE W3 g 0 [x] from hG 3 (by simp))
    rw [e3] at e; cases e; exact h
  have hq3 : w.heap.size ≤ q3 := by have := hbel0.size; omega
  have E3 := Lib.hid e3; clear e3
  have hb := hJ.all rfl
  have hbel := Below.call hbel hb
  have hbel0 := hbel
  clear hJ hG hall hb
  go_upto_region 4 with fail
  refine wp_region_turn (fun u => #[.slice a n cap, undef, .bool false, u3 2, u 2, undef, undef, undef, undef, .slice a n cap, .int .i64 (n : Nat), .bool false, undef, u3 0, u3 1, u 0, u 1, undef, undef, undef, undef, undef, undef, undef, undef, undef, undef, undef, undef, undef, undef, undef, undef, undef, undef, undef, undef, undef, undef, undef, undef, undef, undef, undef, undef]) (Holds [.oth (fun v => v = .slice a n cap), .val rR [x], .new 16, .st 2 rR [x]] W3) (Keep [.oth (fun v => v = .slice a n cap), .val rR [x], .new 16, .st 2 rR [x]] W3) (fun _ => undef) ?_ (by rfl) Keep.start (holds_soft (by kernel_rfl)) ?_ ?_
  · intro u i v h
    rcases i with _ | _ | _ | _ | i
    all_goals first | (simp [Act.put, putV]; done) | (exfalso; simp at h; omega)
  · intro hs
    refine ⟨?_, ?_, ?_, ?_, trivial⟩
    · exact step_pureO hs (wants_none rfl) rfl fun L u W hG hdep => ⟨_, run_move rfl, rfl⟩
    · refine step_call hs (wants_none rfl) rfl fun L u W hJ hG hL hdep K hK => ?_
      have x0 := (show u 0 = .slice a n cap from hG 0 (hdep 0 (by kernel_rfl)))
      have hRB0 := (ha.below hbel).below (hJ.all rfl)
      go_simp
      go_at_call 26
      (with_reducible refine (kOf' HX.out hRB0).mono ?_); rintro e w1 ⟨r, rfl, hr, hb⟩
      have hk := hK.out _ _ hr hb
      simp only [x0] at hk
      exact hk
    · exact step_alloc hs (wants_none rfl) rfl rfl (by omega) rfl allocFe
    · exact step_store 2 hs (by kernel_rfl) (wants_none rfl) rfl rfl rfl (by kernel_rfl) (by kernel_rfl) (by kernel_rfl) (by kernel_rfl) (fun _ => rfl) (gives_op 1 rfl (by kernel_rfl) (fun _ => rfl)) tyFe rfl
  intro L4 u4 W4 hall hJ hG
  obtain ⟨q4, e4, hq4, _, ht4⟩ := (show ∃ g, u4 2 = .pointer (some ⟨g, 0, none⟩) ∧ W3.heap.size ≤ g ∧ 0 < 16 ∧ W4.there g 0 16 from hG 2 (by simp))
  have hm4 : HasFs rR W4 q4 0 [x] := by
    obtain ⟨g, e, _, h⟩ := (show ∃ g, u4 2 = .pointer (some ⟨g, 0, none⟩) ∧ W3.heap.size ≤ g ∧ HasFs rR W4 g 0 [x] from hG 3 (by simp))
    rw [e4] at e; cases e; exact h
  have HD4_q3 := Lib.hid (show q3 ≠ q4 by have := there_lt ht3 (by omega); omega)
  have hq4 : w.heap.size ≤ q4 := by have := hbel0.size; omega
  have E4 := Lib.hid e4; clear e4
  have hb := hJ.all rfl
  have hbel := Below.call hbel hb
  have hm3 := hm3.later hb
  have ht3 := there_later ht3 hb
  have hbel0 := hbel
  clear hJ hG hall hb
  go_upto_region 5 with fail
  refine wp_region_turn (fun u => #[.slice a n cap, undef, .bool false, u3 2, u4 2, u 5, u 7, undef, undef, .slice a n cap, .int .i64 (n : Nat), .bool false, undef, u3 0, u3 1, u4 0, u4 1, u 2, u 0, u 1, u 3, u 4, undef, undef, undef, undef, undef, undef, undef, undef, undef, undef, undef, undef, undef, undef, undef, undef, undef, undef, undef, undef, undef, undef, undef]) (Holds [.val rE [x], .oth (fun v => IsTV rE v [rootV x] (.int .i64 (rootC x))), .oth (fun v => IsTV rE v [rootV x] (.int .i64 (rootC x))), .val rE [rootV x], .oth (fun v => v = .int .i64 (rootC x)), .new 5, .st 5 rE [rootV x], .oth (fun v => v = .int .i64 (rootC x))] W4) (Keep [.val rE [x], .oth (fun v => IsTV rE v [rootV x] (.int .i64 (rootC x))), .oth (fun v => IsTV rE v [rootV x] (.int .i64 (rootC x))), .val rE [rootV x], .oth (fun v => v = .int .i64 (rootC x)), .new 5, .st 5 rE [rootV x], .oth (fun v => v = .int .i64 (rootC x))] W4) (fun _ => undef) ?_ (by rfl) Keep.start (holds_soft (by kernel_rfl)) ?_ ?_
  · intro u i v h
    rcases i with _ | _ | _ | _ | _ | _ | _ | _ | i
    all_goals first | (simp [Act.put, putV]; done) | (exfalso; simp at h; omega)
  · intro hs
    refine ⟨?_, ?_, ?_, ?_, ?_, ?_, ?_, ?_, trivial⟩
    · exact step_load q3 0 hs (wants_none rfl) rfl rfl tyE (fun _ => E3.out) hm3.lt hm3 (noSto_apart (by kernel_rfl))
    · refine step_callO hs (wants_none rfl) rfl fun L u W hJ hG hdep K hK => ?_
      have a0 := (show IsFs rE (u 0) [x] from hG 0 (hdep 0 (by kernel_rfl)))
      go_simp
      go_at_call 34
      (with_reducible refine (cRoot a0 _).mono ?_); rintro e w1 ⟨r, rfl, hr, hb⟩
      have hk := hK.out _ _ ⟨r, rfl, hr⟩ hb
      exact hk
    · exact step_pureO hs (wants_none rfl) rfl fun L u W hG hdep => ⟨_, run_move rfl, (show IsTV rE (u 1) [rootV x] (.int .i64 (rootC x)) from hG 1 (hdep 1 (by kernel_rfl)))⟩
    · exact step_pure hs (wants_none rfl) rfl fun L u W hG hdep => run_extractV0 rfl (show IsTV rE (u 2) [rootV x] (.int .i64 (rootC x)) from hG 2 (hdep 2 (by kernel_rfl)))
    · exact step_pureO hs (wants_none rfl) rfl fun L u W hG hdep => run_extractV1 rfl (show IsTV rE (u 2) [rootV x] (.int .i64 (rootC x)) from hG 2 (hdep 2 (by kernel_rfl)))
    · exact step_alloc hs (wants_none rfl) rfl rfl (by omega) rfl allocE
    · exact step_store 5 hs (by kernel_rfl) (wants_none rfl) rfl rfl rfl (by kernel_rfl) (by kernel_rfl) (by kernel_rfl) (by kernel_rfl) (fun _ => rfl) (gives_op 3 rfl (by kernel_rfl) (fun _ => rfl)) tyE rfl
    · exact step_pureO hs (wants_none rfl) rfl fun L u W hG hdep => ⟨_, run_assign rfl, (show u 4 = .int .i64 (rootC x) from hG 4 (hdep 4 (by kernel_rfl)))⟩
  intro L5 u5 W5 hall hJ hG
  obtain ⟨q5, e5, hq5, _, ht5⟩ := (show ∃ g, u5 5 = .pointer (some ⟨g, 0, none⟩) ∧ W4.heap.size ≤ g ∧ 0 < 5 ∧ W5.there g 0 5 from hG 5 (by simp))
  have hm5 : HasFs rE W5 q5 0 [rootV x] := by
    obtain ⟨g, e, _, h⟩ := (show ∃ g, u5 5 = .pointer (some ⟨g, 0, none⟩) ∧ W4.heap.size ≤ g ∧ HasFs rE W5 g 0 [rootV x] from hG 6 (by simp))
    rw [e5] at e; cases e; exact h
  have HD5_q3 := Lib.hid (show q3 ≠ q5 by have := there_lt ht3 (by omega); omega)
  have HD5_q4 := Lib.hid (show q4 ≠ q5 by have := there_lt ht4 (by omega); omega)
  have hq5 : w.heap.size ≤ q5 := by have := hbel0.size; omega
  have E5 := Lib.hid e5; clear e5
  have hb := hJ.all rfl
  have hbel := Below.call hbel hb
  have hm3 := hm3.later hb
  have hm4 := hm4.later hb
  have ht3 := there_later ht3 hb
  have ht4 := there_later ht4 hb
  have HC6 := Lib.hid (show u5 7 = .int .i64 (rootC x) from hG 7 (by simp))
  have hbel0 := hbel
  clear hJ hG hall hb
  go_upto_region 6 with fail
  refine wp_region_turn (fun u => #[.slice a n cap, undef, .bool false, u3 2, u4 2, u5 5, u5 7, u 5, u 7, .slice a n cap, .int .i64 (n : Nat), .bool false, undef, u3 0, u3 1, u4 0, u4 1, u5 2, u5 0, u5 1, u5 3, u5 4, u 2, u 0, u 1, u 3, u 4, undef, undef, undef, undef, undef, undef, undef, undef, undef, undef, undef, undef, undef, undef, undef, undef, undef, undef]) (Holds [.val rR [x], .oth (fun v => IsTV rR v [rootV x] (.int .i64 (rootC x))), .oth (fun v => IsTV rR v [rootV x] (.int .i64 (rootC x))), .val rR [rootV x], .oth (fun v => v = .int .i64 (rootC x)), .new 16, .st 5 rR [rootV x], .oth (fun v => v = .int .i64 (rootC x))] W5) (Keep [.val rR [x], .oth (fun v => IsTV rR v [rootV x] (.int .i64 (rootC x))), .oth (fun v => IsTV rR v [rootV x] (.int .i64 (rootC x))), .val rR [rootV x], .oth (fun v => v = .int .i64 (rootC x)), .new 16, .st 5 rR [rootV x], .oth (fun v => v = .int .i64 (rootC x))] W5) (fun _ => undef) ?_ (by rfl) Keep.start (holds_soft (by kernel_rfl)) ?_ ?_
  · intro u i v h
    rcases i with _ | _ | _ | _ | _ | _ | _ | _ | i
    all_goals first | (simp [Act.put, putV]; done) | (exfalso; simp at h; omega)
  · intro hs
    refine ⟨?_, ?_, ?_, ?_, ?_, ?_, ?_, ?_, trivial⟩
    · exact step_load q4 0 hs (wants_none rfl) rfl rfl tyFe (fun _ => E4.out) hm4.lt hm4 (noSto_apart (by kernel_rfl))
    · refine step_callO hs (wants_none rfl) rfl fun L u W hJ hG hdep K hK => ?_
      have a0 := (show IsFs rR (u 0) [x] from hG 0 (hdep 0 (by kernel_rfl)))
      go_simp
      go_at_call 35
      (with_reducible refine (rrootM a0 _).mono ?_); rintro e w1 ⟨r, rfl, hr, hb⟩
      have hk := hK.out _ _ ⟨r, rfl, hr⟩ hb
      exact hk
    · exact step_pureO hs (wants_none rfl) rfl fun L u W hG hdep => ⟨_, run_move rfl, (show IsTV rR (u 1) [rootV x] (.int .i64 (rootC x)) from hG 1 (hdep 1 (by kernel_rfl)))⟩
    · exact step_pure hs (wants_none rfl) rfl fun L u W hG hdep => run_extractV0 rfl (show IsTV rR (u 2) [rootV x] (.int .i64 (rootC x)) from hG 2 (hdep 2 (by kernel_rfl)))
    · exact step_pureO hs (wants_none rfl) rfl fun L u W hG hdep => run_extractV1 rfl (show IsTV rR (u 2) [rootV x] (.int .i64 (rootC x)) from hG 2 (hdep 2 (by kernel_rfl)))
    · exact step_alloc hs (wants_none rfl) rfl rfl (by omega) rfl allocFe
    · exact step_store 5 hs (by kernel_rfl) (wants_none rfl) rfl rfl rfl (by kernel_rfl) (by kernel_rfl) (by kernel_rfl) (by kernel_rfl) (fun _ => rfl) (gives_op 3 rfl (by kernel_rfl) (fun _ => rfl)) tyFe rfl
    · exact step_pureO hs (wants_none rfl) rfl fun L u W hG hdep => ⟨_, run_assign rfl, (show u 4 = .int .i64 (rootC x) from hG 4 (hdep 4 (by kernel_rfl)))⟩
  intro L6 u6 W6 hall hJ hG
  obtain ⟨q7, e7, hq7, _, ht7⟩ := (show ∃ g, u6 5 = .pointer (some ⟨g, 0, none⟩) ∧ W5.heap.size ≤ g ∧ 0 < 16 ∧ W6.there g 0 16 from hG 5 (by simp))
  have hm7 : HasFs rR W6 q7 0 [rootV x] := by
    obtain ⟨g, e, _, h⟩ := (show ∃ g, u6 5 = .pointer (some ⟨g, 0, none⟩) ∧ W5.heap.size ≤ g ∧ HasFs rR W6 g 0 [rootV x] from hG 6 (by simp))
    rw [e7] at e; cases e; exact h
  have HD7_q3 := Lib.hid (show q3 ≠ q7 by have := there_lt ht3 (by omega); omega)
  have HD7_q4 := Lib.hid (show q4 ≠ q7 by have := there_lt ht4 (by omega); omega)
  have HD7_q5 := Lib.hid (show q5 ≠ q7 by have := there_lt ht5 (by omega); omega)
  have hq7 : w.heap.size ≤ q7 := by have := hbel0.size; omega
  have E7 := Lib.hid e7; clear e7
  have hb := hJ.all rfl
  have hbel := Below.call hbel hb
  have hm3 := hm3.later hb
  have hm4 := hm4.later hb
  have hm5 := hm5.later hb
  have ht3 := there_later ht3 hb
  have ht4 := there_later ht4 hb
  have ht5 := there_later ht5 hb
  have HC8 := Lib.hid (show u6 7 = .int .i64 (rootC x) from hG 7 (by simp))
  have hbel0 := hbel
  clear hJ hG hall hb
  go_upto_region 7 with fail
  refine wp_region_mid (fun u => #[.slice a n cap, undef, u 18, u3 2, u4 2, u5 5, u5 7, u6 5, u6 7, .slice a n cap, .int .i64 (n : Nat), .bool false, undef, u3 0, u3 1, u4 0, u4 1, u5 2, u5 0, u5 1, u5 3, u5 4, u6 2, u6 0, u6 1, u6 3, u6 4, u 0, u 1, u 2, u 3, u 4, u 5, u 6, u 7, u 8, u 9, u 10, u 11, u 12, u 13, u 14, u 15, u 16, u 17]) (Holds [.val rE [x], .val rE [finv x], .val rR [x], .val rR [finv x], .oth (fun v => v = .bool true), .oth (fun v => v = .bool true), .val rE [rootV x], .val rR [rootV x], .oth (fun v => v = .bool true), .oth (fun v => v = .bool true), .oth (fun v => v = .bool true), .oth (fun v => v = .int .i64 (rootC x)), .oth (fun v => v = .int .i64 (rootC x)), .oth (fun v => v = .bool true), .oth (fun v => v = .bool true), .oth (fun v => v = .bool true), .oth (fun v => v = .bool true), .oth (fun v => v = .bool true), .oth (fun v => v = .bool true)] W6) (Keep [.val rE [x], .val rE [finv x], .val rR [x], .val rR [finv x], .oth (fun v => v = .bool true), .oth (fun v => v = .bool true), .val rE [rootV x], .val rR [rootV x], .oth (fun v => v = .bool true), .oth (fun v => v = .bool true), .oth (fun v => v = .bool true), .oth (fun v => v = .int .i64 (rootC x)), .oth (fun v => v = .int .i64 (rootC x)), .oth (fun v => v = .bool true), .oth (fun v => v = .bool true), .oth (fun v => v = .bool true), .oth (fun v => v = .bool true), .oth (fun v => v = .bool true), .oth (fun v => v = .bool true)] W6) (fun k => ([undef, undef, undef, undef, undef, undef, undef, undef, undef, undef, undef, undef, undef, undef, undef, undef, undef, undef, .bool false] : List Value).getD k undef) (by kernel_rfl) (by kernel_rfl) ?_ (by rfl) Keep.drew (holds_soft (by kernel_rfl)) ?_ ?_
  · intro u i v h
    rcases i with _ | _ | _ | _ | _ | _ | _ | _ | _ | _ | _ | _ | _ | _ | _ | _ | _ | _ | _ | i
    all_goals first | (simp [Act.put, putV]; done) | (exfalso; simp at h; omega)
  · intro hs
    refine ⟨?_, ?_, ?_, ?_, ?_, ?_, ?_, ?_, ?_, ?_, ?_, ?_, ?_, ?_, ?_, ?_, ?_, ?_, ?_, trivial⟩
    · exact step_load q3 0 hs (wants_none rfl) rfl rfl tyE (fun _ => E3.out) hm3.lt hm3 (noSto_apart (by kernel_rfl))
    · refine step_call hs (wants_none rfl) rfl fun L u W hJ hG hL hdep K hK => ?_
      have a0 := (show IsFs rE (u 0) [x] from hG 0 (hdep 0 (by kernel_rfl)))
      go_simp
      go_at_call 21
      (with_reducible refine (cInv a0 _).mono ?_); rintro e w1 ⟨r, rfl, hr, hb⟩
      have hk := hK.out _ _ hr hb
      exact hk
    · exact step_load q4 0 hs (wants_none rfl) rfl rfl tyFe (fun _ => E4.out) hm4.lt hm4 (noSto_apart (by kernel_rfl))
    · refine step_call hs (wants_none rfl) rfl fun L u W hJ hG hL hdep K hK => ?_
      have a0 := (show IsFs rR (u 2) [x] from hG 2 (hdep 2 (by kernel_rfl)))
      go_simp
      go_at_call 36
      (with_reducible refine (kInv a0 _).mono ?_); rintro e w1 ⟨r, rfl, hr, hb⟩
      have hk := hK.out _ _ hr hb
      exact hk
    · refine step_callO hs (wants_none rfl) rfl fun L u W hJ hG hdep K hK => ?_
      have a0 := (show IsFs rE (u 1) [finv x] from hG 1 (hdep 1 (by kernel_rfl)))
      have a1 := (show IsFs rR (u 3) [finv x] from hG 3 (hdep 3 (by kernel_rfl)))
      go_simp
      go_at_call 28
      (with_reducible refine (cIs (b := true) (decide_eq_true rfl) a0 a1 _).mono ?_); rintro e w1 ⟨rfl, hb⟩
      have hk := hK.out _ _ rfl hb
      exact hk
    · exact step_pureO hs (wants_none rfl) rfl fun L u W hG hdep => ⟨_, run_move rfl, (show u 4 = .bool true from hG 4 (hdep 4 (by kernel_rfl)))⟩
    · exact step_load q5 0 hs (wants_on 5 rfl rfl (by kernel_rfl) (fun _ => rfl)) rfl rfl tyE (fun _ => E5.out) hm5.lt hm5 (noSto_apart (by kernel_rfl))
    · exact step_load q7 0 hs (wants_on 5 rfl rfl (by kernel_rfl) (fun _ => rfl)) rfl rfl tyFe (fun _ => E7.out) hm7.lt hm7 (noSto_apart (by kernel_rfl))
    · refine step_callO hs (wants_on 5 rfl rfl (by kernel_rfl) (fun _ => rfl)) rfl fun L u W hJ hG hdep K hK => ?_
      have a0 := (show IsFs rE (u 6) [rootV x] from hG 6 (hdep 6 (by kernel_rfl)))
      have a1 := (show IsFs rR (u 7) [rootV x] from hG 7 (hdep 7 (by kernel_rfl)))
      go_simp
      go_at_call 28
      (with_reducible refine (cIs (b := true) (decide_eq_true rfl) a0 a1 _).mono ?_); rintro e w1 ⟨rfl, hb⟩
      have hk := hK.out _ _ rfl hb
      exact hk
    · exact step_pick true hs (wants_none rfl) rfl rfl (fun L u W hG hdep => (show u 5 = .bool true from hG 5 (hdep 5 (by kernel_rfl)))) (fun L u W hG hdep => (show u 8 = .bool true from hG 8 (hdep 8 (by kernel_rfl))))
    · exact step_pureO hs (wants_none rfl) rfl fun L u W hG hdep => ⟨_, run_move rfl, (show u 9 = .bool true from hG 9 (hdep 9 (by kernel_rfl)))⟩
    · exact step_pureO hs (wants_on 10 rfl rfl (by kernel_rfl) (fun _ => rfl)) rfl fun L u W hG hdep => ⟨_, run_move rfl, HC6.out⟩
    · exact step_pureO hs (wants_on 10 rfl rfl (by kernel_rfl) (fun _ => rfl)) rfl fun L u W hG hdep => ⟨_, run_move rfl, HC8.out⟩
    · refine step_pureO hs (wants_on 10 rfl rfl (by kernel_rfl) (fun _ => rfl)) rfl fun L u W hG hdep => ⟨_, ?_, rfl⟩
      have e0 := (show u 11 = .int .i64 (rootC x) from hG 11 (hdep 11 (by kernel_rfl)))
      have e1 := (show u 12 = .int .i64 (rootC x) from hG 12 (hdep 12 (by kernel_rfl)))
      go_simp
      try simp [bne]
    · exact step_pick true hs (wants_none rfl) rfl rfl (fun L u W hG hdep => (show u 10 = .bool true from hG 10 (hdep 10 (by kernel_rfl)))) (fun L u W hG hdep => (show u 13 = .bool true from hG 13 (hdep 13 (by kernel_rfl))))
    · exact step_pureO hs (wants_none rfl) rfl fun L u W hG hdep => ⟨_, run_move rfl, (show u 14 = .bool true from hG 14 (hdep 14 (by kernel_rfl)))⟩
    · refine step_callO hs (wants_on 15 rfl rfl (by kernel_rfl) (fun _ => rfl)) rfl fun L u W hJ hG hdep K hK => ?_
      go_simp
      go_at_call 12
      (with_reducible refine (law5awake_any _).mono ?_); rintro e w1 ⟨rfl, hb⟩
      have hk := hK.out _ _ rfl hb
      exact hk
    · exact step_pick true hs (wants_none rfl) rfl rfl (fun L u W hG hdep => (show u 15 = .bool true from hG 15 (hdep 15 (by kernel_rfl)))) (fun L u W hG hdep => (show u 16 = .bool true from hG 16 (hdep 16 (by kernel_rfl))))
    · exact step_pureO hs (wants_none rfl) rfl fun L u W hG hdep => ⟨_, run_assign rfl, (show u 17 = .bool true from hG 17 (hdep 17 (by kernel_rfl)))⟩
  intro L7 u7 W7 hall hJ hG
  have hb := hJ.all rfl
  have hbel := Below.call hbel hb
  have hm3 := hm3.later hb
  have hm4 := hm4.later hb
  have hm5 := hm5.later hb
  have hm7 := hm7.later hb
  have ht3 := there_later ht3 hb
  have ht4 := there_later ht4 hb
  have ht5 := there_later ht5 hb
  have ht7 := there_later ht7 hb
  have HC31 := Lib.hid (show u7 4 = .bool true from hG 4 (by simp))
  have HC32 := Lib.hid (show u7 5 = .bool true from hG 5 (by simp))
  have HC35 := Lib.hid (show u7 8 = .bool true from hG 8 (by simp))
  have HC36 := Lib.hid (show u7 9 = .bool true from hG 9 (by simp))
  have HC37 := Lib.hid (show u7 10 = .bool true from hG 10 (by simp))
  have HC40 := Lib.hid (show u7 13 = .bool true from hG 13 (by simp))
  have HC41 := Lib.hid (show u7 14 = .bool true from hG 14 (by simp))
  have HC42 := Lib.hid (show u7 15 = .bool true from hG 15 (by simp))
  have HC43 := Lib.hid (show u7 16 = .bool true from hG 16 (by simp))
  have HC44 := Lib.hid (show u7 17 = .bool true from hG 17 (by simp))
  have HC2 := Lib.hid (show u7 18 = .bool true from hG 18 (by simp))
  have hbel0 := hbel
  clear hJ hG hall hb
  rw [HC2.out]
  go_wp2
  go_ret
  exact ⟨rfl, hbel⟩
theorem odd_b (x : F) : decide (x.val % 2 = 1) = (x.val % 2 == 1) := by rw [Bool.eq_iff_iff]; simp
theorem odd_u (x : F) : (bits BinOp.and IntKind.u64 ((d16 x.val 0 : Nat) : Int) 1 == 1) = (x.val % 2 == 1) := by
  rcases Nat.mod_two_eq_zero_or_one x.val with h | h <;> rw [odd16, h] <;> rfl
set_option maxHeartbeats 8000000 in
theorem fieldAsks_few {a b : Option Addr} {n m capa capb k : Nat} {la lb : List UInt8} {q p : Bool} {x y s : F} {c : Int} (hk : k < 18446744073709551616) (hx : feF la = x) (hy : feF lb = y) (hs : stV la = s) (hc : stC la = c) (hq : decide (x = y) = q) (hp : (x.val % 2 == 1) = p) (w : World) (ha : RdB w a n capa la) (hb' : RdB w b m capb lb) (hn : n ≤ 100) (hm : m ≤ 100) :
    Calls Try.prog 8 #[.slice a n capa, .slice b m capb, .int .u64 (k : Nat)] w fun e w' => e = .returned (.bool true) ∧ Below w.heap.size w w' := by
  have HN := Lib.hid hn; have HM := Lib.hid hm; have HX := Lib.hid hx; have HY := Lib.hid hy; have HQ := Lib.hid hq; have HS := Lib.hid hs; have HC := Lib.hid hc; have HP := Lib.hid hp; have HK := Lib.hid hk
  have HO := Lib.hid (show decide (x.val % 2 = 1) = p by rw [odd_b, hp])
  have HU := Lib.hid (show (bits BinOp.and IntKind.u64 ((d16 x.val 0 : Nat) : Int) 1 == 1) = p by rw [odd_u, hp])
  generalize hd : ((d16 x.val 0 : Nat) : Int) = D at HU
  have HD := Lib.hid hd
  clear hn hm hx hy hq hs hc hp hk hd
  go_enter Try.func8, Try.ntmps8
  go_upto_region 3 with ((go_at_call 11; go_must (refine (few_yes HN.out HM.out _).mono ?_; rintro e w1 ⟨rfl, hbel⟩)))
  have hbel0 := hbel
  clear HN HM
  refine wp_region_turn (fun u => (.slice a n capa :: .slice b m capb :: .int .u64 (k : Nat) :: undef :: undef :: undef :: .bool false :: u 2 :: undef :: undef :: undef :: undef :: undef :: undef :: undef :: .slice a n capa :: .slice b m capb :: .bool true :: .bool false :: undef :: u 0 :: u 1 :: undef :: undef :: undef :: undef :: undef :: undef :: undef :: undef :: undef :: undef :: undef :: undef :: undef :: undef :: undef :: undef :: undef :: undef :: undef :: undef :: undef :: undef :: undef :: undef :: undef :: undef :: undef :: undef :: undef :: undef :: undef :: undef :: undef :: undef :: undef :: undef :: undef :: undef :: undef :: undef :: undef :: undef :: undef :: undef :: undef :: undef :: undef :: undef :: undef :: undef :: undef :: undef :: undef :: undef :: undef :: undef :: undef :: undef :: undef :: undef :: undef :: undef :: undef :: undef :: undef :: undef :: undef :: undef :: undef :: undef :: undef :: undef :: undef :: undef :: undef :: undef :: undef :: undef :: undef :: undef :: undef :: undef :: undef :: undef :: undef :: undef :: undef :: undef :: undef :: undef :: undef :: undef :: undef :: undef :: undef :: undef :: undef :: undef :: undef :: undef :: undef :: undef :: undef :: undef :: undef :: []).toArray) (Holds [.oth (fun v => v = .slice a n capa), .val rE [x], .new 5, .st 2 rE [x]] w1) (Keep [.oth (fun v => v = .slice a n capa), .val rE [x], .new 5, .st 2 rE [x]] w1) (fun _ => undef) ?_ (by rfl) Keep.start (holds_soft (by kernel_rfl)) ?_ ?_
  · intro u i v h
    rcases i with _ | _ | _ | _ | i
    all_goals first | (simp [Act.put, putV]; done) | (exfalso; simp at h; omega)
  · intro hs
    refine ⟨?_, ?_, ?_, ?_, trivial⟩
    · exact step_pureO hs (wants_none rfl) rfl fun L u W hG hdep => ⟨_, run_move rfl, rfl⟩
    · refine step_call hs (wants_none rfl) rfl fun L u W hJ hG hL hdep K hK => ?_
      have x0 := (show u 0 = .slice a n capa from hG 0 (hdep 0 (by kernel_rfl)))
      have hRB0 := (ha.below hbel).below (hJ.all rfl)
      go_simp
      go_at_call 13
      (with_reducible refine (cOf' HX.out hRB0).mono ?_); rintro e w1 ⟨r, rfl, hr, hb⟩
      have hk := hK.out _ _ hr hb
      simp only [x0] at hk
      exact hk
    · exact step_alloc hs (wants_none rfl) rfl rfl (by omega) rfl allocE
    · exact step_store 2 hs (by kernel_rfl) (wants_none rfl) rfl rfl rfl (by kernel_rfl) (by kernel_rfl) (by kernel_rfl) (by kernel_rfl) (fun _ => rfl) (gives_op 1 rfl (by kernel_rfl) (fun _ => rfl)) tyE rfl
  intro L3 u3 W3 hall hJ hG
  obtain ⟨q7, e7, hq7, _, ht7⟩ := (show ∃ g, u3 2 = .pointer (some ⟨g, 0, none⟩) ∧ w1.heap.size ≤ g ∧ 0 < 5 ∧ W3.there g 0 5 from hG 2 (by simp))
  have hm7 : HasFs rE W3 q7 0 [x] := by
    obtain ⟨g, e, _, h⟩ := (show ∃ g, u3 2 = .pointer (some ⟨g, 0, none⟩) ∧ w1.heap.size ≤ g ∧ HasFs rE W3 g 0 [x] from hG 3 (by simp))
    rw [e7] at e; cases e; exact h
  have hq7 : w.heap.size ≤ q7 := by have := hbel0.size; omega
  have E7 := Lib.hid e7; clear e7
  have hb := hJ.all rfl
  have hbel := Below.call hbel hb
  have hbel0 := hbel
  clear hJ hG hall hb
  go_upto_region 4 with fail
  refine wp_region_turn (fun u => (.slice a n capa :: .slice b m capb :: .int .u64 (k : Nat) :: undef :: undef :: undef :: .bool false :: u3 2 :: u 2 :: undef :: undef :: undef :: undef :: undef :: undef :: .slice a n capa :: .slice b m capb :: .bool true :: .bool false :: undef :: u3 0 :: u3 1 :: u 0 :: u 1 :: undef :: undef :: undef :: undef :: undef :: undef :: undef :: undef :: undef :: undef :: undef :: undef :: undef :: undef :: undef :: undef :: undef :: undef :: undef :: undef :: undef :: undef :: undef :: undef :: undef :: undef :: undef :: undef :: undef :: undef :: undef :: undef :: undef :: undef :: undef :: undef :: undef :: undef :: undef :: undef :: undef :: undef :: undef :: undef :: undef :: undef :: undef :: undef :: undef :: undef :: undef :: undef :: undef :: undef :: undef :: undef :: undef :: undef :: undef :: undef :: undef :: undef :: undef :: undef :: undef :: undef :: undef :: undef :: undef :: undef :: undef :: undef :: undef :: undef :: undef :: undef :: undef :: undef :: undef :: undef :: undef :: undef :: undef :: undef :: undef :: undef :: undef :: undef :: undef :: undef :: undef :: undef :: undef :: undef :: undef :: undef :: undef :: undef :: undef :: undef :: undef :: undef :: undef :: []).toArray) (Holds [.oth (fun v => v = .slice b m capb), .val rE [y], .new 5, .st 2 rE [y]] W3) (Keep [.oth (fun v => v = .slice b m capb), .val rE [y], .new 5, .st 2 rE [y]] W3) (fun _ => undef) ?_ (by rfl) Keep.start (holds_soft (by kernel_rfl)) ?_ ?_
  · intro u i v h
    rcases i with _ | _ | _ | _ | i
    all_goals first | (simp [Act.put, putV]; done) | (exfalso; simp at h; omega)
  · intro hs
    refine ⟨?_, ?_, ?_, ?_, trivial⟩
    · exact step_pureO hs (wants_none rfl) rfl fun L u W hG hdep => ⟨_, run_move rfl, rfl⟩
    · refine step_call hs (wants_none rfl) rfl fun L u W hJ hG hL hdep K hK => ?_
      have x0 := (show u 0 = .slice b m capb from hG 0 (hdep 0 (by kernel_rfl)))
      have hRB0 := (hb'.below hbel).below (hJ.all rfl)
      go_simp
      go_at_call 13
      (with_reducible refine (cOf' HY.out hRB0).mono ?_); rintro e w1 ⟨r, rfl, hr, hb⟩
      have hk := hK.out _ _ hr hb
      simp only [x0] at hk
      exact hk
    · exact step_alloc hs (wants_none rfl) rfl rfl (by omega) rfl allocE
    · exact step_store 2 hs (by kernel_rfl) (wants_none rfl) rfl rfl rfl (by kernel_rfl) (by kernel_rfl) (by kernel_rfl) (by kernel_rfl) (fun _ => rfl) (gives_op 1 rfl (by kernel_rfl) (fun _ => rfl)) tyE rfl
  intro L4 u4 W4 hall hJ hG
  obtain ⟨q8, e8, hq8, _, ht8⟩ := (show ∃ g, u4 2 = .pointer (some ⟨g, 0, none⟩) ∧ W3.heap.size ≤ g ∧ 0 < 5 ∧ W4.there g 0 5 from hG 2 (by simp))
  have hm8 : HasFs rE W4 q8 0 [y] := by
    obtain ⟨g, e, _, h⟩ := (show ∃ g, u4 2 = .pointer (some ⟨g, 0, none⟩) ∧ W3.heap.size ≤ g ∧ HasFs rE W4 g 0 [y] from hG 3 (by simp))
    rw [e8] at e; cases e; exact h
  have HD8_q7 := Lib.hid (show q7 ≠ q8 by have := there_lt ht7 (by omega); omega)
  have hq8 : w.heap.size ≤ q8 := by have := hbel0.size; omega
  have E8 := Lib.hid e8; clear e8
  have hb := hJ.all rfl
  have hbel := Below.call hbel hb
  have hm7 := hm7.later hb
  have ht7 := there_later ht7 hb
  have hbel0 := hbel
  clear hJ hG hall hb
  go_upto_region 5 with fail
  refine wp_region_turn (fun u => (.slice a n capa :: .slice b m capb :: .int .u64 (k : Nat) :: undef :: undef :: undef :: .bool false :: u3 2 :: u4 2 :: u 2 :: undef :: undef :: undef :: undef :: undef :: .slice a n capa :: .slice b m capb :: .bool true :: .bool false :: undef :: u3 0 :: u3 1 :: u4 0 :: u4 1 :: u 0 :: u 1 :: undef :: undef :: undef :: undef :: undef :: undef :: undef :: undef :: undef :: undef :: undef :: undef :: undef :: undef :: undef :: undef :: undef :: undef :: undef :: undef :: undef :: undef :: undef :: undef :: undef :: undef :: undef :: undef :: undef :: undef :: undef :: undef :: undef :: undef :: undef :: undef :: undef :: undef :: undef :: undef :: undef :: undef :: undef :: undef :: undef :: undef :: undef :: undef :: undef :: undef :: undef :: undef :: undef :: undef :: undef :: undef :: undef :: undef :: undef :: undef :: undef :: undef :: undef :: undef :: undef :: undef :: undef :: undef :: undef :: undef :: undef :: undef :: undef :: undef :: undef :: undef :: undef :: undef :: undef :: undef :: undef :: undef :: undef :: undef :: undef :: undef :: undef :: undef :: undef :: undef :: undef :: undef :: undef :: undef :: undef :: undef :: undef :: undef :: undef :: undef :: undef :: []).toArray) (Holds [.oth (fun v => v = .slice a n capa), .val rR [x], .new 16, .st 2 rR [x]] W4) (Keep [.oth (fun v => v = .slice a n capa), .val rR [x], .new 16, .st 2 rR [x]] W4) (fun _ => undef) ?_ (by rfl) Keep.start (holds_soft (by kernel_rfl)) ?_ ?_
  · intro u i v h
    rcases i with _ | _ | _ | _ | i
    all_goals first | (simp [Act.put, putV]; done) | (exfalso; simp at h; omega)
  · intro hs
    refine ⟨?_, ?_, ?_, ?_, trivial⟩
    · exact step_pureO hs (wants_none rfl) rfl fun L u W hG hdep => ⟨_, run_move rfl, rfl⟩
    · refine step_call hs (wants_none rfl) rfl fun L u W hJ hG hL hdep K hK => ?_
      have x0 := (show u 0 = .slice a n capa from hG 0 (hdep 0 (by kernel_rfl)))
      have hRB0 := (ha.below hbel).below (hJ.all rfl)
      go_simp
      go_at_call 26
      (with_reducible refine (kOf' HX.out hRB0).mono ?_); rintro e w1 ⟨r, rfl, hr, hb⟩
      have hk := hK.out _ _ hr hb
      simp only [x0] at hk
      exact hk
    · exact step_alloc hs (wants_none rfl) rfl rfl (by omega) rfl allocFe
    · exact step_store 2 hs (by kernel_rfl) (wants_none rfl) rfl rfl rfl (by kernel_rfl) (by kernel_rfl) (by kernel_rfl) (by kernel_rfl) (fun _ => rfl) (gives_op 1 rfl (by kernel_rfl) (fun _ => rfl)) tyFe rfl
  intro L5 u5 W5 hall hJ hG
  obtain ⟨q9, e9, hq9, _, ht9⟩ := (show ∃ g, u5 2 = .pointer (some ⟨g, 0, none⟩) ∧ W4.heap.size ≤ g ∧ 0 < 16 ∧ W5.there g 0 16 from hG 2 (by simp))
  have hm9 : HasFs rR W5 q9 0 [x] := by
    obtain ⟨g, e, _, h⟩ := (show ∃ g, u5 2 = .pointer (some ⟨g, 0, none⟩) ∧ W4.heap.size ≤ g ∧ HasFs rR W5 g 0 [x] from hG 3 (by simp))
    rw [e9] at e; cases e; exact h
  have HD9_q7 := Lib.hid (show q7 ≠ q9 by have := there_lt ht7 (by omega); omega)
  have HD9_q8 := Lib.hid (show q8 ≠ q9 by have := there_lt ht8 (by omega); omega)
  have hq9 : w.heap.size ≤ q9 := by have := hbel0.size; omega
  have E9 := Lib.hid e9; clear e9
  have hb := hJ.all rfl
  have hbel := Below.call hbel hb
  have hm7 := hm7.later hb
  have hm8 := hm8.later hb
  have ht7 := there_later ht7 hb
  have ht8 := there_later ht8 hb
  have hbel0 := hbel
  clear hJ hG hall hb
  go_upto_region 6 with fail
  refine wp_region_turn (fun u => (.slice a n capa :: .slice b m capb :: .int .u64 (k : Nat) :: undef :: undef :: undef :: .bool false :: u3 2 :: u4 2 :: u5 2 :: u 2 :: undef :: undef :: undef :: undef :: .slice a n capa :: .slice b m capb :: .bool true :: .bool false :: undef :: u3 0 :: u3 1 :: u4 0 :: u4 1 :: u5 0 :: u5 1 :: u 0 :: u 1 :: undef :: undef :: undef :: undef :: undef :: undef :: undef :: undef :: undef :: undef :: undef :: undef :: undef :: undef :: undef :: undef :: undef :: undef :: undef :: undef :: undef :: undef :: undef :: undef :: undef :: undef :: undef :: undef :: undef :: undef :: undef :: undef :: undef :: undef :: undef :: undef :: undef :: undef :: undef :: undef :: undef :: undef :: undef :: undef :: undef :: undef :: undef :: undef :: undef :: undef :: undef :: undef :: undef :: undef :: undef :: undef :: undef :: undef :: undef :: undef :: undef :: undef :: undef :: undef :: undef :: undef :: undef :: undef :: undef :: undef :: undef :: undef :: undef :: undef :: undef :: undef :: undef :: undef :: undef :: undef :: undef :: undef :: undef :: undef :: undef :: undef :: undef :: undef :: undef :: undef :: undef :: undef :: undef :: undef :: undef :: undef :: undef :: undef :: undef :: []).toArray) (Holds [.oth (fun v => v = .slice b m capb), .val rR [y], .new 16, .st 2 rR [y]] W5) (Keep [.oth (fun v => v = .slice b m capb), .val rR [y], .new 16, .st 2 rR [y]] W5) (fun _ => undef) ?_ (by rfl) Keep.start (holds_soft (by kernel_rfl)) ?_ ?_
  · intro u i v h
    rcases i with _ | _ | _ | _ | i
    all_goals first | (simp [Act.put, putV]; done) | (exfalso; simp at h; omega)
  · intro hs
    refine ⟨?_, ?_, ?_, ?_, trivial⟩
    · exact step_pureO hs (wants_none rfl) rfl fun L u W hG hdep => ⟨_, run_move rfl, rfl⟩
    · refine step_call hs (wants_none rfl) rfl fun L u W hJ hG hL hdep K hK => ?_
      have x0 := (show u 0 = .slice b m capb from hG 0 (hdep 0 (by kernel_rfl)))
      have hRB0 := (hb'.below hbel).below (hJ.all rfl)
      go_simp
      go_at_call 26
      (with_reducible refine (kOf' HY.out hRB0).mono ?_); rintro e w1 ⟨r, rfl, hr, hb⟩
      have hk := hK.out _ _ hr hb
      simp only [x0] at hk
      exact hk
    · exact step_alloc hs (wants_none rfl) rfl rfl (by omega) rfl allocFe
    · exact step_store 2 hs (by kernel_rfl) (wants_none rfl) rfl rfl rfl (by kernel_rfl) (by kernel_rfl) (by kernel_rfl) (by kernel_rfl) (fun _ => rfl) (gives_op 1 rfl (by kernel_rfl) (fun _ => rfl)) tyFe rfl
  intro L6 u6 W6 hall hJ hG
  obtain ⟨q10, e10, hq10, _, ht10⟩ := (show ∃ g, u6 2 = .pointer (some ⟨g, 0, none⟩) ∧ W5.heap.size ≤ g ∧ 0 < 16 ∧ W6.there g 0 16 from hG 2 (by simp))
  have hm10 : HasFs rR W6 q10 0 [y] := by
    obtain ⟨g, e, _, h⟩ := (show ∃ g, u6 2 = .pointer (some ⟨g, 0, none⟩) ∧ W5.heap.size ≤ g ∧ HasFs rR W6 g 0 [y] from hG 3 (by simp))
    rw [e10] at e; cases e; exact h
  have HD10_q7 := Lib.hid (show q7 ≠ q10 by have := there_lt ht7 (by omega); omega)
  have HD10_q8 := Lib.hid (show q8 ≠ q10 by have := there_lt ht8 (by omega); omega)
  have HD10_q9 := Lib.hid (show q9 ≠ q10 by have := there_lt ht9 (by omega); omega)
  have hq10 : w.heap.size ≤ q10 := by have := hbel0.size; omega
  have E10 := Lib.hid e10; clear e10
  have hb := hJ.all rfl
  have hbel := Below.call hbel hb
  have hm7 := hm7.later hb
  have hm8 := hm8.later hb
  have hm9 := hm9.later hb
  have ht7 := there_later ht7 hb
  have ht8 := there_later ht8 hb
  have ht9 := there_later ht9 hb
  have hbel0 := hbel
  clear hJ hG hall hb
  go_upto_region 7 with fail
  refine wp_region_turn (fun u => (.slice a n capa :: .slice b m capb :: .int .u64 (k : Nat) :: undef :: undef :: undef :: .bool false :: u3 2 :: u4 2 :: u5 2 :: u6 2 :: u 5 :: u 7 :: undef :: undef :: .slice a n capa :: .slice b m capb :: .bool true :: .bool false :: undef :: u3 0 :: u3 1 :: u4 0 :: u4 1 :: u5 0 :: u5 1 :: u6 0 :: u6 1 :: u 2 :: u 0 :: u 1 :: u 3 :: u 4 :: undef :: undef :: undef :: undef :: undef :: undef :: undef :: undef :: undef :: undef :: undef :: undef :: undef :: undef :: undef :: undef :: undef :: undef :: undef :: undef :: undef :: undef :: undef :: undef :: undef :: undef :: undef :: undef :: undef :: undef :: undef :: undef :: undef :: undef :: undef :: undef :: undef :: undef :: undef :: undef :: undef :: undef :: undef :: undef :: undef :: undef :: undef :: undef :: undef :: undef :: undef :: undef :: undef :: undef :: undef :: undef :: undef :: undef :: undef :: undef :: undef :: undef :: undef :: undef :: undef :: undef :: undef :: undef :: undef :: undef :: undef :: undef :: undef :: undef :: undef :: undef :: undef :: undef :: undef :: undef :: undef :: undef :: undef :: undef :: undef :: undef :: undef :: undef :: undef :: undef :: undef :: undef :: undef :: undef :: []).toArray) (Holds [.oth (fun v => v = .slice a n capa), .oth (fun v => IsTV rE v [s] (.int .i64 c)), .oth (fun v => IsTV rE v [s] (.int .i64 c)), .val rE [s], .oth (fun v => v = .int .i64 c), .new 5, .st 5 rE [s], .oth (fun v => v = .int .i64 c)] W6) (Keep [.oth (fun v => v = .slice a n capa), .oth (fun v => IsTV rE v [s] (.int .i64 c)), .oth (fun v => IsTV rE v [s] (.int .i64 c)), .val rE [s], .oth (fun v => v = .int .i64 c), .new 5, .st 5 rE [s], .oth (fun v => v = .int .i64 c)] W6) (fun _ => undef) ?_ (by rfl) Keep.start (holds_soft (by kernel_rfl)) ?_ ?_
  · intro u i v h
    rcases i with _ | _ | _ | _ | _ | _ | _ | _ | i
    all_goals first | (simp [Act.put, putV]; done) | (exfalso; simp at h; omega)
  · intro hs
    refine ⟨?_, ?_, ?_, ?_, ?_, ?_, ?_, ?_, trivial⟩
    · exact step_pureO hs (wants_none rfl) rfl fun L u W hG hdep => ⟨_, run_move rfl, rfl⟩
    · refine step_callO hs (wants_none rfl) rfl fun L u W hJ hG hdep K hK => ?_
      have x0 := (show u 0 = .slice a n capa from hG 0 (hdep 0 (by kernel_rfl)))
      have hRB0 := (ha.below hbel).below (hJ.all rfl)
      go_simp
      go_at_call 17
      (with_reducible refine (cStrict' HS.out HC.out hRB0).mono ?_); rintro e w1 ⟨r, rfl, hr, hb⟩
      have hk := hK.out _ _ ⟨r, rfl, hr⟩ hb
      simp only [x0] at hk
      exact hk
    · exact step_pureO hs (wants_none rfl) rfl fun L u W hG hdep => ⟨_, run_move rfl, (show IsTV rE (u 1) [s] (.int .i64 c) from hG 1 (hdep 1 (by kernel_rfl)))⟩
    · exact step_pure hs (wants_none rfl) rfl fun L u W hG hdep => run_extractV0 rfl (show IsTV rE (u 2) [s] (.int .i64 c) from hG 2 (hdep 2 (by kernel_rfl)))
    · exact step_pureO hs (wants_none rfl) rfl fun L u W hG hdep => run_extractV1 rfl (show IsTV rE (u 2) [s] (.int .i64 c) from hG 2 (hdep 2 (by kernel_rfl)))
    · exact step_alloc hs (wants_none rfl) rfl rfl (by omega) rfl allocE
    · exact step_store 5 hs (by kernel_rfl) (wants_none rfl) rfl rfl rfl (by kernel_rfl) (by kernel_rfl) (by kernel_rfl) (by kernel_rfl) (fun _ => rfl) (gives_op 3 rfl (by kernel_rfl) (fun _ => rfl)) tyE rfl
    · exact step_pureO hs (wants_none rfl) rfl fun L u W hG hdep => ⟨_, run_assign rfl, (show u 4 = .int .i64 c from hG 4 (hdep 4 (by kernel_rfl)))⟩
  intro L7 u7 W7 hall hJ hG
  obtain ⟨q11, e11, hq11, _, ht11⟩ := (show ∃ g, u7 5 = .pointer (some ⟨g, 0, none⟩) ∧ W6.heap.size ≤ g ∧ 0 < 5 ∧ W7.there g 0 5 from hG 5 (by simp))
  have hm11 : HasFs rE W7 q11 0 [s] := by
    obtain ⟨g, e, _, h⟩ := (show ∃ g, u7 5 = .pointer (some ⟨g, 0, none⟩) ∧ W6.heap.size ≤ g ∧ HasFs rE W7 g 0 [s] from hG 6 (by simp))
    rw [e11] at e; cases e; exact h
  have HD11_q7 := Lib.hid (show q7 ≠ q11 by have := there_lt ht7 (by omega); omega)
  have HD11_q8 := Lib.hid (show q8 ≠ q11 by have := there_lt ht8 (by omega); omega)
  have HD11_q9 := Lib.hid (show q9 ≠ q11 by have := there_lt ht9 (by omega); omega)
  have HD11_q10 := Lib.hid (show q10 ≠ q11 by have := there_lt ht10 (by omega); omega)
  have hq11 : w.heap.size ≤ q11 := by have := hbel0.size; omega
  have E11 := Lib.hid e11; clear e11
  have hb := hJ.all rfl
  have hbel := Below.call hbel hb
  have hm7 := hm7.later hb
  have hm8 := hm8.later hb
  have hm9 := hm9.later hb
  have hm10 := hm10.later hb
  have ht7 := there_later ht7 hb
  have ht8 := there_later ht8 hb
  have ht9 := there_later ht9 hb
  have ht10 := there_later ht10 hb
  have HC12 := Lib.hid (show u7 7 = .int .i64 c from hG 7 (by simp))
  have hbel0 := hbel
  clear hJ hG hall hb
  go_upto_region 8 with fail
  refine wp_region_turn (fun u => (.slice a n capa :: .slice b m capb :: .int .u64 (k : Nat) :: undef :: undef :: undef :: .bool false :: u3 2 :: u4 2 :: u5 2 :: u6 2 :: u7 5 :: u7 7 :: u 5 :: u 7 :: .slice a n capa :: .slice b m capb :: .bool true :: .bool false :: undef :: u3 0 :: u3 1 :: u4 0 :: u4 1 :: u5 0 :: u5 1 :: u6 0 :: u6 1 :: u7 2 :: u7 0 :: u7 1 :: u7 3 :: u7 4 :: u 2 :: u 0 :: u 1 :: u 3 :: u 4 :: undef :: undef :: undef :: undef :: undef :: undef :: undef :: undef :: undef :: undef :: undef :: undef :: undef :: undef :: undef :: undef :: undef :: undef :: undef :: undef :: undef :: undef :: undef :: undef :: undef :: undef :: undef :: undef :: undef :: undef :: undef :: undef :: undef :: undef :: undef :: undef :: undef :: undef :: undef :: undef :: undef :: undef :: undef :: undef :: undef :: undef :: undef :: undef :: undef :: undef :: undef :: undef :: undef :: undef :: undef :: undef :: undef :: undef :: undef :: undef :: undef :: undef :: undef :: undef :: undef :: undef :: undef :: undef :: undef :: undef :: undef :: undef :: undef :: undef :: undef :: undef :: undef :: undef :: undef :: undef :: undef :: undef :: undef :: undef :: undef :: undef :: undef :: undef :: undef :: []).toArray) (Holds [.oth (fun v => v = .slice a n capa), .oth (fun v => IsTV rR v [s] (.int .i64 c)), .oth (fun v => IsTV rR v [s] (.int .i64 c)), .val rR [s], .oth (fun v => v = .int .i64 c), .new 16, .st 5 rR [s], .oth (fun v => v = .int .i64 c)] W7) (Keep [.oth (fun v => v = .slice a n capa), .oth (fun v => IsTV rR v [s] (.int .i64 c)), .oth (fun v => IsTV rR v [s] (.int .i64 c)), .val rR [s], .oth (fun v => v = .int .i64 c), .new 16, .st 5 rR [s], .oth (fun v => v = .int .i64 c)] W7) (fun _ => undef) ?_ (by rfl) Keep.start (holds_soft (by kernel_rfl)) ?_ ?_
  · intro u i v h
    rcases i with _ | _ | _ | _ | _ | _ | _ | _ | i
    all_goals first | (simp [Act.put, putV]; done) | (exfalso; simp at h; omega)
  · intro hs
    refine ⟨?_, ?_, ?_, ?_, ?_, ?_, ?_, ?_, trivial⟩
    · exact step_pureO hs (wants_none rfl) rfl fun L u W hG hdep => ⟨_, run_move rfl, rfl⟩
    · refine step_callO hs (wants_none rfl) rfl fun L u W hJ hG hdep K hK => ?_
      have x0 := (show u 0 = .slice a n capa from hG 0 (hdep 0 (by kernel_rfl)))
      have hRB0 := (ha.below hbel).below (hJ.all rfl)
      go_simp
      go_at_call 27
      (with_reducible refine (kStrict' HS.out HC.out hRB0).mono ?_); rintro e w1 ⟨r, rfl, hr, hb⟩
      have hk := hK.out _ _ ⟨r, rfl, hr⟩ hb
      simp only [x0] at hk
      exact hk
    · exact step_pureO hs (wants_none rfl) rfl fun L u W hG hdep => ⟨_, run_move rfl, (show IsTV rR (u 1) [s] (.int .i64 c) from hG 1 (hdep 1 (by kernel_rfl)))⟩
    · exact step_pure hs (wants_none rfl) rfl fun L u W hG hdep => run_extractV0 rfl (show IsTV rR (u 2) [s] (.int .i64 c) from hG 2 (hdep 2 (by kernel_rfl)))
    · exact step_pureO hs (wants_none rfl) rfl fun L u W hG hdep => run_extractV1 rfl (show IsTV rR (u 2) [s] (.int .i64 c) from hG 2 (hdep 2 (by kernel_rfl)))
    · exact step_alloc hs (wants_none rfl) rfl rfl (by omega) rfl allocFe
    · exact step_store 5 hs (by kernel_rfl) (wants_none rfl) rfl rfl rfl (by kernel_rfl) (by kernel_rfl) (by kernel_rfl) (by kernel_rfl) (fun _ => rfl) (gives_op 3 rfl (by kernel_rfl) (fun _ => rfl)) tyFe rfl
    · exact step_pureO hs (wants_none rfl) rfl fun L u W hG hdep => ⟨_, run_assign rfl, (show u 4 = .int .i64 c from hG 4 (hdep 4 (by kernel_rfl)))⟩
  intro L8 u8 W8 hall hJ hG
  obtain ⟨q13, e13, hq13, _, ht13⟩ := (show ∃ g, u8 5 = .pointer (some ⟨g, 0, none⟩) ∧ W7.heap.size ≤ g ∧ 0 < 16 ∧ W8.there g 0 16 from hG 5 (by simp))
  have hm13 : HasFs rR W8 q13 0 [s] := by
    obtain ⟨g, e, _, h⟩ := (show ∃ g, u8 5 = .pointer (some ⟨g, 0, none⟩) ∧ W7.heap.size ≤ g ∧ HasFs rR W8 g 0 [s] from hG 6 (by simp))
    rw [e13] at e; cases e; exact h
  have HD13_q7 := Lib.hid (show q7 ≠ q13 by have := there_lt ht7 (by omega); omega)
  have HD13_q8 := Lib.hid (show q8 ≠ q13 by have := there_lt ht8 (by omega); omega)
  have HD13_q9 := Lib.hid (show q9 ≠ q13 by have := there_lt ht9 (by omega); omega)
  have HD13_q10 := Lib.hid (show q10 ≠ q13 by have := there_lt ht10 (by omega); omega)
  have HD13_q11 := Lib.hid (show q11 ≠ q13 by have := there_lt ht11 (by omega); omega)
  have hq13 : w.heap.size ≤ q13 := by have := hbel0.size; omega
  have E13 := Lib.hid e13; clear e13
  have hb := hJ.all rfl
  have hbel := Below.call hbel hb
  have hm7 := hm7.later hb
  have hm8 := hm8.later hb
  have hm9 := hm9.later hb
  have hm10 := hm10.later hb
  have hm11 := hm11.later hb
  have ht7 := there_later ht7 hb
  have ht8 := there_later ht8 hb
  have ht9 := there_later ht9 hb
  have ht10 := there_later ht10 hb
  have ht11 := there_later ht11 hb
  have HC14 := Lib.hid (show u8 7 = .int .i64 c from hG 7 (by simp))
  have hbel0 := hbel
  clear hJ hG hall hb
  go_upto_region 9 with fail
  simp only [List.append]
  refine wp_region_mid (fun u => (.slice a n capa :: .slice b m capb :: .int .u64 (k : Nat) :: undef :: undef :: undef :: u 89 :: u3 2 :: u4 2 :: u5 2 :: u6 2 :: u7 5 :: u7 7 :: u8 5 :: u8 7 :: .slice a n capa :: .slice b m capb :: .bool true :: .bool false :: undef :: u3 0 :: u3 1 :: u4 0 :: u4 1 :: u5 0 :: u5 1 :: u6 0 :: u6 1 :: u7 2 :: u7 0 :: u7 1 :: u7 3 :: u7 4 :: u8 2 :: u8 0 :: u8 1 :: u8 3 :: u8 4 :: u 0 :: u 1 :: u 2 :: u 3 :: u 4 :: u 5 :: u 6 :: u 7 :: u 8 :: u 9 :: u 10 :: u 11 :: u 12 :: u 13 :: u 14 :: u 15 :: u 16 :: u 17 :: u 18 :: u 19 :: u 20 :: u 21 :: u 22 :: u 23 :: u 24 :: u 25 :: u 26 :: u 27 :: u 28 :: u 29 :: u 30 :: u 31 :: u 32 :: u 33 :: u 34 :: u 35 :: u 36 :: u 37 :: u 38 :: u 39 :: u 40 :: u 41 :: u 42 :: u 43 :: u 44 :: u 45 :: u 46 :: u 47 :: u 48 :: u 49 :: u 50 :: u 51 :: u 52 :: u 53 :: u 54 :: u 55 :: u 56 :: u 57 :: u 58 :: u 59 :: u 60 :: u 61 :: u 62 :: u 63 :: u 64 :: u 65 :: u 66 :: u 67 :: u 68 :: u 69 :: u 70 :: u 71 :: u 72 :: u 73 :: u 74 :: u 75 :: u 76 :: u 77 :: u 78 :: u 79 :: u 80 :: u 81 :: u 82 :: u 83 :: u 84 :: u 85 :: u 86 :: u 87 :: u 88 :: []).toArray) (Holds [.val rE [x], .val rR [x], .oth (fun v => v = .bool true), .oth (fun v => v = .bool true), .val rE [s], .val rR [s], .oth (fun v => v = .bool true), .oth (fun v => v = .bool true), .oth (fun v => v = .bool true), .oth (fun v => v = .int .i64 c), .oth (fun v => v = .int .i64 c), .oth (fun v => v = .bool true), .oth (fun v => v = .bool true), .oth (fun v => v = .bool true), .oth (fun v => v = .int .u64 (k : Nat)), .val rE [fn k], .oth (fun v => v = .int .u64 (k : Nat)), .val rR [fn k], .oth (fun v => v = .bool true), .oth (fun v => v = .bool true), .oth (fun v => v = .bool true), .val rE [x], .val rE [y], .val rE [x + y], .val rR [x], .val rR [y], .val rR [x + y], .oth (fun v => v = .bool true), .oth (fun v => v = .bool true), .oth (fun v => v = .bool true), .val rE [x], .val rE [y], .val rE [x - y], .val rR [x], .val rR [y], .val rR [x - y], .oth (fun v => v = .bool true), .oth (fun v => v = .bool true), .oth (fun v => v = .bool true), .val rE [x], .val rE [y], .val rE [x * y], .val rR [x], .val rR [y], .val rR [x * y], .oth (fun v => v = .bool true), .oth (fun v => v = .bool true), .oth (fun v => v = .bool true), .val rE [x], .val rE [-x], .val rR [x], .val rR [-x], .oth (fun v => v = .bool true), .oth (fun v => v = .bool true), .oth (fun v => v = .bool true), .val rE [x], .val rE [y], .oth (fun v => v = .bool q), .val rR [x], .val rR [y], .oth (fun v => v = .bool q), .oth (fun v => v = .bool true), .oth (fun v => v = .bool true), .oth (fun v => v = .bool true), .val rE [x], .oth (fun v => v = .bool p), .oth (fun v => v = .pointer (some ⟨q9, 0, none⟩)), .oth (fun v => v = .int .u64 D), .oth (fun v => v = .int .u64 (bits BinOp.and IntKind.u64 D 1)), .oth (fun v => v = .bool p), .oth (fun v => v = .bool true), .oth (fun v => v = .bool true), .oth (fun v => v = .bool true), .val rE [x], .val rE [y], .val rE [x], .val rR [x], .oth (fun v => v = .bool true), .oth (fun v => v = .bool true), .oth (fun v => v = .bool true), .val rE [x], .val rE [y], .val rE [y], .val rR [y], .oth (fun v => v = .bool true), .oth (fun v => v = .bool true), .oth (fun v => v = .bool true), .oth (fun v => v = .bool true), .oth (fun v => v = .bool true), .oth (fun v => v = .bool true)] W8) (Keep [.val rE [x], .val rR [x], .oth (fun v => v = .bool true), .oth (fun v => v = .bool true), .val rE [s], .val rR [s], .oth (fun v => v = .bool true), .oth (fun v => v = .bool true), .oth (fun v => v = .bool true), .oth (fun v => v = .int .i64 c), .oth (fun v => v = .int .i64 c), .oth (fun v => v = .bool true), .oth (fun v => v = .bool true), .oth (fun v => v = .bool true), .oth (fun v => v = .int .u64 (k : Nat)), .val rE [fn k], .oth (fun v => v = .int .u64 (k : Nat)), .val rR [fn k], .oth (fun v => v = .bool true), .oth (fun v => v = .bool true), .oth (fun v => v = .bool true), .val rE [x], .val rE [y], .val rE [x + y], .val rR [x], .val rR [y], .val rR [x + y], .oth (fun v => v = .bool true), .oth (fun v => v = .bool true), .oth (fun v => v = .bool true), .val rE [x], .val rE [y], .val rE [x - y], .val rR [x], .val rR [y], .val rR [x - y], .oth (fun v => v = .bool true), .oth (fun v => v = .bool true), .oth (fun v => v = .bool true), .val rE [x], .val rE [y], .val rE [x * y], .val rR [x], .val rR [y], .val rR [x * y], .oth (fun v => v = .bool true), .oth (fun v => v = .bool true), .oth (fun v => v = .bool true), .val rE [x], .val rE [-x], .val rR [x], .val rR [-x], .oth (fun v => v = .bool true), .oth (fun v => v = .bool true), .oth (fun v => v = .bool true), .val rE [x], .val rE [y], .oth (fun v => v = .bool q), .val rR [x], .val rR [y], .oth (fun v => v = .bool q), .oth (fun v => v = .bool true), .oth (fun v => v = .bool true), .oth (fun v => v = .bool true), .val rE [x], .oth (fun v => v = .bool p), .oth (fun v => v = .pointer (some ⟨q9, 0, none⟩)), .oth (fun v => v = .int .u64 D), .oth (fun v => v = .int .u64 (bits BinOp.and IntKind.u64 D 1)), .oth (fun v => v = .bool p), .oth (fun v => v = .bool true), .oth (fun v => v = .bool true), .oth (fun v => v = .bool true), .val rE [x], .val rE [y], .val rE [x], .val rR [x], .oth (fun v => v = .bool true), .oth (fun v => v = .bool true), .oth (fun v => v = .bool true), .val rE [x], .val rE [y], .val rE [y], .val rR [y], .oth (fun v => v = .bool true), .oth (fun v => v = .bool true), .oth (fun v => v = .bool true), .oth (fun v => v = .bool true), .oth (fun v => v = .bool true), .oth (fun v => v = .bool true)] W8) (fun k => ([undef, undef, undef, undef, undef, undef, undef, undef, undef, undef, undef, undef, undef, undef, undef, undef, undef, undef, undef, undef, undef, undef, undef, undef, undef, undef, undef, undef, undef, undef, undef, undef, undef, undef, undef, undef, undef, undef, undef, undef, undef, undef, undef, undef, undef, undef, undef, undef, undef, undef, undef, undef, undef, undef, undef, undef, undef, undef, undef, undef, undef, undef, undef, undef, undef, undef, undef, undef, undef, undef, undef, undef, undef, undef, undef, undef, undef, undef, undef, undef, undef, undef, undef, undef, undef, undef, undef, undef, undef, .bool false] : List Value).getD k undef) (by kernel_rfl) (by kernel_rfl) ?_ (by rfl) Keep.drew (holds_soft (by kernel_rfl)) ?_ ?_
  · intro u i v h
    rcases i with _ | _ | _ | _ | _ | _ | _ | _ | _ | _ | _ | _ | _ | _ | _ | _ | _ | _ | _ | _ | _ | _ | _ | _ | _ | _ | _ | _ | _ | _ | _ | _ | _ | _ | _ | _ | _ | _ | _ | _ | _ | _ | _ | _ | _ | _ | _ | _ | _ | _ | _ | _ | _ | _ | _ | _ | _ | _ | _ | _ | _ | _ | _ | _ | _ | _ | _ | _ | _ | _ | _ | _ | _ | _ | _ | _ | _ | _ | _ | _ | _ | _ | _ | _ | _ | _ | _ | _ | _ | _ | i
    all_goals first | (simp [Act.put, putV]; done) | (exfalso; simp at h; omega)
  · intro hs
    refine ⟨?_, ?_, ?_, ?_, ?_, ?_, ?_, ?_, ?_, ?_, ?_, ?_, ?_, ?_, ?_, ?_, ?_, ?_, ?_, ?_, ?_, ?_, ?_, ?_, ?_, ?_, ?_, ?_, ?_, ?_, ?_, ?_, ?_, ?_, ?_, ?_, ?_, ?_, ?_, ?_, ?_, ?_, ?_, ?_, ?_, ?_, ?_, ?_, ?_, ?_, ?_, ?_, ?_, ?_, ?_, ?_, ?_, ?_, ?_, ?_, ?_, ?_, ?_, ?_, ?_, ?_, ?_, ?_, ?_, ?_, ?_, ?_, ?_, ?_, ?_, ?_, ?_, ?_, ?_, ?_, ?_, ?_, ?_, ?_, ?_, ?_, ?_, ?_, ?_, ?_, trivial⟩
    · exact step_load q7 0 hs (wants_none rfl) rfl rfl tyE (fun _ => E7.out) hm7.lt hm7 (noSto_apart (by kernel_rfl))
    · exact step_load q9 0 hs (wants_none rfl) rfl rfl tyFe (fun _ => E9.out) hm9.lt hm9 (noSto_apart (by kernel_rfl))
    · refine step_callO hs (wants_none rfl) rfl fun L u W hJ hG hdep K hK => ?_
      have a0 := (show IsFs rE (u 0) [x] from hG 0 (hdep 0 (by kernel_rfl)))
      have a1 := (show IsFs rR (u 1) [x] from hG 1 (hdep 1 (by kernel_rfl)))
      go_simp
      go_at_call 28
      (with_reducible refine (cIs (b := true) (decide_eq_true rfl) a0 a1 _).mono ?_); rintro e w1 ⟨rfl, hb⟩
      have hk := hK.out _ _ rfl hb
      exact hk
    · exact step_pureO hs (wants_none rfl) rfl fun L u W hG hdep => ⟨_, run_move rfl, (show u 2 = .bool true from hG 2 (hdep 2 (by kernel_rfl)))⟩
    · exact step_load q11 0 hs (wants_on 3 rfl rfl (by kernel_rfl) (fun _ => rfl)) rfl rfl tyE (fun _ => E11.out) hm11.lt hm11 (noSto_apart (by kernel_rfl))
    · exact step_load q13 0 hs (wants_on 3 rfl rfl (by kernel_rfl) (fun _ => rfl)) rfl rfl tyFe (fun _ => E13.out) hm13.lt hm13 (noSto_apart (by kernel_rfl))
    · refine step_callO hs (wants_on 3 rfl rfl (by kernel_rfl) (fun _ => rfl)) rfl fun L u W hJ hG hdep K hK => ?_
      have a0 := (show IsFs rE (u 4) [s] from hG 4 (hdep 4 (by kernel_rfl)))
      have a1 := (show IsFs rR (u 5) [s] from hG 5 (hdep 5 (by kernel_rfl)))
      go_simp
      go_at_call 28
      (with_reducible refine (cIs (b := true) (decide_eq_true rfl) a0 a1 _).mono ?_); rintro e w1 ⟨rfl, hb⟩
      have hk := hK.out _ _ rfl hb
      exact hk
    · exact step_pick true hs (wants_none rfl) rfl rfl (fun L u W hG hdep => (show u 3 = .bool true from hG 3 (hdep 3 (by kernel_rfl)))) (fun L u W hG hdep => (show u 6 = .bool true from hG 6 (hdep 6 (by kernel_rfl))))
    · exact step_pureO hs (wants_none rfl) rfl fun L u W hG hdep => ⟨_, run_move rfl, (show u 7 = .bool true from hG 7 (hdep 7 (by kernel_rfl)))⟩
    · exact step_pureO hs (wants_on 8 rfl rfl (by kernel_rfl) (fun _ => rfl)) rfl fun L u W hG hdep => ⟨_, run_move rfl, HC12.out⟩
    · exact step_pureO hs (wants_on 8 rfl rfl (by kernel_rfl) (fun _ => rfl)) rfl fun L u W hG hdep => ⟨_, run_move rfl, HC14.out⟩
    · refine step_pureO hs (wants_on 8 rfl rfl (by kernel_rfl) (fun _ => rfl)) rfl fun L u W hG hdep => ⟨_, ?_, rfl⟩
      have e0 := (show u 9 = .int .i64 c from hG 9 (hdep 9 (by kernel_rfl)))
      have e1 := (show u 10 = .int .i64 c from hG 10 (hdep 10 (by kernel_rfl)))
      go_simp
      try simp [bne]
    · exact step_pick true hs (wants_none rfl) rfl rfl (fun L u W hG hdep => (show u 8 = .bool true from hG 8 (hdep 8 (by kernel_rfl)))) (fun L u W hG hdep => (show u 11 = .bool true from hG 11 (hdep 11 (by kernel_rfl))))
    · exact step_pureO hs (wants_none rfl) rfl fun L u W hG hdep => ⟨_, run_move rfl, (show u 12 = .bool true from hG 12 (hdep 12 (by kernel_rfl)))⟩
    · exact step_pureO hs (wants_on 13 rfl rfl (by kernel_rfl) (fun _ => rfl)) rfl fun L u W hG hdep => ⟨_, run_move rfl, rfl⟩
    · refine step_call hs (wants_on 13 rfl rfl (by kernel_rfl) (fun _ => rfl)) rfl fun L u W hJ hG hL hdep K hK => ?_
      have x0 := (show u 14 = .int .u64 (k : Nat) from hG 14 (hdep 14 (by kernel_rfl)))
      go_simp
      go_at_call 18
      (with_reducible refine (cSmallI (n := k) rfl HK.out _).mono ?_); rintro e w1 ⟨r, rfl, hr, hb⟩
      have hk := hK.out _ _ hr hb
      simp only [x0] at hk
      exact hk
    · exact step_pureO hs (wants_on 13 rfl rfl (by kernel_rfl) (fun _ => rfl)) rfl fun L u W hG hdep => ⟨_, run_move rfl, rfl⟩
    · refine step_call hs (wants_on 13 rfl rfl (by kernel_rfl) (fun _ => rfl)) rfl fun L u W hJ hG hL hdep K hK => ?_
      have x0 := (show u 16 = .int .u64 (k : Nat) from hG 16 (hdep 16 (by kernel_rfl)))
      go_simp
      go_at_call 29
      (with_reducible refine (kSmallI (n := k) rfl HK.out _).mono ?_); rintro e w1 ⟨r, rfl, hr, hb⟩
      have hk := hK.out _ _ hr hb
      simp only [x0] at hk
      exact hk
    · refine step_callO hs (wants_on 13 rfl rfl (by kernel_rfl) (fun _ => rfl)) rfl fun L u W hJ hG hdep K hK => ?_
      have a0 := (show IsFs rE (u 15) [fn k] from hG 15 (hdep 15 (by kernel_rfl)))
      have a1 := (show IsFs rR (u 17) [fn k] from hG 17 (hdep 17 (by kernel_rfl)))
      go_simp
      go_at_call 28
      (with_reducible refine (cIs (b := true) (decide_eq_true rfl) a0 a1 _).mono ?_); rintro e w1 ⟨rfl, hb⟩
      have hk := hK.out _ _ rfl hb
      exact hk
    · exact step_pick true hs (wants_none rfl) rfl rfl (fun L u W hG hdep => (show u 13 = .bool true from hG 13 (hdep 13 (by kernel_rfl)))) (fun L u W hG hdep => (show u 18 = .bool true from hG 18 (hdep 18 (by kernel_rfl))))
    · exact step_pureO hs (wants_none rfl) rfl fun L u W hG hdep => ⟨_, run_move rfl, (show u 19 = .bool true from hG 19 (hdep 19 (by kernel_rfl)))⟩
    · exact step_load q7 0 hs (wants_on 20 rfl rfl (by kernel_rfl) (fun _ => rfl)) rfl rfl tyE (fun _ => E7.out) hm7.lt hm7 (noSto_apart (by kernel_rfl))
    · exact step_load q8 0 hs (wants_on 20 rfl rfl (by kernel_rfl) (fun _ => rfl)) rfl rfl tyE (fun _ => E8.out) hm8.lt hm8 (noSto_apart (by kernel_rfl))
    · refine step_call hs (wants_on 20 rfl rfl (by kernel_rfl) (fun _ => rfl)) rfl fun L u W hJ hG hL hdep K hK => ?_
      have a0 := (show IsFs rE (u 21) [x] from hG 21 (hdep 21 (by kernel_rfl)))
      have a1 := (show IsFs rE (u 22) [y] from hG 22 (hdep 22 (by kernel_rfl)))
      go_simp
      go_at_call 24
      (with_reducible refine (cAdd a0 a1 _).mono ?_); rintro e w1 ⟨r, rfl, hr, hb⟩
      have hk := hK.out _ _ hr hb
      exact hk
    · exact step_load q9 0 hs (wants_on 20 rfl rfl (by kernel_rfl) (fun _ => rfl)) rfl rfl tyFe (fun _ => E9.out) hm9.lt hm9 (noSto_apart (by kernel_rfl))
    · exact step_load q10 0 hs (wants_on 20 rfl rfl (by kernel_rfl) (fun _ => rfl)) rfl rfl tyFe (fun _ => E10.out) hm10.lt hm10 (noSto_apart (by kernel_rfl))
    · refine step_call hs (wants_on 20 rfl rfl (by kernel_rfl) (fun _ => rfl)) rfl fun L u W hJ hG hL hdep K hK => ?_
      have a0 := (show IsFs rR (u 24) [x] from hG 24 (hdep 24 (by kernel_rfl)))
      have a1 := (show IsFs rR (u 25) [y] from hG 25 (hdep 25 (by kernel_rfl)))
      go_simp
      go_at_call 30
      (with_reducible refine (kAdd a0 a1 _).mono ?_); rintro e w1 ⟨r, rfl, hr, hb⟩
      have hk := hK.out _ _ hr hb
      exact hk
    · refine step_callO hs (wants_on 20 rfl rfl (by kernel_rfl) (fun _ => rfl)) rfl fun L u W hJ hG hdep K hK => ?_
      have a0 := (show IsFs rE (u 23) [x + y] from hG 23 (hdep 23 (by kernel_rfl)))
      have a1 := (show IsFs rR (u 26) [x + y] from hG 26 (hdep 26 (by kernel_rfl)))
      go_simp
      go_at_call 28
      (with_reducible refine (cIs (b := true) (decide_eq_true rfl) a0 a1 _).mono ?_); rintro e w1 ⟨rfl, hb⟩
      have hk := hK.out _ _ rfl hb
      exact hk
    · exact step_pick true hs (wants_none rfl) rfl rfl (fun L u W hG hdep => (show u 20 = .bool true from hG 20 (hdep 20 (by kernel_rfl)))) (fun L u W hG hdep => (show u 27 = .bool true from hG 27 (hdep 27 (by kernel_rfl))))
    · exact step_pureO hs (wants_none rfl) rfl fun L u W hG hdep => ⟨_, run_move rfl, (show u 28 = .bool true from hG 28 (hdep 28 (by kernel_rfl)))⟩
    · exact step_load q7 0 hs (wants_on 29 rfl rfl (by kernel_rfl) (fun _ => rfl)) rfl rfl tyE (fun _ => E7.out) hm7.lt hm7 (noSto_apart (by kernel_rfl))
    · exact step_load q8 0 hs (wants_on 29 rfl rfl (by kernel_rfl) (fun _ => rfl)) rfl rfl tyE (fun _ => E8.out) hm8.lt hm8 (noSto_apart (by kernel_rfl))
    · refine step_call hs (wants_on 29 rfl rfl (by kernel_rfl) (fun _ => rfl)) rfl fun L u W hJ hG hL hdep K hK => ?_
      have a0 := (show IsFs rE (u 30) [x] from hG 30 (hdep 30 (by kernel_rfl)))
      have a1 := (show IsFs rE (u 31) [y] from hG 31 (hdep 31 (by kernel_rfl)))
      go_simp
      go_at_call 19
      (with_reducible refine (cSub a0 a1 _).mono ?_); rintro e w1 ⟨r, rfl, hr, hb⟩
      have hk := hK.out _ _ hr hb
      exact hk
    · exact step_load q9 0 hs (wants_on 29 rfl rfl (by kernel_rfl) (fun _ => rfl)) rfl rfl tyFe (fun _ => E9.out) hm9.lt hm9 (noSto_apart (by kernel_rfl))
    · exact step_load q10 0 hs (wants_on 29 rfl rfl (by kernel_rfl) (fun _ => rfl)) rfl rfl tyFe (fun _ => E10.out) hm10.lt hm10 (noSto_apart (by kernel_rfl))
    · refine step_call hs (wants_on 29 rfl rfl (by kernel_rfl) (fun _ => rfl)) rfl fun L u W hJ hG hL hdep K hK => ?_
      have a0 := (show IsFs rR (u 33) [x] from hG 33 (hdep 33 (by kernel_rfl)))
      have a1 := (show IsFs rR (u 34) [y] from hG 34 (hdep 34 (by kernel_rfl)))
      go_simp
      go_at_call 31
      (with_reducible refine (kSub a0 a1 _).mono ?_); rintro e w1 ⟨r, rfl, hr, hb⟩
      have hk := hK.out _ _ hr hb
      exact hk
    · refine step_callO hs (wants_on 29 rfl rfl (by kernel_rfl) (fun _ => rfl)) rfl fun L u W hJ hG hdep K hK => ?_
      have a0 := (show IsFs rE (u 32) [x - y] from hG 32 (hdep 32 (by kernel_rfl)))
      have a1 := (show IsFs rR (u 35) [x - y] from hG 35 (hdep 35 (by kernel_rfl)))
      go_simp
      go_at_call 28
      (with_reducible refine (cIs (b := true) (decide_eq_true rfl) a0 a1 _).mono ?_); rintro e w1 ⟨rfl, hb⟩
      have hk := hK.out _ _ rfl hb
      exact hk
    · exact step_pick true hs (wants_none rfl) rfl rfl (fun L u W hG hdep => (show u 29 = .bool true from hG 29 (hdep 29 (by kernel_rfl)))) (fun L u W hG hdep => (show u 36 = .bool true from hG 36 (hdep 36 (by kernel_rfl))))
    · exact step_pureO hs (wants_none rfl) rfl fun L u W hG hdep => ⟨_, run_move rfl, (show u 37 = .bool true from hG 37 (hdep 37 (by kernel_rfl)))⟩
    · exact step_load q7 0 hs (wants_on 38 rfl rfl (by kernel_rfl) (fun _ => rfl)) rfl rfl tyE (fun _ => E7.out) hm7.lt hm7 (noSto_apart (by kernel_rfl))
    · exact step_load q8 0 hs (wants_on 38 rfl rfl (by kernel_rfl) (fun _ => rfl)) rfl rfl tyE (fun _ => E8.out) hm8.lt hm8 (noSto_apart (by kernel_rfl))
    · refine step_call hs (wants_on 38 rfl rfl (by kernel_rfl) (fun _ => rfl)) rfl fun L u W hJ hG hL hdep K hK => ?_
      have a0 := (show IsFs rE (u 39) [x] from hG 39 (hdep 39 (by kernel_rfl)))
      have a1 := (show IsFs rE (u 40) [y] from hG 40 (hdep 40 (by kernel_rfl)))
      go_simp
      go_at_call 22
      (with_reducible refine (cMul a0 a1 _).mono ?_); rintro e w1 ⟨r, rfl, hr, hb⟩
      have hk := hK.out _ _ hr hb
      exact hk
    · exact step_load q9 0 hs (wants_on 38 rfl rfl (by kernel_rfl) (fun _ => rfl)) rfl rfl tyFe (fun _ => E9.out) hm9.lt hm9 (noSto_apart (by kernel_rfl))
    · exact step_load q10 0 hs (wants_on 38 rfl rfl (by kernel_rfl) (fun _ => rfl)) rfl rfl tyFe (fun _ => E10.out) hm10.lt hm10 (noSto_apart (by kernel_rfl))
    · refine step_call hs (wants_on 38 rfl rfl (by kernel_rfl) (fun _ => rfl)) rfl fun L u W hJ hG hL hdep K hK => ?_
      have a0 := (show IsFs rR (u 42) [x] from hG 42 (hdep 42 (by kernel_rfl)))
      have a1 := (show IsFs rR (u 43) [y] from hG 43 (hdep 43 (by kernel_rfl)))
      go_simp
      go_at_call 32
      (with_reducible refine (kMul a0 a1 _).mono ?_); rintro e w1 ⟨r, rfl, hr, hb⟩
      have hk := hK.out _ _ hr hb
      exact hk
    · refine step_callO hs (wants_on 38 rfl rfl (by kernel_rfl) (fun _ => rfl)) rfl fun L u W hJ hG hdep K hK => ?_
      have a0 := (show IsFs rE (u 41) [x * y] from hG 41 (hdep 41 (by kernel_rfl)))
      have a1 := (show IsFs rR (u 44) [x * y] from hG 44 (hdep 44 (by kernel_rfl)))
      go_simp
      go_at_call 28
      (with_reducible refine (cIs (b := true) (decide_eq_true rfl) a0 a1 _).mono ?_); rintro e w1 ⟨rfl, hb⟩
      have hk := hK.out _ _ rfl hb
      exact hk
    · exact step_pick true hs (wants_none rfl) rfl rfl (fun L u W hG hdep => (show u 38 = .bool true from hG 38 (hdep 38 (by kernel_rfl)))) (fun L u W hG hdep => (show u 45 = .bool true from hG 45 (hdep 45 (by kernel_rfl))))
    · exact step_pureO hs (wants_none rfl) rfl fun L u W hG hdep => ⟨_, run_move rfl, (show u 46 = .bool true from hG 46 (hdep 46 (by kernel_rfl)))⟩
    · exact step_load q7 0 hs (wants_on 47 rfl rfl (by kernel_rfl) (fun _ => rfl)) rfl rfl tyE (fun _ => E7.out) hm7.lt hm7 (noSto_apart (by kernel_rfl))
    · refine step_call hs (wants_on 47 rfl rfl (by kernel_rfl) (fun _ => rfl)) rfl fun L u W hJ hG hL hdep K hK => ?_
      have a0 := (show IsFs rE (u 48) [x] from hG 48 (hdep 48 (by kernel_rfl)))
      go_simp
      go_at_call 23
      (with_reducible refine (cNeg a0 _).mono ?_); rintro e w1 ⟨r, rfl, hr, hb⟩
      have hk := hK.out _ _ hr hb
      exact hk
    · exact step_load q9 0 hs (wants_on 47 rfl rfl (by kernel_rfl) (fun _ => rfl)) rfl rfl tyFe (fun _ => E9.out) hm9.lt hm9 (noSto_apart (by kernel_rfl))
    · refine step_call hs (wants_on 47 rfl rfl (by kernel_rfl) (fun _ => rfl)) rfl fun L u W hJ hG hL hdep K hK => ?_
      have a0 := (show IsFs rR (u 50) [x] from hG 50 (hdep 50 (by kernel_rfl)))
      go_simp
      go_at_call 33
      (with_reducible refine (kNeg a0 _).mono ?_); rintro e w1 ⟨r, rfl, hr, hb⟩
      have hk := hK.out _ _ hr hb
      exact hk
    · refine step_callO hs (wants_on 47 rfl rfl (by kernel_rfl) (fun _ => rfl)) rfl fun L u W hJ hG hdep K hK => ?_
      have a0 := (show IsFs rE (u 49) [-x] from hG 49 (hdep 49 (by kernel_rfl)))
      have a1 := (show IsFs rR (u 51) [-x] from hG 51 (hdep 51 (by kernel_rfl)))
      go_simp
      go_at_call 28
      (with_reducible refine (cIs (b := true) (decide_eq_true rfl) a0 a1 _).mono ?_); rintro e w1 ⟨rfl, hb⟩
      have hk := hK.out _ _ rfl hb
      exact hk
    · exact step_pick true hs (wants_none rfl) rfl rfl (fun L u W hG hdep => (show u 47 = .bool true from hG 47 (hdep 47 (by kernel_rfl)))) (fun L u W hG hdep => (show u 52 = .bool true from hG 52 (hdep 52 (by kernel_rfl))))
    · exact step_pureO hs (wants_none rfl) rfl fun L u W hG hdep => ⟨_, run_move rfl, (show u 53 = .bool true from hG 53 (hdep 53 (by kernel_rfl)))⟩
    · exact step_load q7 0 hs (wants_on 54 rfl rfl (by kernel_rfl) (fun _ => rfl)) rfl rfl tyE (fun _ => E7.out) hm7.lt hm7 (noSto_apart (by kernel_rfl))
    · exact step_load q8 0 hs (wants_on 54 rfl rfl (by kernel_rfl) (fun _ => rfl)) rfl rfl tyE (fun _ => E8.out) hm8.lt hm8 (noSto_apart (by kernel_rfl))
    · refine step_callO hs (wants_on 54 rfl rfl (by kernel_rfl) (fun _ => rfl)) rfl fun L u W hJ hG hdep K hK => ?_
      have a0 := (show IsFs rE (u 55) [x] from hG 55 (hdep 55 (by kernel_rfl)))
      have a1 := (show IsFs rE (u 56) [y] from hG 56 (hdep 56 (by kernel_rfl)))
      go_simp
      go_at_call 15
      (with_reducible refine (cSame (b := q) (HQ.out) a0 a1 _).mono ?_); rintro e w1 ⟨rfl, hb⟩
      have hk := hK.out _ _ rfl hb
      exact hk
    · exact step_load q9 0 hs (wants_on 54 rfl rfl (by kernel_rfl) (fun _ => rfl)) rfl rfl tyFe (fun _ => E9.out) hm9.lt hm9 (noSto_apart (by kernel_rfl))
    · exact step_load q10 0 hs (wants_on 54 rfl rfl (by kernel_rfl) (fun _ => rfl)) rfl rfl tyFe (fun _ => E10.out) hm10.lt hm10 (noSto_apart (by kernel_rfl))
    · exact step_pureO hs (wants_on 54 rfl rfl (by kernel_rfl) (fun _ => rfl)) rfl fun L u W hG hdep => ⟨_, run_eqlR rfl (show IsFs rR (u 58) [x] from hG 58 (hdep 58 (by kernel_rfl))) (show IsFs rR (u 59) [y] from hG 59 (hdep 59 (by kernel_rfl))), by rw [HQ.out]⟩
    · refine step_pureO hs (wants_on 54 rfl rfl (by kernel_rfl) (fun _ => rfl)) rfl fun L u W hG hdep => ⟨_, ?_, rfl⟩
      have e0 := (show u 57 = .bool q from hG 57 (hdep 57 (by kernel_rfl)))
      have e1 := (show u 60 = .bool q from hG 60 (hdep 60 (by kernel_rfl)))
      go_simp
      try simp [bne]
    · exact step_pick true hs (wants_none rfl) rfl rfl (fun L u W hG hdep => (show u 54 = .bool true from hG 54 (hdep 54 (by kernel_rfl)))) (fun L u W hG hdep => (show u 61 = .bool true from hG 61 (hdep 61 (by kernel_rfl))))
    · exact step_pureO hs (wants_none rfl) rfl fun L u W hG hdep => ⟨_, run_move rfl, (show u 62 = .bool true from hG 62 (hdep 62 (by kernel_rfl)))⟩
    · exact step_load q7 0 hs (wants_on 63 rfl rfl (by kernel_rfl) (fun _ => rfl)) rfl rfl tyE (fun _ => E7.out) hm7.lt hm7 (noSto_apart (by kernel_rfl))
    · refine step_callO hs (wants_on 63 rfl rfl (by kernel_rfl) (fun _ => rfl)) rfl fun L u W hJ hG hdep K hK => ?_
      have a0 := (show IsFs rE (u 64) [x] from hG 64 (hdep 64 (by kernel_rfl)))
      go_simp
      go_at_call 25
      (with_reducible refine (cOdd (b := p) (HO.out) a0 _).mono ?_); rintro e w1 ⟨rfl, hb⟩
      have hk := hK.out _ _ rfl hb
      exact hk
    · refine step_pureO hs (wants_on 63 rfl rfl (by kernel_rfl) (fun _ => rfl)) rfl fun L u W hG hdep => ⟨_, ?_, rfl⟩
      have e0 := E9.out
      go_simp
    · exact step_cell q9 0 hs (wants_on 63 rfl rfl (by kernel_rfl) (fun _ => rfl)) rfl rfl (fun _ h => load_u64 h) (fun L u W hG hdep => (show u 66 = .pointer (some ⟨q9, 0, none⟩) from hG 66 (hdep 66 (by kernel_rfl)))) (by rw [← HD.out]; exact hm9.cell0) (noSto_apart (by kernel_rfl))
    · refine step_pureO hs (wants_on 63 rfl rfl (by kernel_rfl) (fun _ => rfl)) rfl fun L u W hG hdep => ⟨_, ?_, rfl⟩
      have e0 := (show u 67 = .int .u64 D from hG 67 (hdep 67 (by kernel_rfl)))
      go_simp
      try simp [bne]
    · refine step_pureO hs (wants_on 63 rfl rfl (by kernel_rfl) (fun _ => rfl)) rfl fun L u W hG hdep => ⟨_, ?_, rfl⟩
      have e0 := (show u 68 = .int .u64 (bits BinOp.and IntKind.u64 D 1) from hG 68 (hdep 68 (by kernel_rfl)))
      have f1 := HU.out
      go_simp
    · refine step_pureO hs (wants_on 63 rfl rfl (by kernel_rfl) (fun _ => rfl)) rfl fun L u W hG hdep => ⟨_, ?_, rfl⟩
      have e0 := (show u 65 = .bool p from hG 65 (hdep 65 (by kernel_rfl)))
      have e1 := (show u 69 = .bool p from hG 69 (hdep 69 (by kernel_rfl)))
      go_simp
      try simp [bne]
    · exact step_pick true hs (wants_none rfl) rfl rfl (fun L u W hG hdep => (show u 63 = .bool true from hG 63 (hdep 63 (by kernel_rfl)))) (fun L u W hG hdep => (show u 70 = .bool true from hG 70 (hdep 70 (by kernel_rfl))))
    · exact step_pureO hs (wants_none rfl) rfl fun L u W hG hdep => ⟨_, run_move rfl, (show u 71 = .bool true from hG 71 (hdep 71 (by kernel_rfl)))⟩
    · exact step_load q7 0 hs (wants_on 72 rfl rfl (by kernel_rfl) (fun _ => rfl)) rfl rfl tyE (fun _ => E7.out) hm7.lt hm7 (noSto_apart (by kernel_rfl))
    · exact step_load q8 0 hs (wants_on 72 rfl rfl (by kernel_rfl) (fun _ => rfl)) rfl rfl tyE (fun _ => E8.out) hm8.lt hm8 (noSto_apart (by kernel_rfl))
    · refine step_call hs (wants_on 72 rfl rfl (by kernel_rfl) (fun _ => rfl)) rfl fun L u W hJ hG hL hdep K hK => ?_
      have a0 := (show IsFs rE (u 73) [x] from hG 73 (hdep 73 (by kernel_rfl)))
      have a1 := (show IsFs rE (u 74) [y] from hG 74 (hdep 74 (by kernel_rfl)))
      go_simp
      go_at_call 14
      (with_reducible refine (cPick (b := true) rfl a0 a1 _).mono ?_); rintro e w1 ⟨r, rfl, hr, hb⟩
      have hk := hK.out _ _ hr hb
      exact hk
    · exact step_load q9 0 hs (wants_on 72 rfl rfl (by kernel_rfl) (fun _ => rfl)) rfl rfl tyFe (fun _ => E9.out) hm9.lt hm9 (noSto_apart (by kernel_rfl))
    · refine step_callO hs (wants_on 72 rfl rfl (by kernel_rfl) (fun _ => rfl)) rfl fun L u W hJ hG hdep K hK => ?_
      have a0 := (show IsFs rE (u 75) [x] from hG 75 (hdep 75 (by kernel_rfl)))
      have a1 := (show IsFs rR (u 76) [x] from hG 76 (hdep 76 (by kernel_rfl)))
      go_simp
      go_at_call 28
      (with_reducible refine (cIs (b := true) (decide_eq_true rfl) a0 a1 _).mono ?_); rintro e w1 ⟨rfl, hb⟩
      have hk := hK.out _ _ rfl hb
      exact hk
    · exact step_pick true hs (wants_none rfl) rfl rfl (fun L u W hG hdep => (show u 72 = .bool true from hG 72 (hdep 72 (by kernel_rfl)))) (fun L u W hG hdep => (show u 77 = .bool true from hG 77 (hdep 77 (by kernel_rfl))))
    · exact step_pureO hs (wants_none rfl) rfl fun L u W hG hdep => ⟨_, run_move rfl, (show u 78 = .bool true from hG 78 (hdep 78 (by kernel_rfl)))⟩
    · exact step_load q7 0 hs (wants_on 79 rfl rfl (by kernel_rfl) (fun _ => rfl)) rfl rfl tyE (fun _ => E7.out) hm7.lt hm7 (noSto_apart (by kernel_rfl))
    · exact step_load q8 0 hs (wants_on 79 rfl rfl (by kernel_rfl) (fun _ => rfl)) rfl rfl tyE (fun _ => E8.out) hm8.lt hm8 (noSto_apart (by kernel_rfl))
    · refine step_call hs (wants_on 79 rfl rfl (by kernel_rfl) (fun _ => rfl)) rfl fun L u W hJ hG hL hdep K hK => ?_
      have a0 := (show IsFs rE (u 80) [x] from hG 80 (hdep 80 (by kernel_rfl)))
      have a1 := (show IsFs rE (u 81) [y] from hG 81 (hdep 81 (by kernel_rfl)))
      go_simp
      go_at_call 14
      (with_reducible refine (cPick (b := false) rfl a0 a1 _).mono ?_); rintro e w1 ⟨r, rfl, hr, hb⟩
      have hk := hK.out _ _ hr hb
      exact hk
    · exact step_load q10 0 hs (wants_on 79 rfl rfl (by kernel_rfl) (fun _ => rfl)) rfl rfl tyFe (fun _ => E10.out) hm10.lt hm10 (noSto_apart (by kernel_rfl))
    · refine step_callO hs (wants_on 79 rfl rfl (by kernel_rfl) (fun _ => rfl)) rfl fun L u W hJ hG hdep K hK => ?_
      have a0 := (show IsFs rE (u 82) [y] from hG 82 (hdep 82 (by kernel_rfl)))
      have a1 := (show IsFs rR (u 83) [y] from hG 83 (hdep 83 (by kernel_rfl)))
      go_simp
      go_at_call 28
      (with_reducible refine (cIs (b := true) (decide_eq_true rfl) a0 a1 _).mono ?_); rintro e w1 ⟨rfl, hb⟩
      have hk := hK.out _ _ rfl hb
      exact hk
    · exact step_pick true hs (wants_none rfl) rfl rfl (fun L u W hG hdep => (show u 79 = .bool true from hG 79 (hdep 79 (by kernel_rfl)))) (fun L u W hG hdep => (show u 84 = .bool true from hG 84 (hdep 84 (by kernel_rfl))))
    · exact step_pureO hs (wants_none rfl) rfl fun L u W hG hdep => ⟨_, run_move rfl, (show u 85 = .bool true from hG 85 (hdep 85 (by kernel_rfl)))⟩
    · refine step_callO hs (wants_on 86 rfl rfl (by kernel_rfl) (fun _ => rfl)) rfl fun L u W hJ hG hdep K hK => ?_
      go_simp
      go_at_call 12
      (with_reducible refine (law5awake_any _).mono ?_); rintro e w1 ⟨rfl, hb⟩
      have hk := hK.out _ _ rfl hb
      exact hk
    · exact step_pick true hs (wants_none rfl) rfl rfl (fun L u W hG hdep => (show u 86 = .bool true from hG 86 (hdep 86 (by kernel_rfl)))) (fun L u W hG hdep => (show u 87 = .bool true from hG 87 (hdep 87 (by kernel_rfl))))
    · exact step_pureO hs (wants_none rfl) rfl fun L u W hG hdep => ⟨_, run_assign rfl, (show u 88 = .bool true from hG 88 (hdep 88 (by kernel_rfl)))⟩
  intro L9 u9 W9 hall hJ hG
  have hb := hJ.all rfl
  have hbel := Below.call hbel hb
  have hm7 := hm7.later hb
  have hm8 := hm8.later hb
  have hm9 := hm9.later hb
  have hm10 := hm10.later hb
  have hm11 := hm11.later hb
  have hm13 := hm13.later hb
  have ht7 := there_later ht7 hb
  have ht8 := there_later ht8 hb
  have ht9 := there_later ht9 hb
  have ht10 := there_later ht10 hb
  have ht11 := there_later ht11 hb
  have ht13 := there_later ht13 hb
  have HC40 := Lib.hid (show u9 2 = .bool true from hG 2 (by simp))
  have HC41 := Lib.hid (show u9 3 = .bool true from hG 3 (by simp))
  have HC44 := Lib.hid (show u9 6 = .bool true from hG 6 (by simp))
  have HC45 := Lib.hid (show u9 7 = .bool true from hG 7 (by simp))
  have HC46 := Lib.hid (show u9 8 = .bool true from hG 8 (by simp))
  have HC49 := Lib.hid (show u9 11 = .bool true from hG 11 (by simp))
  have HC50 := Lib.hid (show u9 12 = .bool true from hG 12 (by simp))
  have HC51 := Lib.hid (show u9 13 = .bool true from hG 13 (by simp))
  have HC56 := Lib.hid (show u9 18 = .bool true from hG 18 (by simp))
  have HC57 := Lib.hid (show u9 19 = .bool true from hG 19 (by simp))
  have HC58 := Lib.hid (show u9 20 = .bool true from hG 20 (by simp))
  have HC65 := Lib.hid (show u9 27 = .bool true from hG 27 (by simp))
  have HC66 := Lib.hid (show u9 28 = .bool true from hG 28 (by simp))
  have HC67 := Lib.hid (show u9 29 = .bool true from hG 29 (by simp))
  have HC74 := Lib.hid (show u9 36 = .bool true from hG 36 (by simp))
  have HC75 := Lib.hid (show u9 37 = .bool true from hG 37 (by simp))
  have HC76 := Lib.hid (show u9 38 = .bool true from hG 38 (by simp))
  have HC83 := Lib.hid (show u9 45 = .bool true from hG 45 (by simp))
  have HC84 := Lib.hid (show u9 46 = .bool true from hG 46 (by simp))
  have HC85 := Lib.hid (show u9 47 = .bool true from hG 47 (by simp))
  have HC90 := Lib.hid (show u9 52 = .bool true from hG 52 (by simp))
  have HC91 := Lib.hid (show u9 53 = .bool true from hG 53 (by simp))
  have HC92 := Lib.hid (show u9 54 = .bool true from hG 54 (by simp))
  have HC95 := Lib.hid (show u9 57 = .bool q from hG 57 (by simp))
  have HC98 := Lib.hid (show u9 60 = .bool q from hG 60 (by simp))
  have HC99 := Lib.hid (show u9 61 = .bool true from hG 61 (by simp))
  have HC100 := Lib.hid (show u9 62 = .bool true from hG 62 (by simp))
  have HC101 := Lib.hid (show u9 63 = .bool true from hG 63 (by simp))
  have HC103 := Lib.hid (show u9 65 = .bool p from hG 65 (by simp))
  have HC107 := Lib.hid (show u9 69 = .bool p from hG 69 (by simp))
  have HC108 := Lib.hid (show u9 70 = .bool true from hG 70 (by simp))
  have HC109 := Lib.hid (show u9 71 = .bool true from hG 71 (by simp))
  have HC110 := Lib.hid (show u9 72 = .bool true from hG 72 (by simp))
  have HC115 := Lib.hid (show u9 77 = .bool true from hG 77 (by simp))
  have HC116 := Lib.hid (show u9 78 = .bool true from hG 78 (by simp))
  have HC117 := Lib.hid (show u9 79 = .bool true from hG 79 (by simp))
  have HC122 := Lib.hid (show u9 84 = .bool true from hG 84 (by simp))
  have HC123 := Lib.hid (show u9 85 = .bool true from hG 85 (by simp))
  have HC124 := Lib.hid (show u9 86 = .bool true from hG 86 (by simp))
  have HC125 := Lib.hid (show u9 87 = .bool true from hG 87 (by simp))
  have HC126 := Lib.hid (show u9 88 = .bool true from hG 88 (by simp))
  have HC6 := Lib.hid (show u9 89 = .bool true from hG 89 (by simp))
  have hbel0 := hbel
  clear hJ hG hall hb
  rw [HC6.out]
  go_wp2
  go_ret
  exact ⟨rfl, hbel⟩
end Go.Proofs.Ytfjaplggohflbaa
