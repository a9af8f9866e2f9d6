/- What EB rests on, part 6 of 6: my own texts, put together (merge.py). -/
import Derived.Deep.RegionHeld3
import Derived.WalkKit
import Derived.ProofKit
import Derived.Lib.Hide
import Derived.OpenShut
import Derived.Deep.MidRow
import Derived.Test.YtielgpefoameiaaRows
import Derived.WalkSpells
import Derived.StillTactics
import Derived.Laws.Pointers
import Derived.Laws.CopyOwn
import Derived.Laws.AppendOwnNone
import Derived.RowKit3
import Derived.BigQuiet
import Derived.Deep.QuietTactic
import Derived.Deep.LoopGhost
import Derived.Deep.DeepFit
import Derived.WalkLawsBesides
import Derived.Shelf.Spec.BitsCarry
import Derived.Laws.IdiomStrings
import Derived.Deep.WholeRow
import Derived.Laws.Rows
import Derived.Deep.DeepCutAuto
import Derived.Lib.AppendZerosOnto
import Derived.Lib.SliceRun
import Derived.Deep.Matrix
import Derived.Deep.AppendLies
import Derived.ShutString
import Derived.ChangeOld
import Derived.Test.YtielgpefoameiaaZEBE
namespace Go.Proofs.Ytielgpefoameiaa
open Go Go.RowKit
theorem ss_no {l : List UInt8} (h : ¬ ssC l = 0) : ssC l = 2 := by
  unfold ssC at *
  split
  · rename_i h1; rw [if_pos h1] at h; exact absurd rfl h
  · rfl
set_option maxRecDepth 100000 in
set_option maxHeartbeats 1000000 in
theorem ver_pt {w : World} {v0 v1 v2 : Value} {pub sig l : List UInt8} {ls : List (List UInt8)} (hp : (IsB pub).P v0 w) (hsg : (IsB sig).P v1 w) (h1 : (IsR ls).P v2 w) (hl : ls.flatten = l) (hm : l.length ≤ 100000) {A : EP} (ka : decV pub = A) (kc : decC pub = 12) :
    Calls Try.prog 12 #[v0, v1, v2] w fun e w' => e = .returned (.int .i64 12) ∧ Below w.heap.size w w' := by
  have _u1 := hsg; have _u2 := h1; have _u3 := hl; have _u4 := hm
  clear _u1 _u2 _u3 _u4 hsg h1 hl hm
  have KA := Lib.hid ka; clear ka
  have KC := Lib.hid kc; clear kc
  go_enter Try.func12, Try.ntmps12
  have hbel : Below w.heap.size w w := Below.refl _ _
  have hbel0 := hbel
  go_upto_region 0 with fail
  refine wp_region_turn (fun u => #[v0, v1, v2, undef, undef, undef, u 0, undef, undef, undef, undef, undef, undef, undef, undef, undef, undef, undef, undef, undef, undef, undef, undef, undef, undef, undef, undef, undef, undef, undef, undef, undef, undef, undef, undef, undef, undef, undef, undef, undef, undef, undef, undef, undef, undef, undef, undef, undef, undef, undef, undef, undef, undef, undef, undef, undef, undef, undef, undef]) (Holds [.oth (fun v => v = .int .i64 0)] w) (Keep [.oth (fun v => v = .int .i64 0)] w) (fun _ => undef) ?_ (by rfl) Keep.start (holds_soft (by kernel_rfl)) ?_ ?_
  · intro u i v h
    rcases i with _ | i
    all_goals first | (simp [Act.put, putV]; done) | (exfalso; simp at h; omega)
  · intro hs
    refine ⟨?_, trivial⟩
    · exact step_pureO hs (wants_none rfl) rfl fun L u W hG hdep => ⟨_, run_assign rfl, rfl⟩
  intro L0 u0 W0 hall hJ hG
  have hb := hJ.all rfl
  have hbel := Below.call hbel hb
  have HC6 := Lib.hid (show u0 0 = .int .i64 0 from hG 0 (by simp))
  have hbel0 := hbel
  clear hJ hG hall hb
  go_upto_region 1 with fail
  refine wp_region_turn (fun u => #[v0, v1, v2, undef, undef, undef, u0 0, u 5, u 7, undef, undef, undef, u 2, u 0, u 1, u 3, u 4, undef, undef, undef, undef, undef, undef, undef, undef, undef, undef, undef, undef, undef, undef, undef, undef, undef, undef, undef, undef, undef, undef, undef, undef, undef, undef, undef, undef, undef, undef, undef, undef, undef, undef, undef, undef, undef, undef, undef, undef, undef, undef]) (Holds [.wld (IsB pub) (some 1), .oth (fun v => IsTV rP v [A] (.int .i64 12)), .oth (fun v => IsTV rP v [A] (.int .i64 12)), .val rP [A], .oth (fun v => v = .int .i64 12), .new 20, .st 5 rP [A], .oth (fun v => v = .int .i64 12)] W0) (Keep [.wld (IsB pub) (some 1), .oth (fun v => IsTV rP v [A] (.int .i64 12)), .oth (fun v => IsTV rP v [A] (.int .i64 12)), .val rP [A], .oth (fun v => v = .int .i64 12), .new 20, .st 5 rP [A], .oth (fun v => v = .int .i64 12)] W0) (fun _ => undef) ?_ (by rfl) Keep.start (holds_soft (by kernel_rfl)) ?_ ?_
  · intro u i v h
    rcases i with _ | _ | _ | _ | _ | _ | _ | _ | i
    all_goals first | (simp [Act.put, putV]; done) | (exfalso; simp at h; omega)
  · intro hs
    refine ⟨?_, ?_, ?_, ?_, ?_, ?_, ?_, ?_, trivial⟩
    · exact step_runP hs (wants_none rfl) rfl fun L u W hJ hG hL hdep => run_moveP (.inl rfl) ((IsB pub).st _ _ _ hp (Below.call hbel (hJ.all rfl)))
    · refine step_callO hs (wants_none rfl) rfl fun L u W hJ hG hL hdep K hK => ?_
      go_simp
      go_at_call 21
      (with_reducible refine (gDecode KA.out KC.out (holds_wld (φ := IsB pub) (hG 0 (hdep 0 (by kernel_rfl))) rfl (till_some hL))).mono ?_); rintro e w1 ⟨r, rfl, hr, hb⟩
      have hk := hK.out _ _ ⟨r, rfl, hr⟩ hb
      exact hk
    · exact step_pureO hs (wants_none rfl) rfl fun L u W hG hdep => ⟨_, run_move rfl, (show IsTV rP (u 1) [A] (.int .i64 12) from hG 1 (hdep 1 (by kernel_rfl)))⟩
    · exact step_pure hs (wants_none rfl) rfl fun L u W hG hdep => run_extractV0 rfl (show IsTV rP (u 2) [A] (.int .i64 12) from hG 2 (hdep 2 (by kernel_rfl)))
    · exact step_pureO hs (wants_none rfl) rfl fun L u W hG hdep => run_extractV1 rfl (show IsTV rP (u 2) [A] (.int .i64 12) from hG 2 (hdep 2 (by kernel_rfl)))
    · exact step_alloc hs (wants_none rfl) rfl rfl (by omega) rfl allocP
    · exact step_store 5 hs (by kernel_rfl) (wants_none rfl) rfl rfl rfl (by kernel_rfl) (by kernel_rfl) (by kernel_rfl) (by kernel_rfl) (fun _ => rfl) (gives_op 3 rfl (by kernel_rfl) (fun _ => rfl)) tyP rfl
    · exact step_pureO hs (wants_none rfl) rfl fun L u W hG hdep => ⟨_, run_assign rfl, (show u 4 = .int .i64 12 from hG 4 (hdep 4 (by kernel_rfl)))⟩
  intro L1 u1 W1 hall hJ hG
  obtain ⟨q7, e7, hq7, _, ht7⟩ := (show ∃ g, u1 5 = .pointer (some ⟨g, 0, none⟩) ∧ W0.heap.size ≤ g ∧ 0 < 20 ∧ W1.there g 0 20 from hG 5 (by simp))
  have hm7 : HasFs rP W1 q7 0 [A] := by
    obtain ⟨g, e, _, h⟩ := (show ∃ g, u1 5 = .pointer (some ⟨g, 0, none⟩) ∧ W0.heap.size ≤ g ∧ HasFs rP W1 g 0 [A] from hG 6 (by simp))
    rw [e7] at e; cases e; exact h
  have hq7 : w.heap.size ≤ q7 := by have := hbel0.size; omega
  have E7 := Lib.hid e7; clear e7
  have hb := hJ.all rfl
  have hbel := Below.call hbel hb
  have HC8 := Lib.hid (show u1 7 = .int .i64 12 from hG 7 (by simp))
  have hbel0 := hbel
  clear hJ hG hall hb
  go_upto_region 2 with fail
  refine wp_region_turn (fun u => #[v0, v1, v2, undef, undef, undef, u0 0, u1 5, u1 7, undef, undef, undef, u1 2, u1 0, u1 1, u1 3, u1 4, u 0, u 1, u 2, u 3, u 4, u 5, undef, undef, undef, undef, undef, undef, undef, undef, undef, undef, undef, undef, undef, undef, undef, undef, undef, undef, undef, undef, undef, undef, undef, undef, undef, undef, undef, undef, undef, undef, undef, undef, undef, undef, undef, undef]) (Holds [.oth (fun v => v = .int .i64 12), .oth (fun v => v = .bool true), .oth (fun v => v = .bool true), .oth (fun v => v = undef), .oth (fun v => v = undef), .oth (fun v => v = .bool true)] W1) (Keep [.oth (fun v => v = .int .i64 12), .oth (fun v => v = .bool true), .oth (fun v => v = .bool true), .oth (fun v => v = undef), .oth (fun v => v = undef), .oth (fun v => v = .bool true)] W1) (fun _ => undef) ?_ (by rfl) Keep.start (holds_soft (by kernel_rfl)) ?_ ?_
  · intro u i v h
    rcases i with _ | _ | _ | _ | _ | _ | i
    all_goals first | (simp [Act.put, putV]; done) | (exfalso; simp at h; omega)
  · intro hs
    refine ⟨?_, ?_, ?_, ?_, ?_, ?_, trivial⟩
    · exact step_pureO hs (wants_none rfl) rfl fun L u W hG hdep => ⟨_, run_move rfl, HC8.out⟩
    · refine step_pureO hs (wants_none rfl) rfl fun L u W hG hdep => ⟨_, ?_, rfl⟩
      have e0 := (show u 0 = .int .i64 12 from hG 0 (hdep 0 (by kernel_rfl)))
      go_simp
      try simp [bne]
    · exact step_pureO hs (wants_none rfl) rfl fun L u W hG hdep => ⟨_, run_move rfl, (show u 1 = .bool true from hG 1 (hdep 1 (by kernel_rfl)))⟩
    · exact step_outU hs (wants_off 2 rfl rfl rfl (by kernel_rfl) (fun _ => rfl)) rfl
    · exact step_outU hs (wants_off 2 rfl rfl rfl (by kernel_rfl) (fun _ => rfl)) rfl
    · exact step_pick true hs (wants_none rfl) rfl rfl (fun L u W hG hdep => (show u 2 = .bool true from hG 2 (hdep 2 (by kernel_rfl)))) (fun L u W hG hdep => rfl)
  intro L2 u2 W2 hall hJ hG
  have hb := hJ.all rfl
  have hbel := Below.call hbel hb
  have hm7 := hm7.later hb
  have ht7 := there_later ht7 hb
  have HC18 := Lib.hid (show u2 1 = .bool true from hG 1 (by simp))
  have HC19 := Lib.hid (show u2 2 = .bool true from hG 2 (by simp))
  have HC22 := Lib.hid (show u2 5 = .bool true from hG 5 (by simp))
  have hbel0 := hbel
  clear hJ hG hall hb
  have hx : u2 5 = .bool true := HC22.out
  go_wp2_with fail
  rw [hx]
  clear hx
  go_upto_region 3 with fail
  refine wp_region_turn (fun u => #[v0, v1, v2, undef, undef, undef, u 0, u1 5, u1 7, undef, undef, undef, u1 2, u1 0, u1 1, u1 3, u1 4, u2 0, u2 1, u2 2, u2 3, u2 4, .bool true, undef, undef, undef, undef, undef, undef, undef, undef, undef, undef, undef, undef, undef, undef, undef, undef, undef, undef, undef, undef, undef, undef, undef, undef, undef, undef, undef, undef, undef, undef, undef, undef, undef, undef, undef, undef]) (Holds [.oth (fun v => v = .int .i64 12)] W2) (Keep [.oth (fun v => v = .int .i64 12)] W2) (fun k => ((u0 0 :: []) : List Value).getD k undef) ?_ (by rfl) Keep.start (holds_soft (by kernel_rfl)) ?_ ?_
  · intro u i v h
    rcases i with _ | i
    all_goals first | (simp [Act.put, putV]; done) | (exfalso; simp at h; omega)
  · intro hs
    refine ⟨?_, trivial⟩
    · exact step_pureO hs (wants_none rfl) rfl fun L u W hG hdep => ⟨_, run_assign rfl, rfl⟩
  intro L3 u3 W3 hall hJ hG
  have hb := hJ.all rfl
  have hbel := Below.call hbel hb
  have hm7 := hm7.later hb
  have ht7 := there_later ht7 hb
  have HC6 := Lib.hid (show u3 0 = .int .i64 12 from hG 0 (by simp))
  have hbel0 := hbel
  clear hJ hG hall hb
  go_wp2
  go_ret
  exact ⟨by rw [HC6.out]; rfl, hbel⟩
set_option maxRecDepth 100000 in
set_option maxHeartbeats 1000000 in
theorem ver_small {w : World} {v0 v1 v2 : Value} {pub sig l : List UInt8} {ls : List (List UInt8)} (hp : (IsB pub).P v0 w) (hsg : (IsB sig).P v1 w) (h1 : (IsR ls).P v2 w) (hl : ls.flatten = l) (hm : l.length ≤ 100000) {A : EP} (ka : decV pub = A) (kc : decC pub = 0) (km : decide (Cp.mul 8 A = Cp.zero) = true) :
    Calls Try.prog 12 #[v0, v1, v2] w fun e w' => e = .returned (.int .i64 12) ∧ Below w.heap.size w w' := by
  have _u1 := hsg; have _u2 := h1; have _u3 := hl; have _u4 := hm
  clear _u1 _u2 _u3 _u4 hsg h1 hl hm
  have KA := Lib.hid ka; clear ka
  have KC := Lib.hid kc; clear kc
  have KM := Lib.hid km; clear km
  go_enter Try.func12, Try.ntmps12
  have hbel : Below w.heap.size w w := Below.refl _ _
  have hbel0 := hbel
  go_upto_region 0 with fail
  refine wp_region_turn (fun u => #[v0, v1, v2, undef, undef, undef, u 0, undef, undef, undef, undef, undef, undef, undef, undef, undef, undef, undef, undef, undef, undef, undef, undef, undef, undef, undef, undef, undef, undef, undef, undef, undef, undef, undef, undef, undef, undef, undef, undef, undef, undef, undef, undef, undef, undef, undef, undef, undef, undef, undef, undef, undef, undef, undef, undef, undef, undef, undef, undef]) (Holds [.oth (fun v => v = .int .i64 0)] w) (Keep [.oth (fun v => v = .int .i64 0)] w) (fun _ => undef) ?_ (by rfl) Keep.start (holds_soft (by kernel_rfl)) ?_ ?_
  · intro u i v h
    rcases i with _ | i
    all_goals first | (simp [Act.put, putV]; done) | (exfalso; simp at h; omega)
  · intro hs
    refine ⟨?_, trivial⟩
    · exact step_pureO hs (wants_none rfl) rfl fun L u W hG hdep => ⟨_, run_assign rfl, rfl⟩
  intro L0 u0 W0 hall hJ hG
  have hb := hJ.all rfl
  have hbel := Below.call hbel hb
  have HC6 := Lib.hid (show u0 0 = .int .i64 0 from hG 0 (by simp))
  have hbel0 := hbel
  clear hJ hG hall hb
  go_upto_region 1 with fail
  refine wp_region_turn (fun u => #[v0, v1, v2, undef, undef, undef, u0 0, u 5, u 7, undef, undef, undef, u 2, u 0, u 1, u 3, u 4, undef, undef, undef, undef, undef, undef, undef, undef, undef, undef, undef, undef, undef, undef, undef, undef, undef, undef, undef, undef, undef, undef, undef, undef, undef, undef, undef, undef, undef, undef, undef, undef, undef, undef, undef, undef, undef, undef, undef, undef, undef, undef]) (Holds [.wld (IsB pub) (some 1), .oth (fun v => IsTV rP v [A] (.int .i64 0)), .oth (fun v => IsTV rP v [A] (.int .i64 0)), .val rP [A], .oth (fun v => v = .int .i64 0), .new 20, .st 5 rP [A], .oth (fun v => v = .int .i64 0)] W0) (Keep [.wld (IsB pub) (some 1), .oth (fun v => IsTV rP v [A] (.int .i64 0)), .oth (fun v => IsTV rP v [A] (.int .i64 0)), .val rP [A], .oth (fun v => v = .int .i64 0), .new 20, .st 5 rP [A], .oth (fun v => v = .int .i64 0)] W0) (fun _ => undef) ?_ (by rfl) Keep.start (holds_soft (by kernel_rfl)) ?_ ?_
  · intro u i v h
    rcases i with _ | _ | _ | _ | _ | _ | _ | _ | i
    all_goals first | (simp [Act.put, putV]; done) | (exfalso; simp at h; omega)
  · intro hs
    refine ⟨?_, ?_, ?_, ?_, ?_, ?_, ?_, ?_, trivial⟩
    · exact step_runP hs (wants_none rfl) rfl fun L u W hJ hG hL hdep => run_moveP (.inl rfl) ((IsB pub).st _ _ _ hp (Below.call hbel (hJ.all rfl)))
    · refine step_callO hs (wants_none rfl) rfl fun L u W hJ hG hL hdep K hK => ?_
      go_simp
      go_at_call 21
      (with_reducible refine (gDecode KA.out KC.out (holds_wld (φ := IsB pub) (hG 0 (hdep 0 (by kernel_rfl))) rfl (till_some hL))).mono ?_); rintro e w1 ⟨r, rfl, hr, hb⟩
      have hk := hK.out _ _ ⟨r, rfl, hr⟩ hb
      exact hk
    · exact step_pureO hs (wants_none rfl) rfl fun L u W hG hdep => ⟨_, run_move rfl, (show IsTV rP (u 1) [A] (.int .i64 0) from hG 1 (hdep 1 (by kernel_rfl)))⟩
    · exact step_pure hs (wants_none rfl) rfl fun L u W hG hdep => run_extractV0 rfl (show IsTV rP (u 2) [A] (.int .i64 0) from hG 2 (hdep 2 (by kernel_rfl)))
    · exact step_pureO hs (wants_none rfl) rfl fun L u W hG hdep => run_extractV1 rfl (show IsTV rP (u 2) [A] (.int .i64 0) from hG 2 (hdep 2 (by kernel_rfl)))
    · exact step_alloc hs (wants_none rfl) rfl rfl (by omega) rfl allocP
    · exact step_store 5 hs (by kernel_rfl) (wants_none rfl) rfl rfl rfl (by kernel_rfl) (by kernel_rfl) (by kernel_rfl) (by kernel_rfl) (fun _ => rfl) (gives_op 3 rfl (by kernel_rfl) (fun _ => rfl)) tyP rfl
    · exact step_pureO hs (wants_none rfl) rfl fun L u W hG hdep => ⟨_, run_assign rfl, (show u 4 = .int .i64 0 from hG 4 (hdep 4 (by kernel_rfl)))⟩
  intro L1 u1 W1 hall hJ hG
  obtain ⟨q7, e7, hq7, _, ht7⟩ := (show ∃ g, u1 5 = .pointer (some ⟨g, 0, none⟩) ∧ W0.heap.size ≤ g ∧ 0 < 20 ∧ W1.there g 0 20 from hG 5 (by simp))
  have hm7 : HasFs rP W1 q7 0 [A] := by
    obtain ⟨g, e, _, h⟩ := (show ∃ g, u1 5 = .pointer (some ⟨g, 0, none⟩) ∧ W0.heap.size ≤ g ∧ HasFs rP W1 g 0 [A] from hG 6 (by simp))
    rw [e7] at e; cases e; exact h
  have hq7 : w.heap.size ≤ q7 := by have := hbel0.size; omega
  have E7 := Lib.hid e7; clear e7
  have hb := hJ.all rfl
  have hbel := Below.call hbel hb
  have HC8 := Lib.hid (show u1 7 = .int .i64 0 from hG 7 (by simp))
  have hbel0 := hbel
  clear hJ hG hall hb
  go_upto_region 2 with fail
  refine wp_region_turn (fun u => #[v0, v1, v2, undef, undef, undef, u0 0, u1 5, u1 7, undef, undef, undef, u1 2, u1 0, u1 1, u1 3, u1 4, u 0, u 1, u 2, u 3, u 4, u 5, undef, undef, undef, undef, undef, undef, undef, undef, undef, undef, undef, undef, undef, undef, undef, undef, undef, undef, undef, undef, undef, undef, undef, undef, undef, undef, undef, undef, undef, undef, undef, undef, undef, undef, undef, undef]) (Holds [.oth (fun v => v = .int .i64 0), .oth (fun v => v = .bool false), .oth (fun v => v = .bool false), .val rP [A], .oth (fun v => v = .bool true), .oth (fun v => v = .bool true)] W1) (Keep [.oth (fun v => v = .int .i64 0), .oth (fun v => v = .bool false), .oth (fun v => v = .bool false), .val rP [A], .oth (fun v => v = .bool true), .oth (fun v => v = .bool true)] W1) (fun _ => undef) ?_ (by rfl) Keep.start (holds_soft (by kernel_rfl)) ?_ ?_
  · intro u i v h
    rcases i with _ | _ | _ | _ | _ | _ | i
    all_goals first | (simp [Act.put, putV]; done) | (exfalso; simp at h; omega)
  · intro hs
    refine ⟨?_, ?_, ?_, ?_, ?_, ?_, trivial⟩
    · exact step_pureO hs (wants_none rfl) rfl fun L u W hG hdep => ⟨_, run_move rfl, HC8.out⟩
    · refine step_pureO hs (wants_none rfl) rfl fun L u W hG hdep => ⟨_, ?_, rfl⟩
      have e0 := (show u 0 = .int .i64 0 from hG 0 (hdep 0 (by kernel_rfl)))
      go_simp
      try simp [bne]
    · exact step_pureO hs (wants_none rfl) rfl fun L u W hG hdep => ⟨_, run_move rfl, (show u 1 = .bool false from hG 1 (hdep 1 (by kernel_rfl)))⟩
    · exact step_load q7 0 hs (wants_on 2 rfl rfl (by kernel_rfl) (fun _ => rfl)) rfl rfl tyP (fun _ => E7.out) hm7.lt hm7 (noSto_apart (by kernel_rfl))
    · refine step_callO hs (wants_on 2 rfl rfl (by kernel_rfl) (fun _ => rfl)) rfl fun L u W hJ hG hL hdep K hK => ?_
      have a0 := (show IsFs rP (u 3) [A] from hG 3 (hdep 3 (by kernel_rfl)))
      go_simp
      go_at_call 22
      (with_reducible refine (cPSmall (b := true) (KM.out) a0 _).mono ?_); rintro e w1 ⟨rfl, hb⟩
      have hk := hK.out _ _ rfl hb
      exact hk
    · exact step_pick false hs (wants_none rfl) rfl rfl (fun L u W hG hdep => (show u 2 = .bool false from hG 2 (hdep 2 (by kernel_rfl)))) (fun L u W hG hdep => (show u 4 = .bool true from hG 4 (hdep 4 (by kernel_rfl))))
  intro L2 u2 W2 hall hJ hG
  have hb := hJ.all rfl
  have hbel := Below.call hbel hb
  have hm7 := hm7.later hb
  have ht7 := there_later ht7 hb
  have HC18 := Lib.hid (show u2 1 = .bool false from hG 1 (by simp))
  have HC19 := Lib.hid (show u2 2 = .bool false from hG 2 (by simp))
  have HC21 := Lib.hid (show u2 4 = .bool true from hG 4 (by simp))
  have HC22 := Lib.hid (show u2 5 = .bool true from hG 5 (by simp))
  have hbel0 := hbel
  clear hJ hG hall hb
  have hx : u2 5 = .bool true := HC22.out
  go_wp2_with fail
  rw [hx]
  clear hx
  go_upto_region 3 with fail
  refine wp_region_turn (fun u => #[v0, v1, v2, undef, undef, undef, u 0, u1 5, u1 7, undef, undef, undef, u1 2, u1 0, u1 1, u1 3, u1 4, u2 0, u2 1, u2 2, u2 3, u2 4, .bool true, undef, undef, undef, undef, undef, undef, undef, undef, undef, undef, undef, undef, undef, undef, undef, undef, undef, undef, undef, undef, undef, undef, undef, undef, undef, undef, undef, undef, undef, undef, undef, undef, undef, undef, undef, undef]) (Holds [.oth (fun v => v = .int .i64 12)] W2) (Keep [.oth (fun v => v = .int .i64 12)] W2) (fun k => ((u0 0 :: []) : List Value).getD k undef) ?_ (by rfl) Keep.start (holds_soft (by kernel_rfl)) ?_ ?_
  · intro u i v h
    rcases i with _ | i
    all_goals first | (simp [Act.put, putV]; done) | (exfalso; simp at h; omega)
  · intro hs
    refine ⟨?_, trivial⟩
    · exact step_pureO hs (wants_none rfl) rfl fun L u W hG hdep => ⟨_, run_assign rfl, rfl⟩
  intro L3 u3 W3 hall hJ hG
  have hb := hJ.all rfl
  have hbel := Below.call hbel hb
  have hm7 := hm7.later hb
  have ht7 := there_later ht7 hb
  have HC6 := Lib.hid (show u3 0 = .int .i64 12 from hG 0 (by simp))
  have hbel0 := hbel
  clear hJ hG hall hb
  go_wp2
  go_ret
  exact ⟨by rw [HC6.out]; rfl, hbel⟩
set_option maxRecDepth 100000 in
set_option maxHeartbeats 1000000 in
theorem ver_len {w : World} {v0 v1 v2 : Value} {pub sig l : List UInt8} {ls : List (List UInt8)} (hp : (IsB pub).P v0 w) (hsg : (IsB sig).P v1 w) (h1 : (IsR ls).P v2 w) (hl : ls.flatten = l) (hm : l.length ≤ 100000) {A : EP} (ka : decV pub = A) (kc : decC pub = 0) (km : decide (Cp.mul 8 A = Cp.zero) = false) {N : Nat} (kn : sig.length = N) (kx : (!((N : Int) == 64)) = true) :
    Calls Try.prog 12 #[v0, v1, v2] w fun e w' => e = .returned (.int .i64 3) ∧ Below w.heap.size w w' := by
  have _u2 := h1; have _u3 := hl; have _u4 := hm
  clear _u2 _u3 _u4 h1 hl hm
  have KA := Lib.hid ka; clear ka
  have KC := Lib.hid kc; clear kc
  have KM := Lib.hid km; clear km
  have KN := Lib.hid kn; clear kn
  have KX := Lib.hid kx; clear kx
  go_enter Try.func12, Try.ntmps12
  have hbel : Below w.heap.size w w := Below.refl _ _
  have hbel0 := hbel
  go_upto_region 0 with fail
  refine wp_region_turn (fun u => #[v0, v1, v2, undef, undef, undef, u 0, undef, undef, undef, undef, undef, undef, undef, undef, undef, undef, undef, undef, undef, undef, undef, undef, undef, undef, undef, undef, undef, undef, undef, undef, undef, undef, undef, undef, undef, undef, undef, undef, undef, undef, undef, undef, undef, undef, undef, undef, undef, undef, undef, undef, undef, undef, undef, undef, undef, undef, undef, undef]) (Holds [.oth (fun v => v = .int .i64 0)] w) (Keep [.oth (fun v => v = .int .i64 0)] w) (fun _ => undef) ?_ (by rfl) Keep.start (holds_soft (by kernel_rfl)) ?_ ?_
  · intro u i v h
    rcases i with _ | i
    all_goals first | (simp [Act.put, putV]; done) | (exfalso; simp at h; omega)
  · intro hs
    refine ⟨?_, trivial⟩
    · exact step_pureO hs (wants_none rfl) rfl fun L u W hG hdep => ⟨_, run_assign rfl, rfl⟩
  intro L0 u0 W0 hall hJ hG
  have hb := hJ.all rfl
  have hbel := Below.call hbel hb
  have HC6 := Lib.hid (show u0 0 = .int .i64 0 from hG 0 (by simp))
  have hbel0 := hbel
  clear hJ hG hall hb
  go_upto_region 1 with fail
  refine wp_region_turn (fun u => #[v0, v1, v2, undef, undef, undef, u0 0, u 5, u 7, undef, undef, undef, u 2, u 0, u 1, u 3, u 4, undef, undef, undef, undef, undef, undef, undef, undef, undef, undef, undef, undef, undef, undef, undef, undef, undef, undef, undef, undef, undef, undef, undef, undef, undef, undef, undef, undef, undef, undef, undef, undef, undef, undef, undef, undef, undef, undef, undef, undef, undef, undef]) (Holds [.wld (IsB pub) (some 1), .oth (fun v => IsTV rP v [A] (.int .i64 0)), .oth (fun v => IsTV rP v [A] (.int .i64 0)), .val rP [A], .oth (fun v => v = .int .i64 0), .new 20, .st 5 rP [A], .oth (fun v => v = .int .i64 0)] W0) (Keep [.wld (IsB pub) (some 1), .oth (fun v => IsTV rP v [A] (.int .i64 0)), .oth (fun v => IsTV rP v [A] (.int .i64 0)), .val rP [A], .oth (fun v => v = .int .i64 0), .new 20, .st 5 rP [A], .oth (fun v => v = .int .i64 0)] W0) (fun _ => undef) ?_ (by rfl) Keep.start (holds_soft (by kernel_rfl)) ?_ ?_
  · intro u i v h
    rcases i with _ | _ | _ | _ | _ | _ | _ | _ | i
    all_goals first | (simp [Act.put, putV]; done) | (exfalso; simp at h; omega)
  · intro hs
    refine ⟨?_, ?_, ?_, ?_, ?_, ?_, ?_, ?_, trivial⟩
    · exact step_runP hs (wants_none rfl) rfl fun L u W hJ hG hL hdep => run_moveP (.inl rfl) ((IsB pub).st _ _ _ hp (Below.call hbel (hJ.all rfl)))
    · refine step_callO hs (wants_none rfl) rfl fun L u W hJ hG hL hdep K hK => ?_
      go_simp
      go_at_call 21
      (with_reducible refine (gDecode KA.out KC.out (holds_wld (φ := IsB pub) (hG 0 (hdep 0 (by kernel_rfl))) rfl (till_some hL))).mono ?_); rintro e w1 ⟨r, rfl, hr, hb⟩
      have hk := hK.out _ _ ⟨r, rfl, hr⟩ hb
      exact hk
    · exact step_pureO hs (wants_none rfl) rfl fun L u W hG hdep => ⟨_, run_move rfl, (show IsTV rP (u 1) [A] (.int .i64 0) from hG 1 (hdep 1 (by kernel_rfl)))⟩
    · exact step_pure hs (wants_none rfl) rfl fun L u W hG hdep => run_extractV0 rfl (show IsTV rP (u 2) [A] (.int .i64 0) from hG 2 (hdep 2 (by kernel_rfl)))
    · exact step_pureO hs (wants_none rfl) rfl fun L u W hG hdep => run_extractV1 rfl (show IsTV rP (u 2) [A] (.int .i64 0) from hG 2 (hdep 2 (by kernel_rfl)))
    · exact step_alloc hs (wants_none rfl) rfl rfl (by omega) rfl allocP
    · exact step_store 5 hs (by kernel_rfl) (wants_none rfl) rfl rfl rfl (by kernel_rfl) (by kernel_rfl) (by kernel_rfl) (by kernel_rfl) (fun _ => rfl) (gives_op 3 rfl (by kernel_rfl) (fun _ => rfl)) tyP rfl
    · exact step_pureO hs (wants_none rfl) rfl fun L u W hG hdep => ⟨_, run_assign rfl, (show u 4 = .int .i64 0 from hG 4 (hdep 4 (by kernel_rfl)))⟩
  intro L1 u1 W1 hall hJ hG
  obtain ⟨q7, e7, hq7, _, ht7⟩ := (show ∃ g, u1 5 = .pointer (some ⟨g, 0, none⟩) ∧ W0.heap.size ≤ g ∧ 0 < 20 ∧ W1.there g 0 20 from hG 5 (by simp))
  have hm7 : HasFs rP W1 q7 0 [A] := by
    obtain ⟨g, e, _, h⟩ := (show ∃ g, u1 5 = .pointer (some ⟨g, 0, none⟩) ∧ W0.heap.size ≤ g ∧ HasFs rP W1 g 0 [A] from hG 6 (by simp))
    rw [e7] at e; cases e; exact h
  have hq7 : w.heap.size ≤ q7 := by have := hbel0.size; omega
  have E7 := Lib.hid e7; clear e7
  have hb := hJ.all rfl
  have hbel := Below.call hbel hb
  have HC8 := Lib.hid (show u1 7 = .int .i64 0 from hG 7 (by simp))
  have hbel0 := hbel
  clear hJ hG hall hb
  go_upto_region 2 with fail
  refine wp_region_turn (fun u => #[v0, v1, v2, undef, undef, undef, u0 0, u1 5, u1 7, undef, undef, undef, u1 2, u1 0, u1 1, u1 3, u1 4, u 0, u 1, u 2, u 3, u 4, u 5, undef, undef, undef, undef, undef, undef, undef, undef, undef, undef, undef, undef, undef, undef, undef, undef, undef, undef, undef, undef, undef, undef, undef, undef, undef, undef, undef, undef, undef, undef, undef, undef, undef, undef, undef, undef]) (Holds [.oth (fun v => v = .int .i64 0), .oth (fun v => v = .bool false), .oth (fun v => v = .bool false), .val rP [A], .oth (fun v => v = .bool false), .oth (fun v => v = .bool false)] W1) (Keep [.oth (fun v => v = .int .i64 0), .oth (fun v => v = .bool false), .oth (fun v => v = .bool false), .val rP [A], .oth (fun v => v = .bool false), .oth (fun v => v = .bool false)] W1) (fun _ => undef) ?_ (by rfl) Keep.start (holds_soft (by kernel_rfl)) ?_ ?_
  · intro u i v h
    rcases i with _ | _ | _ | _ | _ | _ | i
    all_goals first | (simp [Act.put, putV]; done) | (exfalso; simp at h; omega)
  · intro hs
    refine ⟨?_, ?_, ?_, ?_, ?_, ?_, trivial⟩
    · exact step_pureO hs (wants_none rfl) rfl fun L u W hG hdep => ⟨_, run_move rfl, HC8.out⟩
    · refine step_pureO hs (wants_none rfl) rfl fun L u W hG hdep => ⟨_, ?_, rfl⟩
      have e0 := (show u 0 = .int .i64 0 from hG 0 (hdep 0 (by kernel_rfl)))
      go_simp
      try simp [bne]
    · exact step_pureO hs (wants_none rfl) rfl fun L u W hG hdep => ⟨_, run_move rfl, (show u 1 = .bool false from hG 1 (hdep 1 (by kernel_rfl)))⟩
    · exact step_load q7 0 hs (wants_on 2 rfl rfl (by kernel_rfl) (fun _ => rfl)) rfl rfl tyP (fun _ => E7.out) hm7.lt hm7 (noSto_apart (by kernel_rfl))
    · refine step_callO hs (wants_on 2 rfl rfl (by kernel_rfl) (fun _ => rfl)) rfl fun L u W hJ hG hL hdep K hK => ?_
      have a0 := (show IsFs rP (u 3) [A] from hG 3 (hdep 3 (by kernel_rfl)))
      go_simp
      go_at_call 22
      (with_reducible refine (cPSmall (b := false) (KM.out) a0 _).mono ?_); rintro e w1 ⟨rfl, hb⟩
      have hk := hK.out _ _ rfl hb
      exact hk
    · exact step_pick false hs (wants_none rfl) rfl rfl (fun L u W hG hdep => (show u 2 = .bool false from hG 2 (hdep 2 (by kernel_rfl)))) (fun L u W hG hdep => (show u 4 = .bool false from hG 4 (hdep 4 (by kernel_rfl))))
  intro L2 u2 W2 hall hJ hG
  have hb := hJ.all rfl
  have hbel := Below.call hbel hb
  have hm7 := hm7.later hb
  have ht7 := there_later ht7 hb
  have HC18 := Lib.hid (show u2 1 = .bool false from hG 1 (by simp))
  have HC19 := Lib.hid (show u2 2 = .bool false from hG 2 (by simp))
  have HC21 := Lib.hid (show u2 4 = .bool false from hG 4 (by simp))
  have HC22 := Lib.hid (show u2 5 = .bool false from hG 5 (by simp))
  have hbel0 := hbel
  clear hJ hG hall hb
  have hx : u2 5 = .bool false := HC22.out
  go_wp2_with fail
  rw [hx]
  clear hx
  go_upto_region 4 with fail
  refine wp_region_turn (fun u => #[v0, v1, v2, undef, undef, undef, u0 0, u1 5, u1 7, undef, undef, undef, u1 2, u1 0, u1 1, u1 3, u1 4, u2 0, u2 1, u2 2, u2 3, u2 4, .bool false, u 0, u 1, u 2, undef, undef, undef, undef, undef, undef, undef, undef, undef, undef, undef, undef, undef, undef, undef, undef, undef, undef, undef, undef, undef, undef, undef, undef, undef, undef, undef, undef, undef, undef, undef, undef, undef]) (Holds [.wld (IsB sig) none, .oth (fun v => v = .int .i64 (N : Int)), .oth (fun v => v = .bool true)] W2) (Keep [.wld (IsB sig) none, .oth (fun v => v = .int .i64 (N : Int)), .oth (fun v => v = .bool true)] W2) (fun _ => undef) ?_ (by rfl) Keep.start (holds_soft (by kernel_rfl)) ?_ ?_
  · intro u i v h
    rcases i with _ | _ | _ | i
    all_goals first | (simp [Act.put, putV]; done) | (exfalso; simp at h; omega)
  · intro hs
    refine ⟨?_, ?_, ?_, trivial⟩
    · exact step_runP hs (wants_none rfl) rfl fun L u W hJ hG hL hdep => run_moveP (.inl rfl) ((IsB sig).st _ _ _ hsg (Below.call hbel (hJ.all rfl)))
    · exact step_runO hs (wants_none rfl) rfl fun L u W hJ hG hL hdep => run_lenP rfl (holds_wld (φ := IsB sig) (hG 0 (hdep 0 (by kernel_rfl))) rfl till_none) (by rw [KN.out])
    · refine step_pureO hs (wants_none rfl) rfl fun L u W hG hdep => ⟨_, ?_, rfl⟩
      have e0 := (show u 1 = .int .i64 (N : Int) from hG 1 (hdep 1 (by kernel_rfl)))
      have e9 := KX.out
      go_simp
      try exact e9
      try simpa using e9
  intro L4 u4 W4 hall hJ hG
  have hb := hJ.all rfl
  have hbel := Below.call hbel hb
  have hm7 := hm7.later hb
  have ht7 := there_later ht7 hb
  have HC25 := Lib.hid (show u4 2 = .bool true from hG 2 (by simp))
  have hbel0 := hbel
  clear hJ hG hall hb
  have hx : u4 2 = .bool true := HC25.out
  go_wp2_with fail
  rw [hx]
  clear hx
  go_upto_region 5 with fail
  refine wp_region_turn (fun u => #[v0, v1, v2, undef, undef, undef, u 0, u1 5, u1 7, undef, undef, undef, u1 2, u1 0, u1 1, u1 3, u1 4, u2 0, u2 1, u2 2, u2 3, u2 4, .bool false, u4 0, u4 1, .bool true, undef, undef, undef, undef, undef, undef, undef, undef, undef, undef, undef, undef, undef, undef, undef, undef, undef, undef, undef, undef, undef, undef, undef, undef, undef, undef, undef, undef, undef, undef, undef, undef, undef]) (Holds [.oth (fun v => v = .int .i64 3)] W4) (Keep [.oth (fun v => v = .int .i64 3)] W4) (fun k => ((u0 0 :: []) : List Value).getD k undef) ?_ (by rfl) Keep.start (holds_soft (by kernel_rfl)) ?_ ?_
  · intro u i v h
    rcases i with _ | i
    all_goals first | (simp [Act.put, putV]; done) | (exfalso; simp at h; omega)
  · intro hs
    refine ⟨?_, trivial⟩
    · exact step_pureO hs (wants_none rfl) rfl fun L u W hG hdep => ⟨_, run_assign rfl, rfl⟩
  intro L5 u5 W5 hall hJ hG
  have hb := hJ.all rfl
  have hbel := Below.call hbel hb
  have hm7 := hm7.later hb
  have ht7 := there_later ht7 hb
  have HC6 := Lib.hid (show u5 0 = .int .i64 3 from hG 0 (by simp))
  have hbel0 := hbel
  clear hJ hG hall hb
  go_wp2
  go_ret
  exact ⟨by rw [HC6.out]; rfl, hbel⟩
set_option maxRecDepth 100000 in
set_option maxHeartbeats 1000000 in
theorem ver_R {w : World} {v0 v1 v2 : Value} {pub sig l : List UInt8} {ls : List (List UInt8)} (hp : (IsB pub).P v0 w) (hsg : (IsB sig).P v1 w) (h1 : (IsR ls).P v2 w) (hl : ls.flatten = l) (hm : l.length ≤ 100000) {A : EP} (ka : decV pub = A) (kc : decC pub = 0) (km : decide (Cp.mul 8 A = Cp.zero) = false) (kn : sig.length = 64) {Rp : EP} (kr : decV (sig.take 32) = Rp) (krc : decC (sig.take 32) = 12) :
    Calls Try.prog 12 #[v0, v1, v2] w fun e w' => e = .returned (.int .i64 3) ∧ Below w.heap.size w w' := by
  have _u2 := h1; have _u3 := hl; have _u4 := hm
  clear _u2 _u3 _u4 h1 hl hm
  have KA := Lib.hid ka; clear ka
  have KC := Lib.hid kc; clear kc
  have KM := Lib.hid km; clear km
  have KN := Lib.hid kn; clear kn
  have KR := Lib.hid kr; clear kr
  have KRC := Lib.hid krc; clear krc
  go_enter Try.func12, Try.ntmps12
  have hbel : Below w.heap.size w w := Below.refl _ _
  have hbel0 := hbel
  go_upto_region 0 with fail
  refine wp_region_turn (fun u => #[v0, v1, v2, undef, undef, undef, u 0, undef, undef, undef, undef, undef, undef, undef, undef, undef, undef, undef, undef, undef, undef, undef, undef, undef, undef, undef, undef, undef, undef, undef, undef, undef, undef, undef, undef, undef, undef, undef, undef, undef, undef, undef, undef, undef, undef, undef, undef, undef, undef, undef, undef, undef, undef, undef, undef, undef, undef, undef, undef]) (Holds [.oth (fun v => v = .int .i64 0)] w) (Keep [.oth (fun v => v = .int .i64 0)] w) (fun _ => undef) ?_ (by rfl) Keep.start (holds_soft (by kernel_rfl)) ?_ ?_
  · intro u i v h
    rcases i with _ | i
    all_goals first | (simp [Act.put, putV]; done) | (exfalso; simp at h; omega)
  · intro hs
    refine ⟨?_, trivial⟩
    · exact step_pureO hs (wants_none rfl) rfl fun L u W hG hdep => ⟨_, run_assign rfl, rfl⟩
  intro L0 u0 W0 hall hJ hG
  have hb := hJ.all rfl
  have hbel := Below.call hbel hb
  have HC6 := Lib.hid (show u0 0 = .int .i64 0 from hG 0 (by simp))
  have hbel0 := hbel
  clear hJ hG hall hb
  go_upto_region 1 with fail
  refine wp_region_turn (fun u => #[v0, v1, v2, undef, undef, undef, u0 0, u 5, u 7, undef, undef, undef, u 2, u 0, u 1, u 3, u 4, undef, undef, undef, undef, undef, undef, undef, undef, undef, undef, undef, undef, undef, undef, undef, undef, undef, undef, undef, undef, undef, undef, undef, undef, undef, undef, undef, undef, undef, undef, undef, undef, undef, undef, undef, undef, undef, undef, undef, undef, undef, undef]) (Holds [.wld (IsB pub) (some 1), .oth (fun v => IsTV rP v [A] (.int .i64 0)), .oth (fun v => IsTV rP v [A] (.int .i64 0)), .val rP [A], .oth (fun v => v = .int .i64 0), .new 20, .st 5 rP [A], .oth (fun v => v = .int .i64 0)] W0) (Keep [.wld (IsB pub) (some 1), .oth (fun v => IsTV rP v [A] (.int .i64 0)), .oth (fun v => IsTV rP v [A] (.int .i64 0)), .val rP [A], .oth (fun v => v = .int .i64 0), .new 20, .st 5 rP [A], .oth (fun v => v = .int .i64 0)] W0) (fun _ => undef) ?_ (by rfl) Keep.start (holds_soft (by kernel_rfl)) ?_ ?_
  · intro u i v h
    rcases i with _ | _ | _ | _ | _ | _ | _ | _ | i
    all_goals first | (simp [Act.put, putV]; done) | (exfalso; simp at h; omega)
  · intro hs
    refine ⟨?_, ?_, ?_, ?_, ?_, ?_, ?_, ?_, trivial⟩
    · exact step_runP hs (wants_none rfl) rfl fun L u W hJ hG hL hdep => run_moveP (.inl rfl) ((IsB pub).st _ _ _ hp (Below.call hbel (hJ.all rfl)))
    · refine step_callO hs (wants_none rfl) rfl fun L u W hJ hG hL hdep K hK => ?_
      go_simp
      go_at_call 21
      (with_reducible refine (gDecode KA.out KC.out (holds_wld (φ := IsB pub) (hG 0 (hdep 0 (by kernel_rfl))) rfl (till_some hL))).mono ?_); rintro e w1 ⟨r, rfl, hr, hb⟩
      have hk := hK.out _ _ ⟨r, rfl, hr⟩ hb
      exact hk
    · exact step_pureO hs (wants_none rfl) rfl fun L u W hG hdep => ⟨_, run_move rfl, (show IsTV rP (u 1) [A] (.int .i64 0) from hG 1 (hdep 1 (by kernel_rfl)))⟩
    · exact step_pure hs (wants_none rfl) rfl fun L u W hG hdep => run_extractV0 rfl (show IsTV rP (u 2) [A] (.int .i64 0) from hG 2 (hdep 2 (by kernel_rfl)))
    · exact step_pureO hs (wants_none rfl) rfl fun L u W hG hdep => run_extractV1 rfl (show IsTV rP (u 2) [A] (.int .i64 0) from hG 2 (hdep 2 (by kernel_rfl)))
    · exact step_alloc hs (wants_none rfl) rfl rfl (by omega) rfl allocP
    · exact step_store 5 hs (by kernel_rfl) (wants_none rfl) rfl rfl rfl (by kernel_rfl) (by kernel_rfl) (by kernel_rfl) (by kernel_rfl) (fun _ => rfl) (gives_op 3 rfl (by kernel_rfl) (fun _ => rfl)) tyP rfl
    · exact step_pureO hs (wants_none rfl) rfl fun L u W hG hdep => ⟨_, run_assign rfl, (show u 4 = .int .i64 0 from hG 4 (hdep 4 (by kernel_rfl)))⟩
  intro L1 u1 W1 hall hJ hG
  obtain ⟨q7, e7, hq7, _, ht7⟩ := (show ∃ g, u1 5 = .pointer (some ⟨g, 0, none⟩) ∧ W0.heap.size ≤ g ∧ 0 < 20 ∧ W1.there g 0 20 from hG 5 (by simp))
  have hm7 : HasFs rP W1 q7 0 [A] := by
    obtain ⟨g, e, _, h⟩ := (show ∃ g, u1 5 = .pointer (some ⟨g, 0, none⟩) ∧ W0.heap.size ≤ g ∧ HasFs rP W1 g 0 [A] from hG 6 (by simp))
    rw [e7] at e; cases e; exact h
  have hq7 : w.heap.size ≤ q7 := by have := hbel0.size; omega
  have E7 := Lib.hid e7; clear e7
  have hb := hJ.all rfl
  have hbel := Below.call hbel hb
  have HC8 := Lib.hid (show u1 7 = .int .i64 0 from hG 7 (by simp))
  have hbel0 := hbel
  clear hJ hG hall hb
  go_upto_region 2 with fail
  refine wp_region_turn (fun u => #[v0, v1, v2, undef, undef, undef, u0 0, u1 5, u1 7, undef, undef, undef, u1 2, u1 0, u1 1, u1 3, u1 4, u 0, u 1, u 2, u 3, u 4, u 5, undef, undef, undef, undef, undef, undef, undef, undef, undef, undef, undef, undef, undef, undef, undef, undef, undef, undef, undef, undef, undef, undef, undef, undef, undef, undef, undef, undef, undef, undef, undef, undef, undef, undef, undef, undef]) (Holds [.oth (fun v => v = .int .i64 0), .oth (fun v => v = .bool false), .oth (fun v => v = .bool false), .val rP [A], .oth (fun v => v = .bool false), .oth (fun v => v = .bool false)] W1) (Keep [.oth (fun v => v = .int .i64 0), .oth (fun v => v = .bool false), .oth (fun v => v = .bool false), .val rP [A], .oth (fun v => v = .bool false), .oth (fun v => v = .bool false)] W1) (fun _ => undef) ?_ (by rfl) Keep.start (holds_soft (by kernel_rfl)) ?_ ?_
  · intro u i v h
    rcases i with _ | _ | _ | _ | _ | _ | i
    all_goals first | (simp [Act.put, putV]; done) | (exfalso; simp at h; omega)
  · intro hs
    refine ⟨?_, ?_, ?_, ?_, ?_, ?_, trivial⟩
    · exact step_pureO hs (wants_none rfl) rfl fun L u W hG hdep => ⟨_, run_move rfl, HC8.out⟩
    · refine step_pureO hs (wants_none rfl) rfl fun L u W hG hdep => ⟨_, ?_, rfl⟩
      have e0 := (show u 0 = .int .i64 0 from hG 0 (hdep 0 (by kernel_rfl)))
      go_simp
      try simp [bne]
    · exact step_pureO hs (wants_none rfl) rfl fun L u W hG hdep => ⟨_, run_move rfl, (show u 1 = .bool false from hG 1 (hdep 1 (by kernel_rfl)))⟩
    · exact step_load q7 0 hs (wants_on 2 rfl rfl (by kernel_rfl) (fun _ => rfl)) rfl rfl tyP (fun _ => E7.out) hm7.lt hm7 (noSto_apart (by kernel_rfl))
    · refine step_callO hs (wants_on 2 rfl rfl (by kernel_rfl) (fun _ => rfl)) rfl fun L u W hJ hG hL hdep K hK => ?_
      have a0 := (show IsFs rP (u 3) [A] from hG 3 (hdep 3 (by kernel_rfl)))
      go_simp
      go_at_call 22
      (with_reducible refine (cPSmall (b := false) (KM.out) a0 _).mono ?_); rintro e w1 ⟨rfl, hb⟩
      have hk := hK.out _ _ rfl hb
      exact hk
    · exact step_pick false hs (wants_none rfl) rfl rfl (fun L u W hG hdep => (show u 2 = .bool false from hG 2 (hdep 2 (by kernel_rfl)))) (fun L u W hG hdep => (show u 4 = .bool false from hG 4 (hdep 4 (by kernel_rfl))))
  intro L2 u2 W2 hall hJ hG
  have hb := hJ.all rfl
  have hbel := Below.call hbel hb
  have hm7 := hm7.later hb
  have ht7 := there_later ht7 hb
  have HC18 := Lib.hid (show u2 1 = .bool false from hG 1 (by simp))
  have HC19 := Lib.hid (show u2 2 = .bool false from hG 2 (by simp))
  have HC21 := Lib.hid (show u2 4 = .bool false from hG 4 (by simp))
  have HC22 := Lib.hid (show u2 5 = .bool false from hG 5 (by simp))
  have hbel0 := hbel
  clear hJ hG hall hb
  have hx : u2 5 = .bool false := HC22.out
  go_wp2_with fail
  rw [hx]
  clear hx
  go_upto_region 4 with fail
  refine wp_region_turn (fun u => #[v0, v1, v2, undef, undef, undef, u0 0, u1 5, u1 7, undef, undef, undef, u1 2, u1 0, u1 1, u1 3, u1 4, u2 0, u2 1, u2 2, u2 3, u2 4, .bool false, u 0, u 1, u 2, undef, undef, undef, undef, undef, undef, undef, undef, undef, undef, undef, undef, undef, undef, undef, undef, undef, undef, undef, undef, undef, undef, undef, undef, undef, undef, undef, undef, undef, undef, undef, undef, undef]) (Holds [.wld (IsB sig) none, .oth (fun v => v = .int .i64 64), .oth (fun v => v = .bool false)] W2) (Keep [.wld (IsB sig) none, .oth (fun v => v = .int .i64 64), .oth (fun v => v = .bool false)] W2) (fun _ => undef) ?_ (by rfl) Keep.start (holds_soft (by kernel_rfl)) ?_ ?_
  · intro u i v h
    rcases i with _ | _ | _ | i
    all_goals first | (simp [Act.put, putV]; done) | (exfalso; simp at h; omega)
  · intro hs
    refine ⟨?_, ?_, ?_, trivial⟩
    · exact step_runP hs (wants_none rfl) rfl fun L u W hJ hG hL hdep => run_moveP (.inl rfl) ((IsB sig).st _ _ _ hsg (Below.call hbel (hJ.all rfl)))
    · exact step_runO hs (wants_none rfl) rfl fun L u W hJ hG hL hdep => run_lenP rfl (holds_wld (φ := IsB sig) (hG 0 (hdep 0 (by kernel_rfl))) rfl till_none) (by rw [KN.out]; rfl)
    · refine step_pureO hs (wants_none rfl) rfl fun L u W hG hdep => ⟨_, ?_, rfl⟩
      have e0 := (show u 1 = .int .i64 64 from hG 1 (hdep 1 (by kernel_rfl)))
      go_simp
      try simp [bne]
  intro L4 u4 W4 hall hJ hG
  have hb := hJ.all rfl
  have hbel := Below.call hbel hb
  have hm7 := hm7.later hb
  have ht7 := there_later ht7 hb
  have HC25 := Lib.hid (show u4 2 = .bool false from hG 2 (by simp))
  have hbel0 := hbel
  clear hJ hG hall hb
  have hx : u4 2 = .bool false := HC25.out
  go_wp2_with fail
  rw [hx]
  clear hx
  go_upto_region 6 with fail
  refine wp_region_turn (fun u => #[v0, v1, v2, undef, undef, undef, u0 0, u1 5, u 8, u 6, undef, undef, u1 2, u1 0, u1 1, u1 3, u1 4, u2 0, u2 1, u2 2, u2 3, u2 4, .bool false, u4 0, u4 1, .bool false, u 3, u 0, u 1, u 2, u 4, u 5, undef, undef, undef, undef, undef, undef, undef, undef, undef, undef, undef, undef, undef, undef, undef, undef, undef, undef, undef, undef, undef, undef, undef, undef, undef, undef, undef]) (Holds [.wld (IsB sig) (some 1), .wld (IsB (sig.take 32)) (some 2), .oth (fun v => IsTV rP v [Rp] (.int .i64 12)), .oth (fun v => IsTV rP v [Rp] (.int .i64 12)), .val rP [Rp], .oth (fun v => v = .int .i64 12), .new 20, .st 6 rP [Rp], .oth (fun v => v = .int .i64 12)] W4) (Keep [.wld (IsB sig) (some 1), .wld (IsB (sig.take 32)) (some 2), .oth (fun v => IsTV rP v [Rp] (.int .i64 12)), .oth (fun v => IsTV rP v [Rp] (.int .i64 12)), .val rP [Rp], .oth (fun v => v = .int .i64 12), .new 20, .st 6 rP [Rp], .oth (fun v => v = .int .i64 12)] W4) (fun k => ((undef :: undef :: undef :: undef :: undef :: undef :: undef :: undef :: u1 7 :: []) : List Value).getD k undef) ?_ (by rfl) Keep.start (holds_soft (by kernel_rfl)) ?_ ?_
  · intro u i v h
    rcases i with _ | _ | _ | _ | _ | _ | _ | _ | _ | i
    all_goals first | (simp [Act.put, putV]; done) | (exfalso; simp at h; omega)
  · intro hs
    refine ⟨?_, ?_, ?_, ?_, ?_, ?_, ?_, ?_, ?_, trivial⟩
    · exact step_runP hs (wants_none rfl) rfl fun L u W hJ hG hL hdep => run_moveP (.inl rfl) ((IsB sig).st _ _ _ hsg (Below.call hbel (hJ.all rfl)))
    · exact step_runP hs (wants_none rfl) rfl fun L u W hJ hG hL hdep => run_toP (k := 32) rfl rfl (holds_wld (φ := IsB sig) (hG 0 (hdep 0 (by kernel_rfl))) rfl (till_some hL)) (by rw [KN.out]; omega)
    · refine step_callO hs (wants_none rfl) rfl fun L u W hJ hG hL hdep K hK => ?_
      go_simp
      go_at_call 21
      (with_reducible refine (gDecode KR.out KRC.out (holds_wld (φ := IsB (sig.take 32)) (hG 1 (hdep 1 (by kernel_rfl))) rfl (till_some hL))).mono ?_); rintro e w1 ⟨r, rfl, hr, hb⟩
      have hk := hK.out _ _ ⟨r, rfl, hr⟩ hb
      exact hk
    · exact step_pureO hs (wants_none rfl) rfl fun L u W hG hdep => ⟨_, run_move rfl, (show IsTV rP (u 2) [Rp] (.int .i64 12) from hG 2 (hdep 2 (by kernel_rfl)))⟩
    · exact step_pure hs (wants_none rfl) rfl fun L u W hG hdep => run_extractV0 rfl (show IsTV rP (u 3) [Rp] (.int .i64 12) from hG 3 (hdep 3 (by kernel_rfl)))
    · exact step_pureO hs (wants_none rfl) rfl fun L u W hG hdep => run_extractV1 rfl (show IsTV rP (u 3) [Rp] (.int .i64 12) from hG 3 (hdep 3 (by kernel_rfl)))
    · exact step_alloc hs (wants_none rfl) rfl rfl (by omega) rfl allocP
    · exact step_store 6 hs (by kernel_rfl) (wants_none rfl) rfl rfl rfl (by kernel_rfl) (by kernel_rfl) (by kernel_rfl) (by kernel_rfl) (fun _ => rfl) (gives_op 4 rfl (by kernel_rfl) (fun _ => rfl)) tyP rfl
    · exact step_pureO hs (wants_none rfl) rfl fun L u W hG hdep => ⟨_, run_assign rfl, (show u 5 = .int .i64 12 from hG 5 (hdep 5 (by kernel_rfl)))⟩
  intro L6 u6 W6 hall hJ hG
  obtain ⟨q9, e9, hq9, _, ht9⟩ := (show ∃ g, u6 6 = .pointer (some ⟨g, 0, none⟩) ∧ W4.heap.size ≤ g ∧ 0 < 20 ∧ W6.there g 0 20 from hG 6 (by simp))
  have hm9 : HasFs rP W6 q9 0 [Rp] := by
    obtain ⟨g, e, _, h⟩ := (show ∃ g, u6 6 = .pointer (some ⟨g, 0, none⟩) ∧ W4.heap.size ≤ g ∧ HasFs rP W6 g 0 [Rp] from hG 7 (by simp))
    rw [e9] at e; cases e; exact h
  have HD9_q7 := Lib.hid (show q7 ≠ q9 by have := there_lt ht7 (by omega); omega)
  have hq9 : w.heap.size ≤ q9 := by have := hbel0.size; omega
  have E9 := Lib.hid e9; clear e9
  have hb := hJ.all rfl
  have hbel := Below.call hbel hb
  have hm7 := hm7.later hb
  have ht7 := there_later ht7 hb
  have HC8 := Lib.hid (show u6 8 = .int .i64 12 from hG 8 (by simp))
  have hbel0 := hbel
  clear hJ hG hall hb
  go_upto_region 7 with fail
  refine wp_region_turn (fun u => #[v0, v1, v2, undef, undef, undef, u0 0, u1 5, u6 8, u6 6, undef, undef, u1 2, u1 0, u1 1, u1 3, u1 4, u2 0, u2 1, u2 2, u2 3, u2 4, .bool false, u4 0, u4 1, .bool false, u6 3, u6 0, u6 1, u6 2, u6 4, u6 5, u 0, u 1, undef, undef, undef, undef, undef, undef, undef, undef, undef, undef, undef, undef, undef, undef, undef, undef, undef, undef, undef, undef, undef, undef, undef, undef, undef]) (Holds [.oth (fun v => v = .int .i64 12), .oth (fun v => v = .bool true)] W6) (Keep [.oth (fun v => v = .int .i64 12), .oth (fun v => v = .bool true)] W6) (fun _ => undef) ?_ (by rfl) Keep.start (holds_soft (by kernel_rfl)) ?_ ?_
  · intro u i v h
    rcases i with _ | _ | i
    all_goals first | (simp [Act.put, putV]; done) | (exfalso; simp at h; omega)
  · intro hs
    refine ⟨?_, ?_, trivial⟩
    · exact step_pureO hs (wants_none rfl) rfl fun L u W hG hdep => ⟨_, run_move rfl, HC8.out⟩
    · refine step_pureO hs (wants_none rfl) rfl fun L u W hG hdep => ⟨_, ?_, rfl⟩
      have e0 := (show u 0 = .int .i64 12 from hG 0 (hdep 0 (by kernel_rfl)))
      go_simp
      try simp [bne]
  intro L7 u7 W7 hall hJ hG
  have hb := hJ.all rfl
  have hbel := Below.call hbel hb
  have hm7 := hm7.later hb
  have hm9 := hm9.later hb
  have ht7 := there_later ht7 hb
  have ht9 := there_later ht9 hb
  have HC33 := Lib.hid (show u7 1 = .bool true from hG 1 (by simp))
  have hbel0 := hbel
  clear hJ hG hall hb
  have hx : u7 1 = .bool true := HC33.out
  go_wp2_with fail
  rw [hx]
  clear hx
  go_upto_region 8 with fail
  refine wp_region_turn (fun u => #[v0, v1, v2, undef, undef, undef, u 0, u1 5, u6 8, u6 6, undef, undef, u1 2, u1 0, u1 1, u1 3, u1 4, u2 0, u2 1, u2 2, u2 3, u2 4, .bool false, u4 0, u4 1, .bool false, u6 3, u6 0, u6 1, u6 2, u6 4, u6 5, u7 0, .bool true, undef, undef, undef, undef, undef, undef, undef, undef, undef, undef, undef, undef, undef, undef, undef, undef, undef, undef, undef, undef, undef, undef, undef, undef, undef]) (Holds [.oth (fun v => v = .int .i64 3)] W7) (Keep [.oth (fun v => v = .int .i64 3)] W7) (fun k => ((u0 0 :: []) : List Value).getD k undef) ?_ (by rfl) Keep.start (holds_soft (by kernel_rfl)) ?_ ?_
  · intro u i v h
    rcases i with _ | i
    all_goals first | (simp [Act.put, putV]; done) | (exfalso; simp at h; omega)
  · intro hs
    refine ⟨?_, trivial⟩
    · exact step_pureO hs (wants_none rfl) rfl fun L u W hG hdep => ⟨_, run_assign rfl, rfl⟩
  intro L8 u8 W8 hall hJ hG
  have hb := hJ.all rfl
  have hbel := Below.call hbel hb
  have hm7 := hm7.later hb
  have hm9 := hm9.later hb
  have ht7 := there_later ht7 hb
  have ht9 := there_later ht9 hb
  have HC6 := Lib.hid (show u8 0 = .int .i64 3 from hG 0 (by simp))
  have hbel0 := hbel
  clear hJ hG hall hb
  go_wp2
  go_ret
  exact ⟨by rw [HC6.out]; rfl, hbel⟩
set_option maxRecDepth 100000 in
set_option maxHeartbeats 1000000 in
theorem ver_S {w : World} {v0 v1 v2 : Value} {pub sig l : List UInt8} {ls : List (List UInt8)} (hp : (IsB pub).P v0 w) (hsg : (IsB sig).P v1 w) (h1 : (IsR ls).P v2 w) (hl : ls.flatten = l) (hm : l.length ≤ 100000) {A : EP} (ka : decV pub = A) (kc : decC pub = 0) (km : decide (Cp.mul 8 A = Cp.zero) = false) (kn : sig.length = 64) {Rp : EP} (kr : decV (sig.take 32) = Rp) (krc : decC (sig.take 32) = 0) {s : F} (ks : ssV (sig.drop 32) = s) (ksc : ssC (sig.drop 32) = 2) :
    Calls Try.prog 12 #[v0, v1, v2] w fun e w' => e = .returned (.int .i64 3) ∧ Below w.heap.size w w' := by
  have _u2 := h1; have _u3 := hl; have _u4 := hm
  clear _u2 _u3 _u4 h1 hl hm
  have KA := Lib.hid ka; clear ka
  have KC := Lib.hid kc; clear kc
  have KM := Lib.hid km; clear km
  have KN := Lib.hid kn; clear kn
  have KR := Lib.hid kr; clear kr
  have KRC := Lib.hid krc; clear krc
  have KS := Lib.hid ks; clear ks
  have KSC := Lib.hid ksc; clear ksc
  go_enter Try.func12, Try.ntmps12
  have hbel : Below w.heap.size w w := Below.refl _ _
  have hbel0 := hbel
  go_upto_region 0 with fail
  refine wp_region_turn (fun u => #[v0, v1, v2, undef, undef, undef, u 0, undef, undef, undef, undef, undef, undef, undef, undef, undef, undef, undef, undef, undef, undef, undef, undef, undef, undef, undef, undef, undef, undef, undef, undef, undef, undef, undef, undef, undef, undef, undef, undef, undef, undef, undef, undef, undef, undef, undef, undef, undef, undef, undef, undef, undef, undef, undef, undef, undef, undef, undef, undef]) (Holds [.oth (fun v => v = .int .i64 0)] w) (Keep [.oth (fun v => v = .int .i64 0)] w) (fun _ => undef) ?_ (by rfl) Keep.start (holds_soft (by kernel_rfl)) ?_ ?_
  · intro u i v h
    rcases i with _ | i
    all_goals first | (simp [Act.put, putV]; done) | (exfalso; simp at h; omega)
  · intro hs
    refine ⟨?_, trivial⟩
    · exact step_pureO hs (wants_none rfl) rfl fun L u W hG hdep => ⟨_, run_assign rfl, rfl⟩
  intro L0 u0 W0 hall hJ hG
  have hb := hJ.all rfl
  have hbel := Below.call hbel hb
  have HC6 := Lib.hid (show u0 0 = .int .i64 0 from hG 0 (by simp))
  have hbel0 := hbel
  clear hJ hG hall hb
  go_upto_region 1 with fail
  refine wp_region_turn (fun u => #[v0, v1, v2, undef, undef, undef, u0 0, u 5, u 7, undef, undef, undef, u 2, u 0, u 1, u 3, u 4, undef, undef, undef, undef, undef, undef, undef, undef, undef, undef, undef, undef, undef, undef, undef, undef, undef, undef, undef, undef, undef, undef, undef, undef, undef, undef, undef, undef, undef, undef, undef, undef, undef, undef, undef, undef, undef, undef, undef, undef, undef, undef]) (Holds [.wld (IsB pub) (some 1), .oth (fun v => IsTV rP v [A] (.int .i64 0)), .oth (fun v => IsTV rP v [A] (.int .i64 0)), .val rP [A], .oth (fun v => v = .int .i64 0), .new 20, .st 5 rP [A], .oth (fun v => v = .int .i64 0)] W0) (Keep [.wld (IsB pub) (some 1), .oth (fun v => IsTV rP v [A] (.int .i64 0)), .oth (fun v => IsTV rP v [A] (.int .i64 0)), .val rP [A], .oth (fun v => v = .int .i64 0), .new 20, .st 5 rP [A], .oth (fun v => v = .int .i64 0)] W0) (fun _ => undef) ?_ (by rfl) Keep.start (holds_soft (by kernel_rfl)) ?_ ?_
  · intro u i v h
    rcases i with _ | _ | _ | _ | _ | _ | _ | _ | i
    all_goals first | (simp [Act.put, putV]; done) | (exfalso; simp at h; omega)
  · intro hs
    refine ⟨?_, ?_, ?_, ?_, ?_, ?_, ?_, ?_, trivial⟩
    · exact step_runP hs (wants_none rfl) rfl fun L u W hJ hG hL hdep => run_moveP (.inl rfl) ((IsB pub).st _ _ _ hp (Below.call hbel (hJ.all rfl)))
    · refine step_callO hs (wants_none rfl) rfl fun L u W hJ hG hL hdep K hK => ?_
      go_simp
      go_at_call 21
      (with_reducible refine (gDecode KA.out KC.out (holds_wld (φ := IsB pub) (hG 0 (hdep 0 (by kernel_rfl))) rfl (till_some hL))).mono ?_); rintro e w1 ⟨r, rfl, hr, hb⟩
      have hk := hK.out _ _ ⟨r, rfl, hr⟩ hb
      exact hk
    · exact step_pureO hs (wants_none rfl) rfl fun L u W hG hdep => ⟨_, run_move rfl, (show IsTV rP (u 1) [A] (.int .i64 0) from hG 1 (hdep 1 (by kernel_rfl)))⟩
    · exact step_pure hs (wants_none rfl) rfl fun L u W hG hdep => run_extractV0 rfl (show IsTV rP (u 2) [A] (.int .i64 0) from hG 2 (hdep 2 (by kernel_rfl)))
    · exact step_pureO hs (wants_none rfl) rfl fun L u W hG hdep => run_extractV1 rfl (show IsTV rP (u 2) [A] (.int .i64 0) from hG 2 (hdep 2 (by kernel_rfl)))
    · exact step_alloc hs (wants_none rfl) rfl rfl (by omega) rfl allocP
    · exact step_store 5 hs (by kernel_rfl) (wants_none rfl) rfl rfl rfl (by kernel_rfl) (by kernel_rfl) (by kernel_rfl) (by kernel_rfl) (fun _ => rfl) (gives_op 3 rfl (by kernel_rfl) (fun _ => rfl)) tyP rfl
    · exact step_pureO hs (wants_none rfl) rfl fun L u W hG hdep => ⟨_, run_assign rfl, (show u 4 = .int .i64 0 from hG 4 (hdep 4 (by kernel_rfl)))⟩
  intro L1 u1 W1 hall hJ hG
  obtain ⟨q7, e7, hq7, _, ht7⟩ := (show ∃ g, u1 5 = .pointer (some ⟨g, 0, none⟩) ∧ W0.heap.size ≤ g ∧ 0 < 20 ∧ W1.there g 0 20 from hG 5 (by simp))
  have hm7 : HasFs rP W1 q7 0 [A] := by
    obtain ⟨g, e, _, h⟩ := (show ∃ g, u1 5 = .pointer (some ⟨g, 0, none⟩) ∧ W0.heap.size ≤ g ∧ HasFs rP W1 g 0 [A] from hG 6 (by simp))
    rw [e7] at e; cases e; exact h
  have hq7 : w.heap.size ≤ q7 := by have := hbel0.size; omega
  have E7 := Lib.hid e7; clear e7
  have hb := hJ.all rfl
  have hbel := Below.call hbel hb
  have HC8 := Lib.hid (show u1 7 = .int .i64 0 from hG 7 (by simp))
  have hbel0 := hbel
  clear hJ hG hall hb
  go_upto_region 2 with fail
  refine wp_region_turn (fun u => #[v0, v1, v2, undef, undef, undef, u0 0, u1 5, u1 7, undef, undef, undef, u1 2, u1 0, u1 1, u1 3, u1 4, u 0, u 1, u 2, u 3, u 4, u 5, undef, undef, undef, undef, undef, undef, undef, undef, undef, undef, undef, undef, undef, undef, undef, undef, undef, undef, undef, undef, undef, undef, undef, undef, undef, undef, undef, undef, undef, undef, undef, undef, undef, undef, undef, undef]) (Holds [.oth (fun v => v = .int .i64 0), .oth (fun v => v = .bool false), .oth (fun v => v = .bool false), .val rP [A], .oth (fun v => v = .bool false), .oth (fun v => v = .bool false)] W1) (Keep [.oth (fun v => v = .int .i64 0), .oth (fun v => v = .bool false), .oth (fun v => v = .bool false), .val rP [A], .oth (fun v => v = .bool false), .oth (fun v => v = .bool false)] W1) (fun _ => undef) ?_ (by rfl) Keep.start (holds_soft (by kernel_rfl)) ?_ ?_
  · intro u i v h
    rcases i with _ | _ | _ | _ | _ | _ | i
    all_goals first | (simp [Act.put, putV]; done) | (exfalso; simp at h; omega)
  · intro hs
    refine ⟨?_, ?_, ?_, ?_, ?_, ?_, trivial⟩
    · exact step_pureO hs (wants_none rfl) rfl fun L u W hG hdep => ⟨_, run_move rfl, HC8.out⟩
    · refine step_pureO hs (wants_none rfl) rfl fun L u W hG hdep => ⟨_, ?_, rfl⟩
      have e0 := (show u 0 = .int .i64 0 from hG 0 (hdep 0 (by kernel_rfl)))
      go_simp
      try simp [bne]
    · exact step_pureO hs (wants_none rfl) rfl fun L u W hG hdep => ⟨_, run_move rfl, (show u 1 = .bool false from hG 1 (hdep 1 (by kernel_rfl)))⟩
    · exact step_load q7 0 hs (wants_on 2 rfl rfl (by kernel_rfl) (fun _ => rfl)) rfl rfl tyP (fun _ => E7.out) hm7.lt hm7 (noSto_apart (by kernel_rfl))
    · refine step_callO hs (wants_on 2 rfl rfl (by kernel_rfl) (fun _ => rfl)) rfl fun L u W hJ hG hL hdep K hK => ?_
      have a0 := (show IsFs rP (u 3) [A] from hG 3 (hdep 3 (by kernel_rfl)))
      go_simp
      go_at_call 22
      (with_reducible refine (cPSmall (b := false) (KM.out) a0 _).mono ?_); rintro e w1 ⟨rfl, hb⟩
      have hk := hK.out _ _ rfl hb
      exact hk
    · exact step_pick false hs (wants_none rfl) rfl rfl (fun L u W hG hdep => (show u 2 = .bool false from hG 2 (hdep 2 (by kernel_rfl)))) (fun L u W hG hdep => (show u 4 = .bool false from hG 4 (hdep 4 (by kernel_rfl))))
  intro L2 u2 W2 hall hJ hG
  have hb := hJ.all rfl
  have hbel := Below.call hbel hb
  have hm7 := hm7.later hb
  have ht7 := there_later ht7 hb
  have HC18 := Lib.hid (show u2 1 = .bool false from hG 1 (by simp))
  have HC19 := Lib.hid (show u2 2 = .bool false from hG 2 (by simp))
  have HC21 := Lib.hid (show u2 4 = .bool false from hG 4 (by simp))
  have HC22 := Lib.hid (show u2 5 = .bool false from hG 5 (by simp))
  have hbel0 := hbel
  clear hJ hG hall hb
  have hx : u2 5 = .bool false := HC22.out
  go_wp2_with fail
  rw [hx]
  clear hx
  go_upto_region 4 with fail
  refine wp_region_turn (fun u => #[v0, v1, v2, undef, undef, undef, u0 0, u1 5, u1 7, undef, undef, undef, u1 2, u1 0, u1 1, u1 3, u1 4, u2 0, u2 1, u2 2, u2 3, u2 4, .bool false, u 0, u 1, u 2, undef, undef, undef, undef, undef, undef, undef, undef, undef, undef, undef, undef, undef, undef, undef, undef, undef, undef, undef, undef, undef, undef, undef, undef, undef, undef, undef, undef, undef, undef, undef, undef, undef]) (Holds [.wld (IsB sig) none, .oth (fun v => v = .int .i64 64), .oth (fun v => v = .bool false)] W2) (Keep [.wld (IsB sig) none, .oth (fun v => v = .int .i64 64), .oth (fun v => v = .bool false)] W2) (fun _ => undef) ?_ (by rfl) Keep.start (holds_soft (by kernel_rfl)) ?_ ?_
  · intro u i v h
    rcases i with _ | _ | _ | i
    all_goals first | (simp [Act.put, putV]; done) | (exfalso; simp at h; omega)
  · intro hs
    refine ⟨?_, ?_, ?_, trivial⟩
    · exact step_runP hs (wants_none rfl) rfl fun L u W hJ hG hL hdep => run_moveP (.inl rfl) ((IsB sig).st _ _ _ hsg (Below.call hbel (hJ.all rfl)))
    · exact step_runO hs (wants_none rfl) rfl fun L u W hJ hG hL hdep => run_lenP rfl (holds_wld (φ := IsB sig) (hG 0 (hdep 0 (by kernel_rfl))) rfl till_none) (by rw [KN.out]; rfl)
    · refine step_pureO hs (wants_none rfl) rfl fun L u W hG hdep => ⟨_, ?_, rfl⟩
      have e0 := (show u 1 = .int .i64 64 from hG 1 (hdep 1 (by kernel_rfl)))
      go_simp
      try simp [bne]
  intro L4 u4 W4 hall hJ hG
  have hb := hJ.all rfl
  have hbel := Below.call hbel hb
  have hm7 := hm7.later hb
  have ht7 := there_later ht7 hb
  have HC25 := Lib.hid (show u4 2 = .bool false from hG 2 (by simp))
  have hbel0 := hbel
  clear hJ hG hall hb
  have hx : u4 2 = .bool false := HC25.out
  go_wp2_with fail
  rw [hx]
  clear hx
  go_upto_region 6 with fail
  refine wp_region_turn (fun u => #[v0, v1, v2, undef, undef, undef, u0 0, u1 5, u 8, u 6, undef, undef, u1 2, u1 0, u1 1, u1 3, u1 4, u2 0, u2 1, u2 2, u2 3, u2 4, .bool false, u4 0, u4 1, .bool false, u 3, u 0, u 1, u 2, u 4, u 5, undef, undef, undef, undef, undef, undef, undef, undef, undef, undef, undef, undef, undef, undef, undef, undef, undef, undef, undef, undef, undef, undef, undef, undef, undef, undef, undef]) (Holds [.wld (IsB sig) (some 1), .wld (IsB (sig.take 32)) (some 2), .oth (fun v => IsTV rP v [Rp] (.int .i64 0)), .oth (fun v => IsTV rP v [Rp] (.int .i64 0)), .val rP [Rp], .oth (fun v => v = .int .i64 0), .new 20, .st 6 rP [Rp], .oth (fun v => v = .int .i64 0)] W4) (Keep [.wld (IsB sig) (some 1), .wld (IsB (sig.take 32)) (some 2), .oth (fun v => IsTV rP v [Rp] (.int .i64 0)), .oth (fun v => IsTV rP v [Rp] (.int .i64 0)), .val rP [Rp], .oth (fun v => v = .int .i64 0), .new 20, .st 6 rP [Rp], .oth (fun v => v = .int .i64 0)] W4) (fun k => ((undef :: undef :: undef :: undef :: undef :: undef :: undef :: undef :: u1 7 :: []) : List Value).getD k undef) ?_ (by rfl) Keep.start (holds_soft (by kernel_rfl)) ?_ ?_
  · intro u i v h
    rcases i with _ | _ | _ | _ | _ | _ | _ | _ | _ | i
    all_goals first | (simp [Act.put, putV]; done) | (exfalso; simp at h; omega)
  · intro hs
    refine ⟨?_, ?_, ?_, ?_, ?_, ?_, ?_, ?_, ?_, trivial⟩
    · exact step_runP hs (wants_none rfl) rfl fun L u W hJ hG hL hdep => run_moveP (.inl rfl) ((IsB sig).st _ _ _ hsg (Below.call hbel (hJ.all rfl)))
    · exact step_runP hs (wants_none rfl) rfl fun L u W hJ hG hL hdep => run_toP (k := 32) rfl rfl (holds_wld (φ := IsB sig) (hG 0 (hdep 0 (by kernel_rfl))) rfl (till_some hL)) (by rw [KN.out]; omega)
    · refine step_callO hs (wants_none rfl) rfl fun L u W hJ hG hL hdep K hK => ?_
      go_simp
      go_at_call 21
      (with_reducible refine (gDecode KR.out KRC.out (holds_wld (φ := IsB (sig.take 32)) (hG 1 (hdep 1 (by kernel_rfl))) rfl (till_some hL))).mono ?_); rintro e w1 ⟨r, rfl, hr, hb⟩
      have hk := hK.out _ _ ⟨r, rfl, hr⟩ hb
      exact hk
    · exact step_pureO hs (wants_none rfl) rfl fun L u W hG hdep => ⟨_, run_move rfl, (show IsTV rP (u 2) [Rp] (.int .i64 0) from hG 2 (hdep 2 (by kernel_rfl)))⟩
    · exact step_pure hs (wants_none rfl) rfl fun L u W hG hdep => run_extractV0 rfl (show IsTV rP (u 3) [Rp] (.int .i64 0) from hG 3 (hdep 3 (by kernel_rfl)))
    · exact step_pureO hs (wants_none rfl) rfl fun L u W hG hdep => run_extractV1 rfl (show IsTV rP (u 3) [Rp] (.int .i64 0) from hG 3 (hdep 3 (by kernel_rfl)))
    · exact step_alloc hs (wants_none rfl) rfl rfl (by omega) rfl allocP
    · exact step_store 6 hs (by kernel_rfl) (wants_none rfl) rfl rfl rfl (by kernel_rfl) (by kernel_rfl) (by kernel_rfl) (by kernel_rfl) (fun _ => rfl) (gives_op 4 rfl (by kernel_rfl) (fun _ => rfl)) tyP rfl
    · exact step_pureO hs (wants_none rfl) rfl fun L u W hG hdep => ⟨_, run_assign rfl, (show u 5 = .int .i64 0 from hG 5 (hdep 5 (by kernel_rfl)))⟩
  intro L6 u6 W6 hall hJ hG
  obtain ⟨q9, e9, hq9, _, ht9⟩ := (show ∃ g, u6 6 = .pointer (some ⟨g, 0, none⟩) ∧ W4.heap.size ≤ g ∧ 0 < 20 ∧ W6.there g 0 20 from hG 6 (by simp))
  have hm9 : HasFs rP W6 q9 0 [Rp] := by
    obtain ⟨g, e, _, h⟩ := (show ∃ g, u6 6 = .pointer (some ⟨g, 0, none⟩) ∧ W4.heap.size ≤ g ∧ HasFs rP W6 g 0 [Rp] from hG 7 (by simp))
    rw [e9] at e; cases e; exact h
  have HD9_q7 := Lib.hid (show q7 ≠ q9 by have := there_lt ht7 (by omega); omega)
  have hq9 : w.heap.size ≤ q9 := by have := hbel0.size; omega
  have E9 := Lib.hid e9; clear e9
  have hb := hJ.all rfl
  have hbel := Below.call hbel hb
  have hm7 := hm7.later hb
  have ht7 := there_later ht7 hb
  have HC8 := Lib.hid (show u6 8 = .int .i64 0 from hG 8 (by simp))
  have hbel0 := hbel
  clear hJ hG hall hb
  go_upto_region 7 with fail
  refine wp_region_turn (fun u => #[v0, v1, v2, undef, undef, undef, u0 0, u1 5, u6 8, u6 6, undef, undef, u1 2, u1 0, u1 1, u1 3, u1 4, u2 0, u2 1, u2 2, u2 3, u2 4, .bool false, u4 0, u4 1, .bool false, u6 3, u6 0, u6 1, u6 2, u6 4, u6 5, u 0, u 1, undef, undef, undef, undef, undef, undef, undef, undef, undef, undef, undef, undef, undef, undef, undef, undef, undef, undef, undef, undef, undef, undef, undef, undef, undef]) (Holds [.oth (fun v => v = .int .i64 0), .oth (fun v => v = .bool false)] W6) (Keep [.oth (fun v => v = .int .i64 0), .oth (fun v => v = .bool false)] W6) (fun _ => undef) ?_ (by rfl) Keep.start (holds_soft (by kernel_rfl)) ?_ ?_
  · intro u i v h
    rcases i with _ | _ | i
    all_goals first | (simp [Act.put, putV]; done) | (exfalso; simp at h; omega)
  · intro hs
    refine ⟨?_, ?_, trivial⟩
    · exact step_pureO hs (wants_none rfl) rfl fun L u W hG hdep => ⟨_, run_move rfl, HC8.out⟩
    · refine step_pureO hs (wants_none rfl) rfl fun L u W hG hdep => ⟨_, ?_, rfl⟩
      have e0 := (show u 0 = .int .i64 0 from hG 0 (hdep 0 (by kernel_rfl)))
      go_simp
      try simp [bne]
  intro L7 u7 W7 hall hJ hG
  have hb := hJ.all rfl
  have hbel := Below.call hbel hb
  have hm7 := hm7.later hb
  have hm9 := hm9.later hb
  have ht7 := there_later ht7 hb
  have ht9 := there_later ht9 hb
  have HC33 := Lib.hid (show u7 1 = .bool false from hG 1 (by simp))
  have hbel0 := hbel
  clear hJ hG hall hb
  have hx : u7 1 = .bool false := HC33.out
  go_wp2_with fail
  rw [hx]
  clear hx
  go_upto_region 9 with fail
  refine wp_region_turn (fun u => #[v0, v1, v2, undef, undef, undef, u0 0, u1 5, u 8, u6 6, u 6, undef, u1 2, u1 0, u1 1, u1 3, u1 4, u2 0, u2 1, u2 2, u2 3, u2 4, .bool false, u4 0, u4 1, .bool false, u6 3, u6 0, u6 1, u6 2, u6 4, u6 5, u7 0, .bool false, u 3, u 0, u 1, u 2, u 4, u 5, undef, undef, undef, undef, undef, undef, undef, undef, undef, undef, undef, undef, undef, undef, undef, undef, undef, undef, undef]) (Holds [.wld (IsB sig) (some 1), .wld (IsB (sig.drop 32)) (some 2), .oth (fun v => IsTV rS v [s] (.int .i64 2)), .oth (fun v => IsTV rS v [s] (.int .i64 2)), .val rS [s], .oth (fun v => v = .int .i64 2), .new 4, .st 6 rS [s], .oth (fun v => v = .int .i64 2)] W7) (Keep [.wld (IsB sig) (some 1), .wld (IsB (sig.drop 32)) (some 2), .oth (fun v => IsTV rS v [s] (.int .i64 2)), .oth (fun v => IsTV rS v [s] (.int .i64 2)), .val rS [s], .oth (fun v => v = .int .i64 2), .new 4, .st 6 rS [s], .oth (fun v => v = .int .i64 2)] W7) (fun k => ((undef :: undef :: undef :: undef :: undef :: undef :: undef :: undef :: u6 8 :: []) : List Value).getD k undef) ?_ (by rfl) Keep.start (holds_soft (by kernel_rfl)) ?_ ?_
  · intro u i v h
    rcases i with _ | _ | _ | _ | _ | _ | _ | _ | _ | i
    all_goals first | (simp [Act.put, putV]; done) | (exfalso; simp at h; omega)
  · intro hs
    refine ⟨?_, ?_, ?_, ?_, ?_, ?_, ?_, ?_, ?_, trivial⟩
    · exact step_runP hs (wants_none rfl) rfl fun L u W hJ hG hL hdep => run_moveP (.inl rfl) ((IsB sig).st _ _ _ hsg (Below.call hbel (hJ.all rfl)))
    · exact step_runP hs (wants_none rfl) rfl fun L u W hJ hG hL hdep => run_fromP (k := 32) rfl rfl (holds_wld (φ := IsB sig) (hG 0 (hdep 0 (by kernel_rfl))) rfl (till_some hL)) (by rw [KN.out]; omega)
    · refine step_callO hs (wants_none rfl) rfl fun L u W hJ hG hL hdep K hK => ?_
      go_simp
      go_at_call 23
      (with_reducible refine (gStrict KS.out KSC.out (holds_wld (φ := IsB (sig.drop 32)) (hG 1 (hdep 1 (by kernel_rfl))) rfl (till_some hL))).mono ?_); rintro e w1 ⟨r, rfl, hr, hb⟩
      have hk := hK.out _ _ ⟨r, rfl, hr⟩ hb
      exact hk
    · exact step_pureO hs (wants_none rfl) rfl fun L u W hG hdep => ⟨_, run_move rfl, (show IsTV rS (u 2) [s] (.int .i64 2) from hG 2 (hdep 2 (by kernel_rfl)))⟩
    · exact step_pure hs (wants_none rfl) rfl fun L u W hG hdep => run_extractV0 rfl (show IsTV rS (u 3) [s] (.int .i64 2) from hG 3 (hdep 3 (by kernel_rfl)))
    · exact step_pureO hs (wants_none rfl) rfl fun L u W hG hdep => run_extractV1 rfl (show IsTV rS (u 3) [s] (.int .i64 2) from hG 3 (hdep 3 (by kernel_rfl)))
    · exact step_alloc hs (wants_none rfl) rfl rfl (by omega) rfl allocS
    · exact step_store 6 hs (by kernel_rfl) (wants_none rfl) rfl rfl rfl (by kernel_rfl) (by kernel_rfl) (by kernel_rfl) (by kernel_rfl) (fun _ => rfl) (gives_op 4 rfl (by kernel_rfl) (fun _ => rfl)) tyS rfl
    · exact step_pureO hs (wants_none rfl) rfl fun L u W hG hdep => ⟨_, run_assign rfl, (show u 5 = .int .i64 2 from hG 5 (hdep 5 (by kernel_rfl)))⟩
  intro L9 u9 W9 hall hJ hG
  obtain ⟨q10, e10, hq10, _, ht10⟩ := (show ∃ g, u9 6 = .pointer (some ⟨g, 0, none⟩) ∧ W7.heap.size ≤ g ∧ 0 < 4 ∧ W9.there g 0 4 from hG 6 (by simp))
  have hm10 : HasFs rS W9 q10 0 [s] := by
    obtain ⟨g, e, _, h⟩ := (show ∃ g, u9 6 = .pointer (some ⟨g, 0, none⟩) ∧ W7.heap.size ≤ g ∧ HasFs rS W9 g 0 [s] from hG 7 (by simp))
    rw [e10] at e; cases e; exact h
  have HD10_q7 := Lib.hid (show q7 ≠ q10 by have := there_lt ht7 (by omega); omega)
  have HD10_q9 := Lib.hid (show q9 ≠ q10 by have := there_lt ht9 (by omega); omega)
  have hq10 : w.heap.size ≤ q10 := by have := hbel0.size; omega
  have E10 := Lib.hid e10; clear e10
  have hb := hJ.all rfl
  have hbel := Below.call hbel hb
  have hm7 := hm7.later hb
  have hm9 := hm9.later hb
  have ht7 := there_later ht7 hb
  have ht9 := there_later ht9 hb
  have HC8 := Lib.hid (show u9 8 = .int .i64 2 from hG 8 (by simp))
  have hbel0 := hbel
  clear hJ hG hall hb
  go_upto_region 10 with fail
  refine wp_region_turn (fun u => #[v0, v1, v2, undef, undef, undef, u0 0, u1 5, u9 8, u6 6, u9 6, undef, u1 2, u1 0, u1 1, u1 3, u1 4, u2 0, u2 1, u2 2, u2 3, u2 4, .bool false, u4 0, u4 1, .bool false, u6 3, u6 0, u6 1, u6 2, u6 4, u6 5, u7 0, .bool false, u9 3, u9 0, u9 1, u9 2, u9 4, u9 5, u 0, u 1, undef, undef, undef, undef, undef, undef, undef, undef, undef, undef, undef, undef, undef, undef, undef, undef, undef]) (Holds [.oth (fun v => v = .int .i64 2), .oth (fun v => v = .bool true)] W9) (Keep [.oth (fun v => v = .int .i64 2), .oth (fun v => v = .bool true)] W9) (fun _ => undef) ?_ (by rfl) Keep.start (holds_soft (by kernel_rfl)) ?_ ?_
  · intro u i v h
    rcases i with _ | _ | i
    all_goals first | (simp [Act.put, putV]; done) | (exfalso; simp at h; omega)
  · intro hs
    refine ⟨?_, ?_, trivial⟩
    · exact step_pureO hs (wants_none rfl) rfl fun L u W hG hdep => ⟨_, run_move rfl, HC8.out⟩
    · refine step_pureO hs (wants_none rfl) rfl fun L u W hG hdep => ⟨_, ?_, rfl⟩
      have e0 := (show u 0 = .int .i64 2 from hG 0 (hdep 0 (by kernel_rfl)))
      go_simp
      try simp [bne]
  intro L10 u10 W10 hall hJ hG
  have hb := hJ.all rfl
  have hbel := Below.call hbel hb
  have hm7 := hm7.later hb
  have hm9 := hm9.later hb
  have hm10 := hm10.later hb
  have ht7 := there_later ht7 hb
  have ht9 := there_later ht9 hb
  have ht10 := there_later ht10 hb
  have HC41 := Lib.hid (show u10 1 = .bool true from hG 1 (by simp))
  have hbel0 := hbel
  clear hJ hG hall hb
  have hx : u10 1 = .bool true := HC41.out
  go_wp2_with fail
  rw [hx]
  clear hx
  go_upto_region 11 with fail
  refine wp_region_turn (fun u => #[v0, v1, v2, undef, undef, undef, u 0, u1 5, u9 8, u6 6, u9 6, undef, u1 2, u1 0, u1 1, u1 3, u1 4, u2 0, u2 1, u2 2, u2 3, u2 4, .bool false, u4 0, u4 1, .bool false, u6 3, u6 0, u6 1, u6 2, u6 4, u6 5, u7 0, .bool false, u9 3, u9 0, u9 1, u9 2, u9 4, u9 5, u10 0, .bool true, undef, undef, undef, undef, undef, undef, undef, undef, undef, undef, undef, undef, undef, undef, undef, undef, undef]) (Holds [.oth (fun v => v = .int .i64 3)] W10) (Keep [.oth (fun v => v = .int .i64 3)] W10) (fun k => ((u0 0 :: []) : List Value).getD k undef) ?_ (by rfl) Keep.start (holds_soft (by kernel_rfl)) ?_ ?_
  · intro u i v h
    rcases i with _ | i
    all_goals first | (simp [Act.put, putV]; done) | (exfalso; simp at h; omega)
  · intro hs
    refine ⟨?_, trivial⟩
    · exact step_pureO hs (wants_none rfl) rfl fun L u W hG hdep => ⟨_, run_assign rfl, rfl⟩
  intro L11 u11 W11 hall hJ hG
  have hb := hJ.all rfl
  have hbel := Below.call hbel hb
  have hm7 := hm7.later hb
  have hm9 := hm9.later hb
  have hm10 := hm10.later hb
  have ht7 := there_later ht7 hb
  have ht9 := there_later ht9 hb
  have ht10 := there_later ht10 hb
  have HC6 := Lib.hid (show u11 0 = .int .i64 3 from hG 0 (by simp))
  have hbel0 := hbel
  clear hJ hG hall hb
  go_wp2
  go_ret
  exact ⟨by rw [HC6.out]; rfl, hbel⟩
set_option maxRecDepth 100000 in
set_option maxHeartbeats 1000000 in
theorem ver_true {w : World} {v0 v1 v2 : Value} {pub sig l : List UInt8} {ls : List (List UInt8)} (hp : (IsB pub).P v0 w) (hsg : (IsB sig).P v1 w) (h1 : (IsR ls).P v2 w) (hl : ls.flatten = l) (hm : l.length ≤ 100000) {A : EP} (ka : decV pub = A) (kc : decC pub = 0) (km : decide (Cp.mul 8 A = Cp.zero) = false) (kn : sig.length = 64) {Rp : EP} (kr : decV (sig.take 32) = Rp) (krc : decC (sig.take 32) = 0) {s : F} (ks : ssV (sig.drop 32) = s) (ksc : ssC (sig.drop 32) = 0) (kl : pub.length = 32) (kb : decide (Cp.mul s.val base = Cp.add Rp (Cp.mul (wS (sha512 (sig.take 32 ++ (pub ++ l)))).val A)) = true) :
    Calls Try.prog 12 #[v0, v1, v2] w fun e w' => e = .returned (.int .i64 0) ∧ Below w.heap.size w w' := by
  have HL := Lib.hid hl; have HM := Lib.hid hm
  clear hl hm
  have KA := Lib.hid ka; clear ka
  have KC := Lib.hid kc; clear kc
  have KM := Lib.hid km; clear km
  have KN := Lib.hid kn; clear kn
  have KR := Lib.hid kr; clear kr
  have KRC := Lib.hid krc; clear krc
  have KS := Lib.hid ks; clear ks
  have KSC := Lib.hid ksc; clear ksc
  have KL := Lib.hid kl; clear kl
  have KB := Lib.hid kb; clear kb
  go_enter Try.func12, Try.ntmps12
  have hbel : Below w.heap.size w w := Below.refl _ _
  have hbel0 := hbel
  go_upto_region 0 with fail
  refine wp_region_turn (fun u => #[v0, v1, v2, undef, undef, undef, u 0, undef, undef, undef, undef, undef, undef, undef, undef, undef, undef, undef, undef, undef, undef, undef, undef, undef, undef, undef, undef, undef, undef, undef, undef, undef, undef, undef, undef, undef, undef, undef, undef, undef, undef, undef, undef, undef, undef, undef, undef, undef, undef, undef, undef, undef, undef, undef, undef, undef, undef, undef, undef]) (Holds [.oth (fun v => v = .int .i64 0)] w) (Keep [.oth (fun v => v = .int .i64 0)] w) (fun _ => undef) ?_ (by rfl) Keep.start (holds_soft (by kernel_rfl)) ?_ ?_
  · intro u i v h
    rcases i with _ | i
    all_goals first | (simp [Act.put, putV]; done) | (exfalso; simp at h; omega)
  · intro hs
    refine ⟨?_, trivial⟩
    · exact step_pureO hs (wants_none rfl) rfl fun L u W hG hdep => ⟨_, run_assign rfl, rfl⟩
  intro L0 u0 W0 hall hJ hG
  have hb := hJ.all rfl
  have hbel := Below.call hbel hb
  have HC6 := Lib.hid (show u0 0 = .int .i64 0 from hG 0 (by simp))
  have hbel0 := hbel
  clear hJ hG hall hb
  go_upto_region 1 with fail
  refine wp_region_turn (fun u => #[v0, v1, v2, undef, undef, undef, u0 0, u 5, u 7, undef, undef, undef, u 2, u 0, u 1, u 3, u 4, undef, undef, undef, undef, undef, undef, undef, undef, undef, undef, undef, undef, undef, undef, undef, undef, undef, undef, undef, undef, undef, undef, undef, undef, undef, undef, undef, undef, undef, undef, undef, undef, undef, undef, undef, undef, undef, undef, undef, undef, undef, undef]) (Holds [.wld (IsB pub) (some 1), .oth (fun v => IsTV rP v [A] (.int .i64 0)), .oth (fun v => IsTV rP v [A] (.int .i64 0)), .val rP [A], .oth (fun v => v = .int .i64 0), .new 20, .st 5 rP [A], .oth (fun v => v = .int .i64 0)] W0) (Keep [.wld (IsB pub) (some 1), .oth (fun v => IsTV rP v [A] (.int .i64 0)), .oth (fun v => IsTV rP v [A] (.int .i64 0)), .val rP [A], .oth (fun v => v = .int .i64 0), .new 20, .st 5 rP [A], .oth (fun v => v = .int .i64 0)] W0) (fun _ => undef) ?_ (by rfl) Keep.start (holds_soft (by kernel_rfl)) ?_ ?_
  · intro u i v h
    rcases i with _ | _ | _ | _ | _ | _ | _ | _ | i
    all_goals first | (simp [Act.put, putV]; done) | (exfalso; simp at h; omega)
  · intro hs
    refine ⟨?_, ?_, ?_, ?_, ?_, ?_, ?_, ?_, trivial⟩
    · exact step_runP hs (wants_none rfl) rfl fun L u W hJ hG hL hdep => run_moveP (.inl rfl) ((IsB pub).st _ _ _ hp (Below.call hbel (hJ.all rfl)))
    · refine step_callO hs (wants_none rfl) rfl fun L u W hJ hG hL hdep K hK => ?_
      go_simp
      go_at_call 21
      (with_reducible refine (gDecode KA.out KC.out (holds_wld (φ := IsB pub) (hG 0 (hdep 0 (by kernel_rfl))) rfl (till_some hL))).mono ?_); rintro e w1 ⟨r, rfl, hr, hb⟩
      have hk := hK.out _ _ ⟨r, rfl, hr⟩ hb
      exact hk
    · exact step_pureO hs (wants_none rfl) rfl fun L u W hG hdep => ⟨_, run_move rfl, (show IsTV rP (u 1) [A] (.int .i64 0) from hG 1 (hdep 1 (by kernel_rfl)))⟩
    · exact step_pure hs (wants_none rfl) rfl fun L u W hG hdep => run_extractV0 rfl (show IsTV rP (u 2) [A] (.int .i64 0) from hG 2 (hdep 2 (by kernel_rfl)))
    · exact step_pureO hs (wants_none rfl) rfl fun L u W hG hdep => run_extractV1 rfl (show IsTV rP (u 2) [A] (.int .i64 0) from hG 2 (hdep 2 (by kernel_rfl)))
    · exact step_alloc hs (wants_none rfl) rfl rfl (by omega) rfl allocP
    · exact step_store 5 hs (by kernel_rfl) (wants_none rfl) rfl rfl rfl (by kernel_rfl) (by kernel_rfl) (by kernel_rfl) (by kernel_rfl) (fun _ => rfl) (gives_op 3 rfl (by kernel_rfl) (fun _ => rfl)) tyP rfl
    · exact step_pureO hs (wants_none rfl) rfl fun L u W hG hdep => ⟨_, run_assign rfl, (show u 4 = .int .i64 0 from hG 4 (hdep 4 (by kernel_rfl)))⟩
  intro L1 u1 W1 hall hJ hG
  obtain ⟨q7, e7, hq7, _, ht7⟩ := (show ∃ g, u1 5 = .pointer (some ⟨g, 0, none⟩) ∧ W0.heap.size ≤ g ∧ 0 < 20 ∧ W1.there g 0 20 from hG 5 (by simp))
  have hm7 : HasFs rP W1 q7 0 [A] := by
    obtain ⟨g, e, _, h⟩ := (show ∃ g, u1 5 = .pointer (some ⟨g, 0, none⟩) ∧ W0.heap.size ≤ g ∧ HasFs rP W1 g 0 [A] from hG 6 (by simp))
    rw [e7] at e; cases e; exact h
  have hq7 : w.heap.size ≤ q7 := by have := hbel0.size; omega
  have E7 := Lib.hid e7; clear e7
  have hb := hJ.all rfl
  have hbel := Below.call hbel hb
  have HC8 := Lib.hid (show u1 7 = .int .i64 0 from hG 7 (by simp))
  have hbel0 := hbel
  clear hJ hG hall hb
  go_upto_region 2 with fail
  refine wp_region_turn (fun u => #[v0, v1, v2, undef, undef, undef, u0 0, u1 5, u1 7, undef, undef, undef, u1 2, u1 0, u1 1, u1 3, u1 4, u 0, u 1, u 2, u 3, u 4, u 5, undef, undef, undef, undef, undef, undef, undef, undef, undef, undef, undef, undef, undef, undef, undef, undef, undef, undef, undef, undef, undef, undef, undef, undef, undef, undef, undef, undef, undef, undef, undef, undef, undef, undef, undef, undef]) (Holds [.oth (fun v => v = .int .i64 0), .oth (fun v => v = .bool false), .oth (fun v => v = .bool false), .val rP [A], .oth (fun v => v = .bool false), .oth (fun v => v = .bool false)] W1) (Keep [.oth (fun v => v = .int .i64 0), .oth (fun v => v = .bool false), .oth (fun v => v = .bool false), .val rP [A], .oth (fun v => v = .bool false), .oth (fun v => v = .bool false)] W1) (fun _ => undef) ?_ (by rfl) Keep.start (holds_soft (by kernel_rfl)) ?_ ?_
  · intro u i v h
    rcases i with _ | _ | _ | _ | _ | _ | i
    all_goals first | (simp [Act.put, putV]; done) | (exfalso; simp at h; omega)
  · intro hs
    refine ⟨?_, ?_, ?_, ?_, ?_, ?_, trivial⟩
    · exact step_pureO hs (wants_none rfl) rfl fun L u W hG hdep => ⟨_, run_move rfl, HC8.out⟩
    · refine step_pureO hs (wants_none rfl) rfl fun L u W hG hdep => ⟨_, ?_, rfl⟩
      have e0 := (show u 0 = .int .i64 0 from hG 0 (hdep 0 (by kernel_rfl)))
      go_simp
      try simp [bne]
    · exact step_pureO hs (wants_none rfl) rfl fun L u W hG hdep => ⟨_, run_move rfl, (show u 1 = .bool false from hG 1 (hdep 1 (by kernel_rfl)))⟩
    · exact step_load q7 0 hs (wants_on 2 rfl rfl (by kernel_rfl) (fun _ => rfl)) rfl rfl tyP (fun _ => E7.out) hm7.lt hm7 (noSto_apart (by kernel_rfl))
    · refine step_callO hs (wants_on 2 rfl rfl (by kernel_rfl) (fun _ => rfl)) rfl fun L u W hJ hG hL hdep K hK => ?_
      have a0 := (show IsFs rP (u 3) [A] from hG 3 (hdep 3 (by kernel_rfl)))
      go_simp
      go_at_call 22
      (with_reducible refine (cPSmall (b := false) (KM.out) a0 _).mono ?_); rintro e w1 ⟨rfl, hb⟩
      have hk := hK.out _ _ rfl hb
      exact hk
    · exact step_pick false hs (wants_none rfl) rfl rfl (fun L u W hG hdep => (show u 2 = .bool false from hG 2 (hdep 2 (by kernel_rfl)))) (fun L u W hG hdep => (show u 4 = .bool false from hG 4 (hdep 4 (by kernel_rfl))))
  intro L2 u2 W2 hall hJ hG
  have hb := hJ.all rfl
  have hbel := Below.call hbel hb
  have hm7 := hm7.later hb
  have ht7 := there_later ht7 hb
  have HC18 := Lib.hid (show u2 1 = .bool false from hG 1 (by simp))
  have HC19 := Lib.hid (show u2 2 = .bool false from hG 2 (by simp))
  have HC21 := Lib.hid (show u2 4 = .bool false from hG 4 (by simp))
  have HC22 := Lib.hid (show u2 5 = .bool false from hG 5 (by simp))
  have hbel0 := hbel
  clear hJ hG hall hb
  have hx : u2 5 = .bool false := HC22.out
  go_wp2_with fail
  rw [hx]
  clear hx
  go_upto_region 4 with fail
  refine wp_region_turn (fun u => #[v0, v1, v2, undef, undef, undef, u0 0, u1 5, u1 7, undef, undef, undef, u1 2, u1 0, u1 1, u1 3, u1 4, u2 0, u2 1, u2 2, u2 3, u2 4, .bool false, u 0, u 1, u 2, undef, undef, undef, undef, undef, undef, undef, undef, undef, undef, undef, undef, undef, undef, undef, undef, undef, undef, undef, undef, undef, undef, undef, undef, undef, undef, undef, undef, undef, undef, undef, undef, undef]) (Holds [.wld (IsB sig) none, .oth (fun v => v = .int .i64 64), .oth (fun v => v = .bool false)] W2) (Keep [.wld (IsB sig) none, .oth (fun v => v = .int .i64 64), .oth (fun v => v = .bool false)] W2) (fun _ => undef) ?_ (by rfl) Keep.start (holds_soft (by kernel_rfl)) ?_ ?_
  · intro u i v h
    rcases i with _ | _ | _ | i
    all_goals first | (simp [Act.put, putV]; done) | (exfalso; simp at h; omega)
  · intro hs
    refine ⟨?_, ?_, ?_, trivial⟩
    · exact step_runP hs (wants_none rfl) rfl fun L u W hJ hG hL hdep => run_moveP (.inl rfl) ((IsB sig).st _ _ _ hsg (Below.call hbel (hJ.all rfl)))
    · exact step_runO hs (wants_none rfl) rfl fun L u W hJ hG hL hdep => run_lenP rfl (holds_wld (φ := IsB sig) (hG 0 (hdep 0 (by kernel_rfl))) rfl till_none) (by rw [KN.out]; rfl)
    · refine step_pureO hs (wants_none rfl) rfl fun L u W hG hdep => ⟨_, ?_, rfl⟩
      have e0 := (show u 1 = .int .i64 64 from hG 1 (hdep 1 (by kernel_rfl)))
      go_simp
      try simp [bne]
  intro L4 u4 W4 hall hJ hG
  have hb := hJ.all rfl
  have hbel := Below.call hbel hb
  have hm7 := hm7.later hb
  have ht7 := there_later ht7 hb
  have HC25 := Lib.hid (show u4 2 = .bool false from hG 2 (by simp))
  have hbel0 := hbel
  clear hJ hG hall hb
  have hx : u4 2 = .bool false := HC25.out
  go_wp2_with fail
  rw [hx]
  clear hx
  go_upto_region 6 with fail
  refine wp_region_turn (fun u => #[v0, v1, v2, undef, undef, undef, u0 0, u1 5, u 8, u 6, undef, undef, u1 2, u1 0, u1 1, u1 3, u1 4, u2 0, u2 1, u2 2, u2 3, u2 4, .bool false, u4 0, u4 1, .bool false, u 3, u 0, u 1, u 2, u 4, u 5, undef, undef, undef, undef, undef, undef, undef, undef, undef, undef, undef, undef, undef, undef, undef, undef, undef, undef, undef, undef, undef, undef, undef, undef, undef, undef, undef]) (Holds [.wld (IsB sig) (some 1), .wld (IsB (sig.take 32)) (some 2), .oth (fun v => IsTV rP v [Rp] (.int .i64 0)), .oth (fun v => IsTV rP v [Rp] (.int .i64 0)), .val rP [Rp], .oth (fun v => v = .int .i64 0), .new 20, .st 6 rP [Rp], .oth (fun v => v = .int .i64 0)] W4) (Keep [.wld (IsB sig) (some 1), .wld (IsB (sig.take 32)) (some 2), .oth (fun v => IsTV rP v [Rp] (.int .i64 0)), .oth (fun v => IsTV rP v [Rp] (.int .i64 0)), .val rP [Rp], .oth (fun v => v = .int .i64 0), .new 20, .st 6 rP [Rp], .oth (fun v => v = .int .i64 0)] W4) (fun k => ((undef :: undef :: undef :: undef :: undef :: undef :: undef :: undef :: u1 7 :: []) : List Value).getD k undef) ?_ (by rfl) Keep.start (holds_soft (by kernel_rfl)) ?_ ?_
  · intro u i v h
    rcases i with _ | _ | _ | _ | _ | _ | _ | _ | _ | i
    all_goals first | (simp [Act.put, putV]; done) | (exfalso; simp at h; omega)
  · intro hs
    refine ⟨?_, ?_, ?_, ?_, ?_, ?_, ?_, ?_, ?_, trivial⟩
    · exact step_runP hs (wants_none rfl) rfl fun L u W hJ hG hL hdep => run_moveP (.inl rfl) ((IsB sig).st _ _ _ hsg (Below.call hbel (hJ.all rfl)))
    · exact step_runP hs (wants_none rfl) rfl fun L u W hJ hG hL hdep => run_toP (k := 32) rfl rfl (holds_wld (φ := IsB sig) (hG 0 (hdep 0 (by kernel_rfl))) rfl (till_some hL)) (by rw [KN.out]; omega)
    · refine step_callO hs (wants_none rfl) rfl fun L u W hJ hG hL hdep K hK => ?_
      go_simp
      go_at_call 21
      (with_reducible refine (gDecode KR.out KRC.out (holds_wld (φ := IsB (sig.take 32)) (hG 1 (hdep 1 (by kernel_rfl))) rfl (till_some hL))).mono ?_); rintro e w1 ⟨r, rfl, hr, hb⟩
      have hk := hK.out _ _ ⟨r, rfl, hr⟩ hb
      exact hk
    · exact step_pureO hs (wants_none rfl) rfl fun L u W hG hdep => ⟨_, run_move rfl, (show IsTV rP (u 2) [Rp] (.int .i64 0) from hG 2 (hdep 2 (by kernel_rfl)))⟩
    · exact step_pure hs (wants_none rfl) rfl fun L u W hG hdep => run_extractV0 rfl (show IsTV rP (u 3) [Rp] (.int .i64 0) from hG 3 (hdep 3 (by kernel_rfl)))
    · exact step_pureO hs (wants_none rfl) rfl fun L u W hG hdep => run_extractV1 rfl (show IsTV rP (u 3) [Rp] (.int .i64 0) from hG 3 (hdep 3 (by kernel_rfl)))
    · exact step_alloc hs (wants_none rfl) rfl rfl (by omega) rfl allocP
    · exact step_store 6 hs (by kernel_rfl) (wants_none rfl) rfl rfl rfl (by kernel_rfl) (by kernel_rfl) (by kernel_rfl) (by kernel_rfl) (fun _ => rfl) (gives_op 4 rfl (by kernel_rfl) (fun _ => rfl)) tyP rfl
    · exact step_pureO hs (wants_none rfl) rfl fun L u W hG hdep => ⟨_, run_assign rfl, (show u 5 = .int .i64 0 from hG 5 (hdep 5 (by kernel_rfl)))⟩
  intro L6 u6 W6 hall hJ hG
  obtain ⟨q9, e9, hq9, _, ht9⟩ := (show ∃ g, u6 6 = .pointer (some ⟨g, 0, none⟩) ∧ W4.heap.size ≤ g ∧ 0 < 20 ∧ W6.there g 0 20 from hG 6 (by simp))
  have hm9 : HasFs rP W6 q9 0 [Rp] := by
    obtain ⟨g, e, _, h⟩ := (show ∃ g, u6 6 = .pointer (some ⟨g, 0, none⟩) ∧ W4.heap.size ≤ g ∧ HasFs rP W6 g 0 [Rp] from hG 7 (by simp))
    rw [e9] at e; cases e; exact h
  have HD9_q7 := Lib.hid (show q7 ≠ q9 by have := there_lt ht7 (by omega); omega)
  have hq9 : w.heap.size ≤ q9 := by have := hbel0.size; omega
  have E9 := Lib.hid e9; clear e9
  have hb := hJ.all rfl
  have hbel := Below.call hbel hb
  have hm7 := hm7.later hb
  have ht7 := there_later ht7 hb
  have HC8 := Lib.hid (show u6 8 = .int .i64 0 from hG 8 (by simp))
  have hbel0 := hbel
  clear hJ hG hall hb
  go_upto_region 7 with fail
  refine wp_region_turn (fun u => #[v0, v1, v2, undef, undef, undef, u0 0, u1 5, u6 8, u6 6, undef, undef, u1 2, u1 0, u1 1, u1 3, u1 4, u2 0, u2 1, u2 2, u2 3, u2 4, .bool false, u4 0, u4 1, .bool false, u6 3, u6 0, u6 1, u6 2, u6 4, u6 5, u 0, u 1, undef, undef, undef, undef, undef, undef, undef, undef, undef, undef, undef, undef, undef, undef, undef, undef, undef, undef, undef, undef, undef, undef, undef, undef, undef]) (Holds [.oth (fun v => v = .int .i64 0), .oth (fun v => v = .bool false)] W6) (Keep [.oth (fun v => v = .int .i64 0), .oth (fun v => v = .bool false)] W6) (fun _ => undef) ?_ (by rfl) Keep.start (holds_soft (by kernel_rfl)) ?_ ?_
  · intro u i v h
    rcases i with _ | _ | i
    all_goals first | (simp [Act.put, putV]; done) | (exfalso; simp at h; omega)
  · intro hs
    refine ⟨?_, ?_, trivial⟩
    · exact step_pureO hs (wants_none rfl) rfl fun L u W hG hdep => ⟨_, run_move rfl, HC8.out⟩
    · refine step_pureO hs (wants_none rfl) rfl fun L u W hG hdep => ⟨_, ?_, rfl⟩
      have e0 := (show u 0 = .int .i64 0 from hG 0 (hdep 0 (by kernel_rfl)))
      go_simp
      try simp [bne]
  intro L7 u7 W7 hall hJ hG
  have hb := hJ.all rfl
  have hbel := Below.call hbel hb
  have hm7 := hm7.later hb
  have hm9 := hm9.later hb
  have ht7 := there_later ht7 hb
  have ht9 := there_later ht9 hb
  have HC33 := Lib.hid (show u7 1 = .bool false from hG 1 (by simp))
  have hbel0 := hbel
  clear hJ hG hall hb
  have hx : u7 1 = .bool false := HC33.out
  go_wp2_with fail
  rw [hx]
  clear hx
  go_upto_region 9 with fail
  refine wp_region_turn (fun u => #[v0, v1, v2, undef, undef, undef, u0 0, u1 5, u 8, u6 6, u 6, undef, u1 2, u1 0, u1 1, u1 3, u1 4, u2 0, u2 1, u2 2, u2 3, u2 4, .bool false, u4 0, u4 1, .bool false, u6 3, u6 0, u6 1, u6 2, u6 4, u6 5, u7 0, .bool false, u 3, u 0, u 1, u 2, u 4, u 5, undef, undef, undef, undef, undef, undef, undef, undef, undef, undef, undef, undef, undef, undef, undef, undef, undef, undef, undef]) (Holds [.wld (IsB sig) (some 1), .wld (IsB (sig.drop 32)) (some 2), .oth (fun v => IsTV rS v [s] (.int .i64 0)), .oth (fun v => IsTV rS v [s] (.int .i64 0)), .val rS [s], .oth (fun v => v = .int .i64 0), .new 4, .st 6 rS [s], .oth (fun v => v = .int .i64 0)] W7) (Keep [.wld (IsB sig) (some 1), .wld (IsB (sig.drop 32)) (some 2), .oth (fun v => IsTV rS v [s] (.int .i64 0)), .oth (fun v => IsTV rS v [s] (.int .i64 0)), .val rS [s], .oth (fun v => v = .int .i64 0), .new 4, .st 6 rS [s], .oth (fun v => v = .int .i64 0)] W7) (fun k => ((undef :: undef :: undef :: undef :: undef :: undef :: undef :: undef :: u6 8 :: []) : List Value).getD k undef) ?_ (by rfl) Keep.start (holds_soft (by kernel_rfl)) ?_ ?_
  · intro u i v h
    rcases i with _ | _ | _ | _ | _ | _ | _ | _ | _ | i
    all_goals first | (simp [Act.put, putV]; done) | (exfalso; simp at h; omega)
  · intro hs
    refine ⟨?_, ?_, ?_, ?_, ?_, ?_, ?_, ?_, ?_, trivial⟩
    · exact step_runP hs (wants_none rfl) rfl fun L u W hJ hG hL hdep => run_moveP (.inl rfl) ((IsB sig).st _ _ _ hsg (Below.call hbel (hJ.all rfl)))
    · exact step_runP hs (wants_none rfl) rfl fun L u W hJ hG hL hdep => run_fromP (k := 32) rfl rfl (holds_wld (φ := IsB sig) (hG 0 (hdep 0 (by kernel_rfl))) rfl (till_some hL)) (by rw [KN.out]; omega)
    · refine step_callO hs (wants_none rfl) rfl fun L u W hJ hG hL hdep K hK => ?_
      go_simp
      go_at_call 23
      (with_reducible refine (gStrict KS.out KSC.out (holds_wld (φ := IsB (sig.drop 32)) (hG 1 (hdep 1 (by kernel_rfl))) rfl (till_some hL))).mono ?_); rintro e w1 ⟨r, rfl, hr, hb⟩
      have hk := hK.out _ _ ⟨r, rfl, hr⟩ hb
      exact hk
    · exact step_pureO hs (wants_none rfl) rfl fun L u W hG hdep => ⟨_, run_move rfl, (show IsTV rS (u 2) [s] (.int .i64 0) from hG 2 (hdep 2 (by kernel_rfl)))⟩
    · exact step_pure hs (wants_none rfl) rfl fun L u W hG hdep => run_extractV0 rfl (show IsTV rS (u 3) [s] (.int .i64 0) from hG 3 (hdep 3 (by kernel_rfl)))
    · exact step_pureO hs (wants_none rfl) rfl fun L u W hG hdep => run_extractV1 rfl (show IsTV rS (u 3) [s] (.int .i64 0) from hG 3 (hdep 3 (by kernel_rfl)))
    · exact step_alloc hs (wants_none rfl) rfl rfl (by omega) rfl allocS
    · exact step_store 6 hs (by kernel_rfl) (wants_none rfl) rfl rfl rfl (by kernel_rfl) (by kernel_rfl) (by kernel_rfl) (by kernel_rfl) (fun _ => rfl) (gives_op 4 rfl (by kernel_rfl) (fun _ => rfl)) tyS rfl
    · exact step_pureO hs (wants_none rfl) rfl fun L u W hG hdep => ⟨_, run_assign rfl, (show u 5 = .int .i64 0 from hG 5 (hdep 5 (by kernel_rfl)))⟩
  intro L9 u9 W9 hall hJ hG
  obtain ⟨q10, e10, hq10, _, ht10⟩ := (show ∃ g, u9 6 = .pointer (some ⟨g, 0, none⟩) ∧ W7.heap.size ≤ g ∧ 0 < 4 ∧ W9.there g 0 4 from hG 6 (by simp))
  have hm10 : HasFs rS W9 q10 0 [s] := by
    obtain ⟨g, e, _, h⟩ := (show ∃ g, u9 6 = .pointer (some ⟨g, 0, none⟩) ∧ W7.heap.size ≤ g ∧ HasFs rS W9 g 0 [s] from hG 7 (by simp))
    rw [e10] at e; cases e; exact h
  have HD10_q7 := Lib.hid (show q7 ≠ q10 by have := there_lt ht7 (by omega); omega)
  have HD10_q9 := Lib.hid (show q9 ≠ q10 by have := there_lt ht9 (by omega); omega)
  have hq10 : w.heap.size ≤ q10 := by have := hbel0.size; omega
  have E10 := Lib.hid e10; clear e10
  have hb := hJ.all rfl
  have hbel := Below.call hbel hb
  have hm7 := hm7.later hb
  have hm9 := hm9.later hb
  have ht7 := there_later ht7 hb
  have ht9 := there_later ht9 hb
  have HC8 := Lib.hid (show u9 8 = .int .i64 0 from hG 8 (by simp))
  have hbel0 := hbel
  clear hJ hG hall hb
  go_upto_region 10 with fail
  refine wp_region_turn (fun u => #[v0, v1, v2, undef, undef, undef, u0 0, u1 5, u9 8, u6 6, u9 6, undef, u1 2, u1 0, u1 1, u1 3, u1 4, u2 0, u2 1, u2 2, u2 3, u2 4, .bool false, u4 0, u4 1, .bool false, u6 3, u6 0, u6 1, u6 2, u6 4, u6 5, u7 0, .bool false, u9 3, u9 0, u9 1, u9 2, u9 4, u9 5, u 0, u 1, undef, undef, undef, undef, undef, undef, undef, undef, undef, undef, undef, undef, undef, undef, undef, undef, undef]) (Holds [.oth (fun v => v = .int .i64 0), .oth (fun v => v = .bool false)] W9) (Keep [.oth (fun v => v = .int .i64 0), .oth (fun v => v = .bool false)] W9) (fun _ => undef) ?_ (by rfl) Keep.start (holds_soft (by kernel_rfl)) ?_ ?_
  · intro u i v h
    rcases i with _ | _ | i
    all_goals first | (simp [Act.put, putV]; done) | (exfalso; simp at h; omega)
  · intro hs
    refine ⟨?_, ?_, trivial⟩
    · exact step_pureO hs (wants_none rfl) rfl fun L u W hG hdep => ⟨_, run_move rfl, HC8.out⟩
    · refine step_pureO hs (wants_none rfl) rfl fun L u W hG hdep => ⟨_, ?_, rfl⟩
      have e0 := (show u 0 = .int .i64 0 from hG 0 (hdep 0 (by kernel_rfl)))
      go_simp
      try simp [bne]
  intro L10 u10 W10 hall hJ hG
  have hb := hJ.all rfl
  have hbel := Below.call hbel hb
  have hm7 := hm7.later hb
  have hm9 := hm9.later hb
  have hm10 := hm10.later hb
  have ht7 := there_later ht7 hb
  have ht9 := there_later ht9 hb
  have ht10 := there_later ht10 hb
  have HC41 := Lib.hid (show u10 1 = .bool false from hG 1 (by simp))
  have hbel0 := hbel
  clear hJ hG hall hb
  have hx : u10 1 = .bool false := HC41.out
  go_wp2_with fail
  rw [hx]
  clear hx
  go_upto_region 12 with fail
  refine wp_region_mid (fun u => #[v0, v1, v2, undef, undef, undef, u0 0, u1 5, u9 8, u6 6, u9 6, u 7, u1 2, u1 0, u1 1, u1 3, u1 4, u2 0, u2 1, u2 2, u2 3, u2 4, .bool false, u4 0, u4 1, .bool false, u6 3, u6 0, u6 1, u6 2, u6 4, u6 5, u7 0, .bool false, u9 3, u9 0, u9 1, u9 2, u9 4, u9 5, u10 0, .bool false, u 0, u 1, u 2, u 3, u 4, u 5, u 6, undef, undef, undef, undef, undef, undef, undef, undef, undef, undef]) (Holds [.wld (IsB sig) (some 1), .wld (IsB (sig.take 32)) (some 5), .wld (IsB pub) (some 5), .wld (IsR ls) (some 4), .wld (IsB l) (some 5), .wld (IsR [sig.take 32, pub, l]) (some 6), .val rS [wS (sha512 ((sig.take 32) ++ (pub ++ l)))], .new 4, .st 7 rS [wS (sha512 ((sig.take 32) ++ (pub ++ l)))]] W10) (Keep [.wld (IsB sig) (some 1), .wld (IsB (sig.take 32)) (some 5), .wld (IsB pub) (some 5), .wld (IsR ls) (some 4), .wld (IsB l) (some 5), .wld (IsR [sig.take 32, pub, l]) (some 6), .val rS [wS (sha512 ((sig.take 32) ++ (pub ++ l)))], .new 4, .st 7 rS [wS (sha512 ((sig.take 32) ++ (pub ++ l)))]] W10) (fun _ => undef) (by kernel_rfl) (by kernel_rfl) ?_ (by rfl) Keep.drew (holds_soft (by kernel_rfl)) ?_ ?_
  · intro u i v h
    rcases i with _ | _ | _ | _ | _ | _ | _ | _ | _ | i
    all_goals first | (simp [Act.put, putV]; done) | (exfalso; simp at h; omega)
  · intro hs
    refine ⟨?_, ?_, ?_, ?_, ?_, ?_, ?_, ?_, ?_, trivial⟩
    · exact step_runP hs (wants_none rfl) rfl fun L u W hJ hG hL hdep => run_moveP (.inl rfl) ((IsB sig).st _ _ _ hsg (Below.call hbel (hJ.all rfl)))
    · exact step_runP hs (wants_none rfl) rfl fun L u W hJ hG hL hdep => run_toP (k := 32) rfl rfl (holds_wld (φ := IsB sig) (hG 0 (hdep 0 (by kernel_rfl))) rfl (till_some hL)) (by rw [KN.out]; omega)
    · exact step_runP hs (wants_none rfl) rfl fun L u W hJ hG hL hdep => run_moveP (.inl rfl) ((IsB pub).st _ _ _ hp (Below.call hbel (hJ.all rfl)))
    · exact step_runP hs (wants_none rfl) rfl fun L u W hJ hG hL hdep => run_moveP (.inl rfl) ((IsR ls).st _ _ _ h1 (Below.call hbel (hJ.all rfl)))
    · refine step_callP hs (wants_none rfl) rfl fun L u W hJ hG hL hdep K hK => ?_
      go_simp
      go_at_call 25
      (with_reducible refine (gCat (l := l) (holds_wld (φ := IsR ls) (hG 3 (hdep 3 (by kernel_rfl))) rfl (till_some hL)) (HL.out) (by have := HM.out; omega)).mono ?_); rintro e w1 ⟨r, rfl, hr, hb⟩
      have hk := hK.out _ _ hr hb
      exact hk
    · exact step_runP hs (wants_none rfl) rfl fun L u W hJ hG hL hdep => run_rows3 rfl (holds_wld (φ := IsB (sig.take 32)) (hG 1 (hdep 1 (by kernel_rfl))) rfl (till_some hL)) (holds_wld (φ := IsB pub) (hG 2 (hdep 2 (by kernel_rfl))) rfl (till_some hL)) (holds_wld (φ := IsB l) (hG 4 (hdep 4 (by kernel_rfl))) rfl (till_some hL))
    · refine step_call hs (wants_none rfl) rfl fun L u W hJ hG hL hdep K hK => ?_
      go_simp
      go_at_call 24
      (with_reducible refine (gHash (l := ((sig.take 32) ++ (pub ++ l))) (holds_wld (φ := IsR [sig.take 32, pub, l]) (hG 5 (hdep 5 (by kernel_rfl))) rfl (till_some hL)) (by simp) (by have := HM.out; (repeat rw [List.length_append]); (try rw [List.length_take]); (try rw [KN.out]); (try rw [KL.out]); omega)).mono ?_); rintro e w1 ⟨r, rfl, hr, hb⟩
      have hk := hK.out _ _ hr hb
      exact hk
    · exact step_alloc hs (wants_none rfl) rfl rfl (by omega) rfl allocS
    · exact step_store 7 hs (by kernel_rfl) (wants_none rfl) rfl rfl rfl (by kernel_rfl) (by kernel_rfl) (by kernel_rfl) (by kernel_rfl) (fun _ => rfl) (gives_op 6 rfl (by kernel_rfl) (fun _ => rfl)) tyS rfl
  intro L12 u12 W12 hall hJ hG
  obtain ⟨q11, e11, hq11, _, ht11⟩ := (show ∃ g, u12 7 = .pointer (some ⟨g, 0, none⟩) ∧ W10.heap.size ≤ g ∧ 0 < 4 ∧ W12.there g 0 4 from hG 7 (by simp))
  have hm11 : HasFs rS W12 q11 0 [wS (sha512 ((sig.take 32) ++ (pub ++ l)))] := by
    obtain ⟨g, e, _, h⟩ := (show ∃ g, u12 7 = .pointer (some ⟨g, 0, none⟩) ∧ W10.heap.size ≤ g ∧ HasFs rS W12 g 0 [wS (sha512 ((sig.take 32) ++ (pub ++ l)))] from hG 8 (by simp))
    rw [e11] at e; cases e; exact h
  have HD11_q7 := Lib.hid (show q7 ≠ q11 by have := there_lt ht7 (by omega); omega)
  have HD11_q9 := Lib.hid (show q9 ≠ q11 by have := there_lt ht9 (by omega); omega)
  have HD11_q10 := Lib.hid (show q10 ≠ q11 by have := there_lt ht10 (by omega); omega)
  have hq11 : w.heap.size ≤ q11 := by have := hbel0.size; omega
  have E11 := Lib.hid e11; clear e11
  have hb := hJ.all rfl
  have hbel := Below.call hbel hb
  have hm7 := hm7.later hb
  have hm9 := hm9.later hb
  have hm10 := hm10.later hb
  have ht7 := there_later ht7 hb
  have ht9 := there_later ht9 hb
  have ht10 := there_later ht10 hb
  have hbel0 := hbel
  clear hJ hG hall hb
  go_upto_region 13 with fail
  refine wp_region_mid (fun u => #[v0, v1, v2, undef, undef, undef, u0 0, u1 5, u9 8, u6 6, u9 6, u12 7, u1 2, u1 0, u1 1, u1 3, u1 4, u2 0, u2 1, u2 2, u2 3, u2 4, .bool false, u4 0, u4 1, .bool false, u6 3, u6 0, u6 1, u6 2, u6 4, u6 5, u7 0, .bool false, u9 3, u9 0, u9 1, u9 2, u9 4, u9 5, u10 0, .bool false, u12 0, u12 1, u12 2, u12 3, u12 4, u12 5, u12 6, u 0, u 1, u 2, u 3, u 4, u 5, u 6, u 7, u 8, u 9]) (Holds [.val rP [base], .val rS [s], .val rP [Cp.mul s.val base], .val rP [Rp], .val rP [A], .val rS [wS (sha512 ((sig.take 32) ++ (pub ++ l)))], .val rP [Cp.mul (wS (sha512 ((sig.take 32) ++ (pub ++ l)))).val A], .val rP [Cp.add Rp (Cp.mul (wS (sha512 ((sig.take 32) ++ (pub ++ l)))).val A)], .oth (fun v => v = .bool true), .oth (fun v => v = .bool false)] W12) (Keep [.val rP [base], .val rS [s], .val rP [Cp.mul s.val base], .val rP [Rp], .val rP [A], .val rS [wS (sha512 ((sig.take 32) ++ (pub ++ l)))], .val rP [Cp.mul (wS (sha512 ((sig.take 32) ++ (pub ++ l)))).val A], .val rP [Cp.add Rp (Cp.mul (wS (sha512 ((sig.take 32) ++ (pub ++ l)))).val A)], .oth (fun v => v = .bool true), .oth (fun v => v = .bool false)] W12) (fun _ => undef) (by kernel_rfl) (by kernel_rfl) ?_ (by rfl) Keep.drew (holds_soft (by kernel_rfl)) ?_ ?_
  · intro u i v h
    rcases i with _ | _ | _ | _ | _ | _ | _ | _ | _ | _ | i
    all_goals first | (simp [Act.put, putV]; done) | (exfalso; simp at h; omega)
  · intro hs
    refine ⟨?_, ?_, ?_, ?_, ?_, ?_, ?_, ?_, ?_, ?_, trivial⟩
    · refine step_call hs (wants_none rfl) rfl fun L u W hJ hG hL hdep K hK => ?_
      go_simp
      go_at_call 26
      (with_reducible refine (cBase _).mono ?_); rintro e w1 ⟨r, rfl, hr, hb⟩
      have hk := hK.out _ _ hr hb
      exact hk
    · exact step_load q10 0 hs (wants_none rfl) rfl rfl tyS (fun _ => E10.out) hm10.lt hm10 (noSto_apart (by kernel_rfl))
    · refine step_call hs (wants_none rfl) rfl fun L u W hJ hG hL hdep K hK => ?_
      have a0 := (show IsFs rP (u 0) [base] from hG 0 (hdep 0 (by kernel_rfl)))
      have a1 := (show IsFs rS (u 1) [s] from hG 1 (hdep 1 (by kernel_rfl)))
      go_simp
      go_at_call 27
      (with_reducible refine (cMult rfl a0 a1 _).mono ?_); rintro e w1 ⟨r, rfl, hr, hb⟩
      have hk := hK.out _ _ hr hb
      exact hk
    · exact step_load q9 0 hs (wants_none rfl) rfl rfl tyP (fun _ => E9.out) hm9.lt hm9 (noSto_apart (by kernel_rfl))
    · exact step_load q7 0 hs (wants_none rfl) rfl rfl tyP (fun _ => E7.out) hm7.lt hm7 (noSto_apart (by kernel_rfl))
    · exact step_load q11 0 hs (wants_none rfl) rfl rfl tyS (fun _ => E11.out) hm11.lt hm11 (noSto_apart (by kernel_rfl))
    · refine step_call hs (wants_none rfl) rfl fun L u W hJ hG hL hdep K hK => ?_
      have a0 := (show IsFs rP (u 4) [A] from hG 4 (hdep 4 (by kernel_rfl)))
      have a1 := (show IsFs rS (u 5) [wS (sha512 ((sig.take 32) ++ (pub ++ l)))] from hG 5 (hdep 5 (by kernel_rfl)))
      go_simp
      go_at_call 27
      (with_reducible refine (cMult rfl a0 a1 _).mono ?_); rintro e w1 ⟨r, rfl, hr, hb⟩
      have hk := hK.out _ _ hr hb
      exact hk
    · refine step_call hs (wants_none rfl) rfl fun L u W hJ hG hL hdep K hK => ?_
      have a0 := (show IsFs rP (u 3) [Rp] from hG 3 (hdep 3 (by kernel_rfl)))
      have a1 := (show IsFs rP (u 6) [Cp.mul (wS (sha512 ((sig.take 32) ++ (pub ++ l)))).val A] from hG 6 (hdep 6 (by kernel_rfl)))
      go_simp
      go_at_call 29
      (with_reducible refine (cPAdd a0 a1 _).mono ?_); rintro e w1 ⟨r, rfl, hr, hb⟩
      have hk := hK.out _ _ hr hb
      exact hk
    · refine step_callO hs (wants_none rfl) rfl fun L u W hJ hG hL hdep K hK => ?_
      have a0 := (show IsFs rP (u 2) [Cp.mul s.val base] from hG 2 (hdep 2 (by kernel_rfl)))
      have a1 := (show IsFs rP (u 7) [Cp.add Rp (Cp.mul (wS (sha512 ((sig.take 32) ++ (pub ++ l)))).val A)] from hG 7 (hdep 7 (by kernel_rfl)))
      go_simp
      go_at_call 28
      (with_reducible refine (cPSame (b := true) (KB.out) a0 a1 _).mono ?_); rintro e w1 ⟨rfl, hb⟩
      have hk := hK.out _ _ rfl hb
      exact hk
    · refine step_pureO hs (wants_none rfl) rfl fun L u W hG hdep => ⟨_, ?_, rfl⟩
      have e0 := (show u 8 = .bool true from hG 8 (hdep 8 (by kernel_rfl)))
      go_simp
  intro L13 u13 W13 hall hJ hG
  have hb := hJ.all rfl
  have hbel := Below.call hbel hb
  have hm7 := hm7.later hb
  have hm9 := hm9.later hb
  have hm10 := hm10.later hb
  have hm11 := hm11.later hb
  have ht7 := there_later ht7 hb
  have ht9 := there_later ht9 hb
  have ht10 := there_later ht10 hb
  have ht11 := there_later ht11 hb
  have HC57 := Lib.hid (show u13 8 = .bool true from hG 8 (by simp))
  have HC58 := Lib.hid (show u13 9 = .bool false from hG 9 (by simp))
  have hbel0 := hbel
  clear hJ hG hall hb
  have hx : u13 9 = .bool false := HC58.out
  go_wp2_with fail
  rw [hx]
  clear hx
  go_upto_region 15 with fail
  refine wp_region_turn (fun u => #[v0, v1, v2, undef, undef, undef, u 0, u1 5, u9 8, u6 6, u9 6, u12 7, u1 2, u1 0, u1 1, u1 3, u1 4, u2 0, u2 1, u2 2, u2 3, u2 4, .bool false, u4 0, u4 1, .bool false, u6 3, u6 0, u6 1, u6 2, u6 4, u6 5, u7 0, .bool false, u9 3, u9 0, u9 1, u9 2, u9 4, u9 5, u10 0, .bool false, u12 0, u12 1, u12 2, u12 3, u12 4, u12 5, u12 6, u13 0, u13 1, u13 2, u13 3, u13 4, u13 5, u13 6, u13 7, u13 8, .bool false]) (Holds [.oth (fun v => v = .int .i64 0)] W13) (Keep [.oth (fun v => v = .int .i64 0)] W13) (fun k => ((u0 0 :: []) : List Value).getD k undef) ?_ (by rfl) Keep.start (holds_soft (by kernel_rfl)) ?_ ?_
  · intro u i v h
    rcases i with _ | i
    all_goals first | (simp [Act.put, putV]; done) | (exfalso; simp at h; omega)
  · intro hs
    refine ⟨?_, trivial⟩
    · exact step_pureO hs (wants_none rfl) rfl fun L u W hG hdep => ⟨_, run_assign rfl, rfl⟩
  intro L15 u15 W15 hall hJ hG
  have hb := hJ.all rfl
  have hbel := Below.call hbel hb
  have hm7 := hm7.later hb
  have hm9 := hm9.later hb
  have hm10 := hm10.later hb
  have hm11 := hm11.later hb
  have ht7 := there_later ht7 hb
  have ht9 := there_later ht9 hb
  have ht10 := there_later ht10 hb
  have ht11 := there_later ht11 hb
  have HC6 := Lib.hid (show u15 0 = .int .i64 0 from hG 0 (by simp))
  have hbel0 := hbel
  clear hJ hG hall hb
  go_wp2
  go_ret
  exact ⟨by rw [HC6.out]; rfl, hbel⟩
set_option maxRecDepth 100000 in
set_option maxHeartbeats 1000000 in
theorem ver_false {w : World} {v0 v1 v2 : Value} {pub sig l : List UInt8} {ls : List (List UInt8)} (hp : (IsB pub).P v0 w) (hsg : (IsB sig).P v1 w) (h1 : (IsR ls).P v2 w) (hl : ls.flatten = l) (hm : l.length ≤ 100000) {A : EP} (ka : decV pub = A) (kc : decC pub = 0) (km : decide (Cp.mul 8 A = Cp.zero) = false) (kn : sig.length = 64) {Rp : EP} (kr : decV (sig.take 32) = Rp) (krc : decC (sig.take 32) = 0) {s : F} (ks : ssV (sig.drop 32) = s) (ksc : ssC (sig.drop 32) = 0) (kl : pub.length = 32) (kb : decide (Cp.mul s.val base = Cp.add Rp (Cp.mul (wS (sha512 (sig.take 32 ++ (pub ++ l)))).val A)) = false) :
    Calls Try.prog 12 #[v0, v1, v2] w fun e w' => e = .returned (.int .i64 3) ∧ Below w.heap.size w w' := by
  have HL := Lib.hid hl; have HM := Lib.hid hm
  clear hl hm
  have KA := Lib.hid ka; clear ka
  have KC := Lib.hid kc; clear kc
  have KM := Lib.hid km; clear km
  have KN := Lib.hid kn; clear kn
  have KR := Lib.hid kr; clear kr
  have KRC := Lib.hid krc; clear krc
  have KS := Lib.hid ks; clear ks
  have KSC := Lib.hid ksc; clear ksc
  have KL := Lib.hid kl; clear kl
  have KB := Lib.hid kb; clear kb
  go_enter Try.func12, Try.ntmps12
  have hbel : Below w.heap.size w w := Below.refl _ _
  have hbel0 := hbel
  go_upto_region 0 with fail
  refine wp_region_turn (fun u => #[v0, v1, v2, undef, undef, undef, u 0, undef, undef, undef, undef, undef, undef, undef, undef, undef, undef, undef, undef, undef, undef, undef, undef, undef, undef, undef, undef, undef, undef, undef, undef, undef, undef, undef, undef, undef, undef, undef, undef, undef, undef, undef, undef, undef, undef, undef, undef, undef, undef, undef, undef, undef, undef, undef, undef, undef, undef, undef, undef]) (Holds [.oth (fun v => v = .int .i64 0)] w) (Keep [.oth (fun v => v = .int .i64 0)] w) (fun _ => undef) ?_ (by rfl) Keep.start (holds_soft (by kernel_rfl)) ?_ ?_
  · intro u i v h
    rcases i with _ | i
    all_goals first | (simp [Act.put, putV]; done) | (exfalso; simp at h; omega)
  · intro hs
    refine ⟨?_, trivial⟩
    · exact step_pureO hs (wants_none rfl) rfl fun L u W hG hdep => ⟨_, run_assign rfl, rfl⟩
  intro L0 u0 W0 hall hJ hG
  have hb := hJ.all rfl
  have hbel := Below.call hbel hb
  have HC6 := Lib.hid (show u0 0 = .int .i64 0 from hG 0 (by simp))
  have hbel0 := hbel
  clear hJ hG hall hb
  go_upto_region 1 with fail
  refine wp_region_turn (fun u => #[v0, v1, v2, undef, undef, undef, u0 0, u 5, u 7, undef, undef, undef, u 2, u 0, u 1, u 3, u 4, undef, undef, undef, undef, undef, undef, undef, undef, undef, undef, undef, undef, undef, undef, undef, undef, undef, undef, undef, undef, undef, undef, undef, undef, undef, undef, undef, undef, undef, undef, undef, undef, undef, undef, undef, undef, undef, undef, undef, undef, undef, undef]) (Holds [.wld (IsB pub) (some 1), .oth (fun v => IsTV rP v [A] (.int .i64 0)), .oth (fun v => IsTV rP v [A] (.int .i64 0)), .val rP [A], .oth (fun v => v = .int .i64 0), .new 20, .st 5 rP [A], .oth (fun v => v = .int .i64 0)] W0) (Keep [.wld (IsB pub) (some 1), .oth (fun v => IsTV rP v [A] (.int .i64 0)), .oth (fun v => IsTV rP v [A] (.int .i64 0)), .val rP [A], .oth (fun v => v = .int .i64 0), .new 20, .st 5 rP [A], .oth (fun v => v = .int .i64 0)] W0) (fun _ => undef) ?_ (by rfl) Keep.start (holds_soft (by kernel_rfl)) ?_ ?_
  · intro u i v h
    rcases i with _ | _ | _ | _ | _ | _ | _ | _ | i
    all_goals first | (simp [Act.put, putV]; done) | (exfalso; simp at h; omega)
  · intro hs
    refine ⟨?_, ?_, ?_, ?_, ?_, ?_, ?_, ?_, trivial⟩
    · exact step_runP hs (wants_none rfl) rfl fun L u W hJ hG hL hdep => run_moveP (.inl rfl) ((IsB pub).st _ _ _ hp (Below.call hbel (hJ.all rfl)))
    · refine step_callO hs (wants_none rfl) rfl fun L u W hJ hG hL hdep K hK => ?_
      go_simp
      go_at_call 21
      (with_reducible refine (gDecode KA.out KC.out (holds_wld (φ := IsB pub) (hG 0 (hdep 0 (by kernel_rfl))) rfl (till_some hL))).mono ?_); rintro e w1 ⟨r, rfl, hr, hb⟩
      have hk := hK.out _ _ ⟨r, rfl, hr⟩ hb
      exact hk
    · exact step_pureO hs (wants_none rfl) rfl fun L u W hG hdep => ⟨_, run_move rfl, (show IsTV rP (u 1) [A] (.int .i64 0) from hG 1 (hdep 1 (by kernel_rfl)))⟩
    · exact step_pure hs (wants_none rfl) rfl fun L u W hG hdep => run_extractV0 rfl (show IsTV rP (u 2) [A] (.int .i64 0) from hG 2 (hdep 2 (by kernel_rfl)))
    · exact step_pureO hs (wants_none rfl) rfl fun L u W hG hdep => run_extractV1 rfl (show IsTV rP (u 2) [A] (.int .i64 0) from hG 2 (hdep 2 (by kernel_rfl)))
    · exact step_alloc hs (wants_none rfl) rfl rfl (by omega) rfl allocP
    · exact step_store 5 hs (by kernel_rfl) (wants_none rfl) rfl rfl rfl (by kernel_rfl) (by kernel_rfl) (by kernel_rfl) (by kernel_rfl) (fun _ => rfl) (gives_op 3 rfl (by kernel_rfl) (fun _ => rfl)) tyP rfl
    · exact step_pureO hs (wants_none rfl) rfl fun L u W hG hdep => ⟨_, run_assign rfl, (show u 4 = .int .i64 0 from hG 4 (hdep 4 (by kernel_rfl)))⟩
  intro L1 u1 W1 hall hJ hG
  obtain ⟨q7, e7, hq7, _, ht7⟩ := (show ∃ g, u1 5 = .pointer (some ⟨g, 0, none⟩) ∧ W0.heap.size ≤ g ∧ 0 < 20 ∧ W1.there g 0 20 from hG 5 (by simp))
  have hm7 : HasFs rP W1 q7 0 [A] := by
    obtain ⟨g, e, _, h⟩ := (show ∃ g, u1 5 = .pointer (some ⟨g, 0, none⟩) ∧ W0.heap.size ≤ g ∧ HasFs rP W1 g 0 [A] from hG 6 (by simp))
    rw [e7] at e; cases e; exact h
  have hq7 : w.heap.size ≤ q7 := by have := hbel0.size; omega
  have E7 := Lib.hid e7; clear e7
  have hb := hJ.all rfl
  have hbel := Below.call hbel hb
  have HC8 := Lib.hid (show u1 7 = .int .i64 0 from hG 7 (by simp))
  have hbel0 := hbel
  clear hJ hG hall hb
  go_upto_region 2 with fail
  refine wp_region_turn (fun u => #[v0, v1, v2, undef, undef, undef, u0 0, u1 5, u1 7, undef, undef, undef, u1 2, u1 0, u1 1, u1 3, u1 4, u 0, u 1, u 2, u 3, u 4, u 5, undef, undef, undef, undef, undef, undef, undef, undef, undef, undef, undef, undef, undef, undef, undef, undef, undef, undef, undef, undef, undef, undef, undef, undef, undef, undef, undef, undef, undef, undef, undef, undef, undef, undef, undef, undef]) (Holds [.oth (fun v => v = .int .i64 0), .oth (fun v => v = .bool false), .oth (fun v => v = .bool false), .val rP [A], .oth (fun v => v = .bool false), .oth (fun v => v = .bool false)] W1) (Keep [.oth (fun v => v = .int .i64 0), .oth (fun v => v = .bool false), .oth (fun v => v = .bool false), .val rP [A], .oth (fun v => v = .bool false), .oth (fun v => v = .bool false)] W1) (fun _ => undef) ?_ (by rfl) Keep.start (holds_soft (by kernel_rfl)) ?_ ?_
  · intro u i v h
    rcases i with _ | _ | _ | _ | _ | _ | i
    all_goals first | (simp [Act.put, putV]; done) | (exfalso; simp at h; omega)
  · intro hs
    refine ⟨?_, ?_, ?_, ?_, ?_, ?_, trivial⟩
    · exact step_pureO hs (wants_none rfl) rfl fun L u W hG hdep => ⟨_, run_move rfl, HC8.out⟩
    · refine step_pureO hs (wants_none rfl) rfl fun L u W hG hdep => ⟨_, ?_, rfl⟩
      have e0 := (show u 0 = .int .i64 0 from hG 0 (hdep 0 (by kernel_rfl)))
      go_simp
      try simp [bne]
    · exact step_pureO hs (wants_none rfl) rfl fun L u W hG hdep => ⟨_, run_move rfl, (show u 1 = .bool false from hG 1 (hdep 1 (by kernel_rfl)))⟩
    · exact step_load q7 0 hs (wants_on 2 rfl rfl (by kernel_rfl) (fun _ => rfl)) rfl rfl tyP (fun _ => E7.out) hm7.lt hm7 (noSto_apart (by kernel_rfl))
    · refine step_callO hs (wants_on 2 rfl rfl (by kernel_rfl) (fun _ => rfl)) rfl fun L u W hJ hG hL hdep K hK => ?_
      have a0 := (show IsFs rP (u 3) [A] from hG 3 (hdep 3 (by kernel_rfl)))
      go_simp
      go_at_call 22
      (with_reducible refine (cPSmall (b := false) (KM.out) a0 _).mono ?_); rintro e w1 ⟨rfl, hb⟩
      have hk := hK.out _ _ rfl hb
      exact hk
    · exact step_pick false hs (wants_none rfl) rfl rfl (fun L u W hG hdep => (show u 2 = .bool false from hG 2 (hdep 2 (by kernel_rfl)))) (fun L u W hG hdep => (show u 4 = .bool false from hG 4 (hdep 4 (by kernel_rfl))))
  intro L2 u2 W2 hall hJ hG
  have hb := hJ.all rfl
  have hbel := Below.call hbel hb
  have hm7 := hm7.later hb
  have ht7 := there_later ht7 hb
  have HC18 := Lib.hid (show u2 1 = .bool false from hG 1 (by simp))
  have HC19 := Lib.hid (show u2 2 = .bool false from hG 2 (by simp))
  have HC21 := Lib.hid (show u2 4 = .bool false from hG 4 (by simp))
  have HC22 := Lib.hid (show u2 5 = .bool false from hG 5 (by simp))
  have hbel0 := hbel
  clear hJ hG hall hb
  have hx : u2 5 = .bool false := HC22.out
  go_wp2_with fail
  rw [hx]
  clear hx
  go_upto_region 4 with fail
  refine wp_region_turn (fun u => #[v0, v1, v2, undef, undef, undef, u0 0, u1 5, u1 7, undef, undef, undef, u1 2, u1 0, u1 1, u1 3, u1 4, u2 0, u2 1, u2 2, u2 3, u2 4, .bool false, u 0, u 1, u 2, undef, undef, undef, undef, undef, undef, undef, undef, undef, undef, undef, undef, undef, undef, undef, undef, undef, undef, undef, undef, undef, undef, undef, undef, undef, undef, undef, undef, undef, undef, undef, undef, undef]) (Holds [.wld (IsB sig) none, .oth (fun v => v = .int .i64 64), .oth (fun v => v = .bool false)] W2) (Keep [.wld (IsB sig) none, .oth (fun v => v = .int .i64 64), .oth (fun v => v = .bool false)] W2) (fun _ => undef) ?_ (by rfl) Keep.start (holds_soft (by kernel_rfl)) ?_ ?_
  · intro u i v h
    rcases i with _ | _ | _ | i
    all_goals first | (simp [Act.put, putV]; done) | (exfalso; simp at h; omega)
  · intro hs
    refine ⟨?_, ?_, ?_, trivial⟩
    · exact step_runP hs (wants_none rfl) rfl fun L u W hJ hG hL hdep => run_moveP (.inl rfl) ((IsB sig).st _ _ _ hsg (Below.call hbel (hJ.all rfl)))
    · exact step_runO hs (wants_none rfl) rfl fun L u W hJ hG hL hdep => run_lenP rfl (holds_wld (φ := IsB sig) (hG 0 (hdep 0 (by kernel_rfl))) rfl till_none) (by rw [KN.out]; rfl)
    · refine step_pureO hs (wants_none rfl) rfl fun L u W hG hdep => ⟨_, ?_, rfl⟩
      have e0 := (show u 1 = .int .i64 64 from hG 1 (hdep 1 (by kernel_rfl)))
      go_simp
      try simp [bne]
  intro L4 u4 W4 hall hJ hG
  have hb := hJ.all rfl
  have hbel := Below.call hbel hb
  have hm7 := hm7.later hb
  have ht7 := there_later ht7 hb
  have HC25 := Lib.hid (show u4 2 = .bool false from hG 2 (by simp))
  have hbel0 := hbel
  clear hJ hG hall hb
  have hx : u4 2 = .bool false := HC25.out
  go_wp2_with fail
  rw [hx]
  clear hx
  go_upto_region 6 with fail
  refine wp_region_turn (fun u => #[v0, v1, v2, undef, undef, undef, u0 0, u1 5, u 8, u 6, undef, undef, u1 2, u1 0, u1 1, u1 3, u1 4, u2 0, u2 1, u2 2, u2 3, u2 4, .bool false, u4 0, u4 1, .bool false, u 3, u 0, u 1, u 2, u 4, u 5, undef, undef, undef, undef, undef, undef, undef, undef, undef, undef, undef, undef, undef, undef, undef, undef, undef, undef, undef, undef, undef, undef, undef, undef, undef, undef, undef]) (Holds [.wld (IsB sig) (some 1), .wld (IsB (sig.take 32)) (some 2), .oth (fun v => IsTV rP v [Rp] (.int .i64 0)), .oth (fun v => IsTV rP v [Rp] (.int .i64 0)), .val rP [Rp], .oth (fun v => v = .int .i64 0), .new 20, .st 6 rP [Rp], .oth (fun v => v = .int .i64 0)] W4) (Keep [.wld (IsB sig) (some 1), .wld (IsB (sig.take 32)) (some 2), .oth (fun v => IsTV rP v [Rp] (.int .i64 0)), .oth (fun v => IsTV rP v [Rp] (.int .i64 0)), .val rP [Rp], .oth (fun v => v = .int .i64 0), .new 20, .st 6 rP [Rp], .oth (fun v => v = .int .i64 0)] W4) (fun k => ((undef :: undef :: undef :: undef :: undef :: undef :: undef :: undef :: u1 7 :: []) : List Value).getD k undef) ?_ (by rfl) Keep.start (holds_soft (by kernel_rfl)) ?_ ?_
  · intro u i v h
    rcases i with _ | _ | _ | _ | _ | _ | _ | _ | _ | i
    all_goals first | (simp [Act.put, putV]; done) | (exfalso; simp at h; omega)
  · intro hs
    refine ⟨?_, ?_, ?_, ?_, ?_, ?_, ?_, ?_, ?_, trivial⟩
    · exact step_runP hs (wants_none rfl) rfl fun L u W hJ hG hL hdep => run_moveP (.inl rfl) ((IsB sig).st _ _ _ hsg (Below.call hbel (hJ.all rfl)))
    · exact step_runP hs (wants_none rfl) rfl fun L u W hJ hG hL hdep => run_toP (k := 32) rfl rfl (holds_wld (φ := IsB sig) (hG 0 (hdep 0 (by kernel_rfl))) rfl (till_some hL)) (by rw [KN.out]; omega)
    · refine step_callO hs (wants_none rfl) rfl fun L u W hJ hG hL hdep K hK => ?_
      go_simp
      go_at_call 21
      (with_reducible refine (gDecode KR.out KRC.out (holds_wld (φ := IsB (sig.take 32)) (hG 1 (hdep 1 (by kernel_rfl))) rfl (till_some hL))).mono ?_); rintro e w1 ⟨r, rfl, hr, hb⟩
      have hk := hK.out _ _ ⟨r, rfl, hr⟩ hb
      exact hk
    · exact step_pureO hs (wants_none rfl) rfl fun L u W hG hdep => ⟨_, run_move rfl, (show IsTV rP (u 2) [Rp] (.int .i64 0) from hG 2 (hdep 2 (by kernel_rfl)))⟩
    · exact step_pure hs (wants_none rfl) rfl fun L u W hG hdep => run_extractV0 rfl (show IsTV rP (u 3) [Rp] (.int .i64 0) from hG 3 (hdep 3 (by kernel_rfl)))
    · exact step_pureO hs (wants_none rfl) rfl fun L u W hG hdep => run_extractV1 rfl (show IsTV rP (u 3) [Rp] (.int .i64 0) from hG 3 (hdep 3 (by kernel_rfl)))
    · exact step_alloc hs (wants_none rfl) rfl rfl (by omega) rfl allocP
    · exact step_store 6 hs (by kernel_rfl) (wants_none rfl) rfl rfl rfl (by kernel_rfl) (by kernel_rfl) (by kernel_rfl) (by kernel_rfl) (fun _ => rfl) (gives_op 4 rfl (by kernel_rfl) (fun _ => rfl)) tyP rfl
    · exact step_pureO hs (wants_none rfl) rfl fun L u W hG hdep => ⟨_, run_assign rfl, (show u 5 = .int .i64 0 from hG 5 (hdep 5 (by kernel_rfl)))⟩
  intro L6 u6 W6 hall hJ hG
  obtain ⟨q9, e9, hq9, _, ht9⟩ := (show ∃ g, u6 6 = .pointer (some ⟨g, 0, none⟩) ∧ W4.heap.size ≤ g ∧ 0 < 20 ∧ W6.there g 0 20 from hG 6 (by simp))
  have hm9 : HasFs rP W6 q9 0 [Rp] := by
    obtain ⟨g, e, _, h⟩ := (show ∃ g, u6 6 = .pointer (some ⟨g, 0, none⟩) ∧ W4.heap.size ≤ g ∧ HasFs rP W6 g 0 [Rp] from hG 7 (by simp))
    rw [e9] at e; cases e; exact h
  have HD9_q7 := Lib.hid (show q7 ≠ q9 by have := there_lt ht7 (by omega); omega)
  have hq9 : w.heap.size ≤ q9 := by have := hbel0.size; omega
  have E9 := Lib.hid e9; clear e9
  have hb := hJ.all rfl
  have hbel := Below.call hbel hb
  have hm7 := hm7.later hb
  have ht7 := there_later ht7 hb
  have HC8 := Lib.hid (show u6 8 = .int .i64 0 from hG 8 (by simp))
  have hbel0 := hbel
  clear hJ hG hall hb
  go_upto_region 7 with fail
  refine wp_region_turn (fun u => #[v0, v1, v2, undef, undef, undef, u0 0, u1 5, u6 8, u6 6, undef, undef, u1 2, u1 0, u1 1, u1 3, u1 4, u2 0, u2 1, u2 2, u2 3, u2 4, .bool false, u4 0, u4 1, .bool false, u6 3, u6 0, u6 1, u6 2, u6 4, u6 5, u 0, u 1, undef, undef, undef, undef, undef, undef, undef, undef, undef, undef, undef, undef, undef, undef, undef, undef, undef, undef, undef, undef, undef, undef, undef, undef, undef]) (Holds [.oth (fun v => v = .int .i64 0), .oth (fun v => v = .bool false)] W6) (Keep [.oth (fun v => v = .int .i64 0), .oth (fun v => v = .bool false)] W6) (fun _ => undef) ?_ (by rfl) Keep.start (holds_soft (by kernel_rfl)) ?_ ?_
  · intro u i v h
    rcases i with _ | _ | i
    all_goals first | (simp [Act.put, putV]; done) | (exfalso; simp at h; omega)
  · intro hs
    refine ⟨?_, ?_, trivial⟩
    · exact step_pureO hs (wants_none rfl) rfl fun L u W hG hdep => ⟨_, run_move rfl, HC8.out⟩
    · refine step_pureO hs (wants_none rfl) rfl fun L u W hG hdep => ⟨_, ?_, rfl⟩
      have e0 := (show u 0 = .int .i64 0 from hG 0 (hdep 0 (by kernel_rfl)))
      go_simp
      try simp [bne]
  intro L7 u7 W7 hall hJ hG
  have hb := hJ.all rfl
  have hbel := Below.call hbel hb
  have hm7 := hm7.later hb
  have hm9 := hm9.later hb
  have ht7 := there_later ht7 hb
  have ht9 := there_later ht9 hb
  have HC33 := Lib.hid (show u7 1 = .bool false from hG 1 (by simp))
  have hbel0 := hbel
  clear hJ hG hall hb
  have hx : u7 1 = .bool false := HC33.out
  go_wp2_with fail
  rw [hx]
  clear hx
  go_upto_region 9 with fail
  refine wp_region_turn (fun u => #[v0, v1, v2, undef, undef, undef, u0 0, u1 5, u 8, u6 6, u 6, undef, u1 2, u1 0, u1 1, u1 3, u1 4, u2 0, u2 1, u2 2, u2 3, u2 4, .bool false, u4 0, u4 1, .bool false, u6 3, u6 0, u6 1, u6 2, u6 4, u6 5, u7 0, .bool false, u 3, u 0, u 1, u 2, u 4, u 5, undef, undef, undef, undef, undef, undef, undef, undef, undef, undef, undef, undef, undef, undef, undef, undef, undef, undef, undef]) (Holds [.wld (IsB sig) (some 1), .wld (IsB (sig.drop 32)) (some 2), .oth (fun v => IsTV rS v [s] (.int .i64 0)), .oth (fun v => IsTV rS v [s] (.int .i64 0)), .val rS [s], .oth (fun v => v = .int .i64 0), .new 4, .st 6 rS [s], .oth (fun v => v = .int .i64 0)] W7) (Keep [.wld (IsB sig) (some 1), .wld (IsB (sig.drop 32)) (some 2), .oth (fun v => IsTV rS v [s] (.int .i64 0)), .oth (fun v => IsTV rS v [s] (.int .i64 0)), .val rS [s], .oth (fun v => v = .int .i64 0), .new 4, .st 6 rS [s], .oth (fun v => v = .int .i64 0)] W7) (fun k => ((undef :: undef :: undef :: undef :: undef :: undef :: undef :: undef :: u6 8 :: []) : List Value).getD k undef) ?_ (by rfl) Keep.start (holds_soft (by kernel_rfl)) ?_ ?_
  · intro u i v h
    rcases i with _ | _ | _ | _ | _ | _ | _ | _ | _ | i
    all_goals first | (simp [Act.put, putV]; done) | (exfalso; simp at h; omega)
  · intro hs
    refine ⟨?_, ?_, ?_, ?_, ?_, ?_, ?_, ?_, ?_, trivial⟩
    · exact step_runP hs (wants_none rfl) rfl fun L u W hJ hG hL hdep => run_moveP (.inl rfl) ((IsB sig).st _ _ _ hsg (Below.call hbel (hJ.all rfl)))
    · exact step_runP hs (wants_none rfl) rfl fun L u W hJ hG hL hdep => run_fromP (k := 32) rfl rfl (holds_wld (φ := IsB sig) (hG 0 (hdep 0 (by kernel_rfl))) rfl (till_some hL)) (by rw [KN.out]; omega)
    · refine step_callO hs (wants_none rfl) rfl fun L u W hJ hG hL hdep K hK => ?_
      go_simp
      go_at_call 23
      (with_reducible refine (gStrict KS.out KSC.out (holds_wld (φ := IsB (sig.drop 32)) (hG 1 (hdep 1 (by kernel_rfl))) rfl (till_some hL))).mono ?_); rintro e w1 ⟨r, rfl, hr, hb⟩
      have hk := hK.out _ _ ⟨r, rfl, hr⟩ hb
      exact hk
    · exact step_pureO hs (wants_none rfl) rfl fun L u W hG hdep => ⟨_, run_move rfl, (show IsTV rS (u 2) [s] (.int .i64 0) from hG 2 (hdep 2 (by kernel_rfl)))⟩
    · exact step_pure hs (wants_none rfl) rfl fun L u W hG hdep => run_extractV0 rfl (show IsTV rS (u 3) [s] (.int .i64 0) from hG 3 (hdep 3 (by kernel_rfl)))
    · exact step_pureO hs (wants_none rfl) rfl fun L u W hG hdep => run_extractV1 rfl (show IsTV rS (u 3) [s] (.int .i64 0) from hG 3 (hdep 3 (by kernel_rfl)))
    · exact step_alloc hs (wants_none rfl) rfl rfl (by omega) rfl allocS
    · exact step_store 6 hs (by kernel_rfl) (wants_none rfl) rfl rfl rfl (by kernel_rfl) (by kernel_rfl) (by kernel_rfl) (by kernel_rfl) (fun _ => rfl) (gives_op 4 rfl (by kernel_rfl) (fun _ => rfl)) tyS rfl
    · exact step_pureO hs (wants_none rfl) rfl fun L u W hG hdep => ⟨_, run_assign rfl, (show u 5 = .int .i64 0 from hG 5 (hdep 5 (by kernel_rfl)))⟩
  intro L9 u9 W9 hall hJ hG
  obtain ⟨q10, e10, hq10, _, ht10⟩ := (show ∃ g, u9 6 = .pointer (some ⟨g, 0, none⟩) ∧ W7.heap.size ≤ g ∧ 0 < 4 ∧ W9.there g 0 4 from hG 6 (by simp))
  have hm10 : HasFs rS W9 q10 0 [s] := by
    obtain ⟨g, e, _, h⟩ := (show ∃ g, u9 6 = .pointer (some ⟨g, 0, none⟩) ∧ W7.heap.size ≤ g ∧ HasFs rS W9 g 0 [s] from hG 7 (by simp))
    rw [e10] at e; cases e; exact h
  have HD10_q7 := Lib.hid (show q7 ≠ q10 by have := there_lt ht7 (by omega); omega)
  have HD10_q9 := Lib.hid (show q9 ≠ q10 by have := there_lt ht9 (by omega); omega)
  have hq10 : w.heap.size ≤ q10 := by have := hbel0.size; omega
  have E10 := Lib.hid e10; clear e10
  have hb := hJ.all rfl
  have hbel := Below.call hbel hb
  have hm7 := hm7.later hb
  have hm9 := hm9.later hb
  have ht7 := there_later ht7 hb
  have ht9 := there_later ht9 hb
  have HC8 := Lib.hid (show u9 8 = .int .i64 0 from hG 8 (by simp))
  have hbel0 := hbel
  clear hJ hG hall hb
  go_upto_region 10 with fail
  refine wp_region_turn (fun u => #[v0, v1, v2, undef, undef, undef, u0 0, u1 5, u9 8, u6 6, u9 6, undef, u1 2, u1 0, u1 1, u1 3, u1 4, u2 0, u2 1, u2 2, u2 3, u2 4, .bool false, u4 0, u4 1, .bool false, u6 3, u6 0, u6 1, u6 2, u6 4, u6 5, u7 0, .bool false, u9 3, u9 0, u9 1, u9 2, u9 4, u9 5, u 0, u 1, undef, undef, undef, undef, undef, undef, undef, undef, undef, undef, undef, undef, undef, undef, undef, undef, undef]) (Holds [.oth (fun v => v = .int .i64 0), .oth (fun v => v = .bool false)] W9) (Keep [.oth (fun v => v = .int .i64 0), .oth (fun v => v = .bool false)] W9) (fun _ => undef) ?_ (by rfl) Keep.start (holds_soft (by kernel_rfl)) ?_ ?_
  · intro u i v h
    rcases i with _ | _ | i
    all_goals first | (simp [Act.put, putV]; done) | (exfalso; simp at h; omega)
  · intro hs
    refine ⟨?_, ?_, trivial⟩
    · exact step_pureO hs (wants_none rfl) rfl fun L u W hG hdep => ⟨_, run_move rfl, HC8.out⟩
    · refine step_pureO hs (wants_none rfl) rfl fun L u W hG hdep => ⟨_, ?_, rfl⟩
      have e0 := (show u 0 = .int .i64 0 from hG 0 (hdep 0 (by kernel_rfl)))
      go_simp
      try simp [bne]
  intro L10 u10 W10 hall hJ hG
  have hb := hJ.all rfl
  have hbel := Below.call hbel hb
  have hm7 := hm7.later hb
  have hm9 := hm9.later hb
  have hm10 := hm10.later hb
  have ht7 := there_later ht7 hb
  have ht9 := there_later ht9 hb
  have ht10 := there_later ht10 hb
  have HC41 := Lib.hid (show u10 1 = .bool false from hG 1 (by simp))
  have hbel0 := hbel
  clear hJ hG hall hb
  have hx : u10 1 = .bool false := HC41.out
  go_wp2_with fail
  rw [hx]
  clear hx
  go_upto_region 12 with fail
  refine wp_region_mid (fun u => #[v0, v1, v2, undef, undef, undef, u0 0, u1 5, u9 8, u6 6, u9 6, u 7, u1 2, u1 0, u1 1, u1 3, u1 4, u2 0, u2 1, u2 2, u2 3, u2 4, .bool false, u4 0, u4 1, .bool false, u6 3, u6 0, u6 1, u6 2, u6 4, u6 5, u7 0, .bool false, u9 3, u9 0, u9 1, u9 2, u9 4, u9 5, u10 0, .bool false, u 0, u 1, u 2, u 3, u 4, u 5, u 6, undef, undef, undef, undef, undef, undef, undef, undef, undef, undef]) (Holds [.wld (IsB sig) (some 1), .wld (IsB (sig.take 32)) (some 5), .wld (IsB pub) (some 5), .wld (IsR ls) (some 4), .wld (IsB l) (some 5), .wld (IsR [sig.take 32, pub, l]) (some 6), .val rS [wS (sha512 ((sig.take 32) ++ (pub ++ l)))], .new 4, .st 7 rS [wS (sha512 ((sig.take 32) ++ (pub ++ l)))]] W10) (Keep [.wld (IsB sig) (some 1), .wld (IsB (sig.take 32)) (some 5), .wld (IsB pub) (some 5), .wld (IsR ls) (some 4), .wld (IsB l) (some 5), .wld (IsR [sig.take 32, pub, l]) (some 6), .val rS [wS (sha512 ((sig.take 32) ++ (pub ++ l)))], .new 4, .st 7 rS [wS (sha512 ((sig.take 32) ++ (pub ++ l)))]] W10) (fun _ => undef) (by kernel_rfl) (by kernel_rfl) ?_ (by rfl) Keep.drew (holds_soft (by kernel_rfl)) ?_ ?_
  · intro u i v h
    rcases i with _ | _ | _ | _ | _ | _ | _ | _ | _ | i
    all_goals first | (simp [Act.put, putV]; done) | (exfalso; simp at h; omega)
  · intro hs
    refine ⟨?_, ?_, ?_, ?_, ?_, ?_, ?_, ?_, ?_, trivial⟩
    · exact step_runP hs (wants_none rfl) rfl fun L u W hJ hG hL hdep => run_moveP (.inl rfl) ((IsB sig).st _ _ _ hsg (Below.call hbel (hJ.all rfl)))
    · exact step_runP hs (wants_none rfl) rfl fun L u W hJ hG hL hdep => run_toP (k := 32) rfl rfl (holds_wld (φ := IsB sig) (hG 0 (hdep 0 (by kernel_rfl))) rfl (till_some hL)) (by rw [KN.out]; omega)
    · exact step_runP hs (wants_none rfl) rfl fun L u W hJ hG hL hdep => run_moveP (.inl rfl) ((IsB pub).st _ _ _ hp (Below.call hbel (hJ.all rfl)))
    · exact step_runP hs (wants_none rfl) rfl fun L u W hJ hG hL hdep => run_moveP (.inl rfl) ((IsR ls).st _ _ _ h1 (Below.call hbel (hJ.all rfl)))
    · refine step_callP hs (wants_none rfl) rfl fun L u W hJ hG hL hdep K hK => ?_
      go_simp
      go_at_call 25
      (with_reducible refine (gCat (l := l) (holds_wld (φ := IsR ls) (hG 3 (hdep 3 (by kernel_rfl))) rfl (till_some hL)) (HL.out) (by have := HM.out; omega)).mono ?_); rintro e w1 ⟨r, rfl, hr, hb⟩
      have hk := hK.out _ _ hr hb
      exact hk
    · exact step_runP hs (wants_none rfl) rfl fun L u W hJ hG hL hdep => run_rows3 rfl (holds_wld (φ := IsB (sig.take 32)) (hG 1 (hdep 1 (by kernel_rfl))) rfl (till_some hL)) (holds_wld (φ := IsB pub) (hG 2 (hdep 2 (by kernel_rfl))) rfl (till_some hL)) (holds_wld (φ := IsB l) (hG 4 (hdep 4 (by kernel_rfl))) rfl (till_some hL))
    · refine step_call hs (wants_none rfl) rfl fun L u W hJ hG hL hdep K hK => ?_
      go_simp
      go_at_call 24
      (with_reducible refine (gHash (l := ((sig.take 32) ++ (pub ++ l))) (holds_wld (φ := IsR [sig.take 32, pub, l]) (hG 5 (hdep 5 (by kernel_rfl))) rfl (till_some hL)) (by simp) (by have := HM.out; (repeat rw [List.length_append]); (try rw [List.length_take]); (try rw [KN.out]); (try rw [KL.out]); omega)).mono ?_); rintro e w1 ⟨r, rfl, hr, hb⟩
      have hk := hK.out _ _ hr hb
      exact hk
    · exact step_alloc hs (wants_none rfl) rfl rfl (by omega) rfl allocS
    · exact step_store 7 hs (by kernel_rfl) (wants_none rfl) rfl rfl rfl (by kernel_rfl) (by kernel_rfl) (by kernel_rfl) (by kernel_rfl) (fun _ => rfl) (gives_op 6 rfl (by kernel_rfl) (fun _ => rfl)) tyS rfl
  intro L12 u12 W12 hall hJ hG
  obtain ⟨q11, e11, hq11, _, ht11⟩ := (show ∃ g, u12 7 = .pointer (some ⟨g, 0, none⟩) ∧ W10.heap.size ≤ g ∧ 0 < 4 ∧ W12.there g 0 4 from hG 7 (by simp))
  have hm11 : HasFs rS W12 q11 0 [wS (sha512 ((sig.take 32) ++ (pub ++ l)))] := by
    obtain ⟨g, e, _, h⟩ := (show ∃ g, u12 7 = .pointer (some ⟨g, 0, none⟩) ∧ W10.heap.size ≤ g ∧ HasFs rS W12 g 0 [wS (sha512 ((sig.take 32) ++ (pub ++ l)))] from hG 8 (by simp))
    rw [e11] at e; cases e; exact h
  have HD11_q7 := Lib.hid (show q7 ≠ q11 by have := there_lt ht7 (by omega); omega)
  have HD11_q9 := Lib.hid (show q9 ≠ q11 by have := there_lt ht9 (by omega); omega)
  have HD11_q10 := Lib.hid (show q10 ≠ q11 by have := there_lt ht10 (by omega); omega)
  have hq11 : w.heap.size ≤ q11 := by have := hbel0.size; omega
  have E11 := Lib.hid e11; clear e11
  have hb := hJ.all rfl
  have hbel := Below.call hbel hb
  have hm7 := hm7.later hb
  have hm9 := hm9.later hb
  have hm10 := hm10.later hb
  have ht7 := there_later ht7 hb
  have ht9 := there_later ht9 hb
  have ht10 := there_later ht10 hb
  have hbel0 := hbel
  clear hJ hG hall hb
  go_upto_region 13 with fail
  refine wp_region_mid (fun u => #[v0, v1, v2, undef, undef, undef, u0 0, u1 5, u9 8, u6 6, u9 6, u12 7, u1 2, u1 0, u1 1, u1 3, u1 4, u2 0, u2 1, u2 2, u2 3, u2 4, .bool false, u4 0, u4 1, .bool false, u6 3, u6 0, u6 1, u6 2, u6 4, u6 5, u7 0, .bool false, u9 3, u9 0, u9 1, u9 2, u9 4, u9 5, u10 0, .bool false, u12 0, u12 1, u12 2, u12 3, u12 4, u12 5, u12 6, u 0, u 1, u 2, u 3, u 4, u 5, u 6, u 7, u 8, u 9]) (Holds [.val rP [base], .val rS [s], .val rP [Cp.mul s.val base], .val rP [Rp], .val rP [A], .val rS [wS (sha512 ((sig.take 32) ++ (pub ++ l)))], .val rP [Cp.mul (wS (sha512 ((sig.take 32) ++ (pub ++ l)))).val A], .val rP [Cp.add Rp (Cp.mul (wS (sha512 ((sig.take 32) ++ (pub ++ l)))).val A)], .oth (fun v => v = .bool false), .oth (fun v => v = .bool true)] W12) (Keep [.val rP [base], .val rS [s], .val rP [Cp.mul s.val base], .val rP [Rp], .val rP [A], .val rS [wS (sha512 ((sig.take 32) ++ (pub ++ l)))], .val rP [Cp.mul (wS (sha512 ((sig.take 32) ++ (pub ++ l)))).val A], .val rP [Cp.add Rp (Cp.mul (wS (sha512 ((sig.take 32) ++ (pub ++ l)))).val A)], .oth (fun v => v = .bool false), .oth (fun v => v = .bool true)] W12) (fun _ => undef) (by kernel_rfl) (by kernel_rfl) ?_ (by rfl) Keep.drew (holds_soft (by kernel_rfl)) ?_ ?_
  · intro u i v h
    rcases i with _ | _ | _ | _ | _ | _ | _ | _ | _ | _ | i
    all_goals first | (simp [Act.put, putV]; done) | (exfalso; simp at h; omega)
  · intro hs
    refine ⟨?_, ?_, ?_, ?_, ?_, ?_, ?_, ?_, ?_, ?_, trivial⟩
    · refine step_call hs (wants_none rfl) rfl fun L u W hJ hG hL hdep K hK => ?_
      go_simp
      go_at_call 26
      (with_reducible refine (cBase _).mono ?_); rintro e w1 ⟨r, rfl, hr, hb⟩
      have hk := hK.out _ _ hr hb
      exact hk
    · exact step_load q10 0 hs (wants_none rfl) rfl rfl tyS (fun _ => E10.out) hm10.lt hm10 (noSto_apart (by kernel_rfl))
    · refine step_call hs (wants_none rfl) rfl fun L u W hJ hG hL hdep K hK => ?_
      have a0 := (show IsFs rP (u 0) [base] from hG 0 (hdep 0 (by kernel_rfl)))
      have a1 := (show IsFs rS (u 1) [s] from hG 1 (hdep 1 (by kernel_rfl)))
      go_simp
      go_at_call 27
      (with_reducible refine (cMult rfl a0 a1 _).mono ?_); rintro e w1 ⟨r, rfl, hr, hb⟩
      have hk := hK.out _ _ hr hb
      exact hk
    · exact step_load q9 0 hs (wants_none rfl) rfl rfl tyP (fun _ => E9.out) hm9.lt hm9 (noSto_apart (by kernel_rfl))
    · exact step_load q7 0 hs (wants_none rfl) rfl rfl tyP (fun _ => E7.out) hm7.lt hm7 (noSto_apart (by kernel_rfl))
    · exact step_load q11 0 hs (wants_none rfl) rfl rfl tyS (fun _ => E11.out) hm11.lt hm11 (noSto_apart (by kernel_rfl))
    · refine step_call hs (wants_none rfl) rfl fun L u W hJ hG hL hdep K hK => ?_
      have a0 := (show IsFs rP (u 4) [A] from hG 4 (hdep 4 (by kernel_rfl)))
      have a1 := (show IsFs rS (u 5) [wS (sha512 ((sig.take 32) ++ (pub ++ l)))] from hG 5 (hdep 5 (by kernel_rfl)))
      go_simp
      go_at_call 27
      (with_reducible refine (cMult rfl a0 a1 _).mono ?_); rintro e w1 ⟨r, rfl, hr, hb⟩
      have hk := hK.out _ _ hr hb
      exact hk
    · refine step_call hs (wants_none rfl) rfl fun L u W hJ hG hL hdep K hK => ?_
      have a0 := (show IsFs rP (u 3) [Rp] from hG 3 (hdep 3 (by kernel_rfl)))
      have a1 := (show IsFs rP (u 6) [Cp.mul (wS (sha512 ((sig.take 32) ++ (pub ++ l)))).val A] from hG 6 (hdep 6 (by kernel_rfl)))
      go_simp
      go_at_call 29
      (with_reducible refine (cPAdd a0 a1 _).mono ?_); rintro e w1 ⟨r, rfl, hr, hb⟩
      have hk := hK.out _ _ hr hb
      exact hk
    · refine step_callO hs (wants_none rfl) rfl fun L u W hJ hG hL hdep K hK => ?_
      have a0 := (show IsFs rP (u 2) [Cp.mul s.val base] from hG 2 (hdep 2 (by kernel_rfl)))
      have a1 := (show IsFs rP (u 7) [Cp.add Rp (Cp.mul (wS (sha512 ((sig.take 32) ++ (pub ++ l)))).val A)] from hG 7 (hdep 7 (by kernel_rfl)))
      go_simp
      go_at_call 28
      (with_reducible refine (cPSame (b := false) (KB.out) a0 a1 _).mono ?_); rintro e w1 ⟨rfl, hb⟩
      have hk := hK.out _ _ rfl hb
      exact hk
    · refine step_pureO hs (wants_none rfl) rfl fun L u W hG hdep => ⟨_, ?_, rfl⟩
      have e0 := (show u 8 = .bool false from hG 8 (hdep 8 (by kernel_rfl)))
      go_simp
  intro L13 u13 W13 hall hJ hG
  have hb := hJ.all rfl
  have hbel := Below.call hbel hb
  have hm7 := hm7.later hb
  have hm9 := hm9.later hb
  have hm10 := hm10.later hb
  have hm11 := hm11.later hb
  have ht7 := there_later ht7 hb
  have ht9 := there_later ht9 hb
  have ht10 := there_later ht10 hb
  have ht11 := there_later ht11 hb
  have HC57 := Lib.hid (show u13 8 = .bool false from hG 8 (by simp))
  have HC58 := Lib.hid (show u13 9 = .bool true from hG 9 (by simp))
  have hbel0 := hbel
  clear hJ hG hall hb
  have hx : u13 9 = .bool true := HC58.out
  go_wp2_with fail
  rw [hx]
  clear hx
  go_upto_region 14 with fail
  refine wp_region_turn (fun u => #[v0, v1, v2, undef, undef, undef, u 0, u1 5, u9 8, u6 6, u9 6, u12 7, u1 2, u1 0, u1 1, u1 3, u1 4, u2 0, u2 1, u2 2, u2 3, u2 4, .bool false, u4 0, u4 1, .bool false, u6 3, u6 0, u6 1, u6 2, u6 4, u6 5, u7 0, .bool false, u9 3, u9 0, u9 1, u9 2, u9 4, u9 5, u10 0, .bool false, u12 0, u12 1, u12 2, u12 3, u12 4, u12 5, u12 6, u13 0, u13 1, u13 2, u13 3, u13 4, u13 5, u13 6, u13 7, u13 8, .bool true]) (Holds [.oth (fun v => v = .int .i64 3)] W13) (Keep [.oth (fun v => v = .int .i64 3)] W13) (fun k => ((u0 0 :: []) : List Value).getD k undef) ?_ (by rfl) Keep.start (holds_soft (by kernel_rfl)) ?_ ?_
  · intro u i v h
    rcases i with _ | i
    all_goals first | (simp [Act.put, putV]; done) | (exfalso; simp at h; omega)
  · intro hs
    refine ⟨?_, trivial⟩
    · exact step_pureO hs (wants_none rfl) rfl fun L u W hG hdep => ⟨_, run_assign rfl, rfl⟩
  intro L14 u14 W14 hall hJ hG
  have hb := hJ.all rfl
  have hbel := Below.call hbel hb
  have hm7 := hm7.later hb
  have hm9 := hm9.later hb
  have hm10 := hm10.later hb
  have hm11 := hm11.later hb
  have ht7 := there_later ht7 hb
  have ht9 := there_later ht9 hb
  have ht10 := there_later ht10 hb
  have ht11 := there_later ht11 hb
  have HC6 := Lib.hid (show u14 0 = .int .i64 3 from hG 0 (by simp))
  have hbel0 := hbel
  clear hJ hG hall hb
  go_wp2
  go_ret
  exact ⟨by rw [HC6.out]; rfl, hbel⟩
end Go.Proofs.Ytielgpefoameiaa
namespace Go.Proofs.Ytielgpefoameiaa
open Go.RowKit
theorem tmodM (k : Int) (m : Nat) (hm : 0 < m) : (k.tmod m < 0 → k.tmod m + m = k % m) ∧ (¬ k.tmod m < 0 → k.tmod m = k % m) ∧ k.tmod m < m ∧ -(m : Int) < k.tmod m := by
  have e1 := Int.tmod_eq_emod (a := k) (b := (m : Int))
  have h1 := Int.emod_nonneg k (show (m : Int) ≠ 0 by omega)
  have h2 := Int.emod_lt_of_pos k (show (0 : Int) < m by omega)
  have e : ((Int.natAbs (m : Int) : Nat) : Int) = m := by simp
  by_cases c : 0 ≤ k ∨ (m : Int) ∣ k
  · rw [if_pos c] at e1
    refine ⟨?_, ?_, ?_, ?_⟩ <;> omega
  · rw [if_neg c, e] at e1
    have : k % (m : Int) ≠ 0 := fun h => c (.inr (Int.dvd_of_emod_eq_zero h))
    refine ⟨?_, ?_, ?_, ?_⟩ <;> omega
set_option maxRecDepth 100000 in
set_option maxHeartbeats 400000 in
theorem round_any (k r : Int) (m : Nat) (hm : 0 < m) (hm2 : m ≤ 1000000) (hr : k % (m : Int) = r) (w : World) : Calls Try.prog 14 #[.int .i64 k, .int .i64 (m : Nat)] w fun e w' => e = .returned (.int .i64 r) ∧ w = w' := by
  obtain ⟨h1, h2, h3, h4⟩ := tmodM k m hm
  rw [hr] at h1 h2
  have h5 : 0 ≤ r ∧ r < m := by rw [← hr]; exact ⟨Int.emod_nonneg k (by omega), Int.emod_lt_of_pos k (by omega)⟩
  obtain ⟨M, hM⟩ : ∃ M : Int, M = (m : Int) := ⟨_, rfl⟩
  rw [← hM] at h1 h2 h3 h4 h5
  have hM0 : ¬ M = 0 := by omega
  have hM1 : M ≤ 1000000 := by omega
  have hM2 : 0 < M := by omega
  rw [← hM]
  clear hM hr hm hm2
  by_cases hn : k.tmod M < 0
  · have e := h1 hn
    have d : decide (k.tmod M < 0) = true := decide_eq_true hn
    have hw : IntKind.i64.wrap (k.tmod M) = k.tmod M := by rw [IntKind.wrap_i64]; omega
    have hw2 : IntKind.i64.wrap (k.tmod M + M) = k.tmod M + M := by rw [IntKind.wrap_i64]; omega
    have HX : Hid (k.tmod M + M = r) := Lib.hid e
    clear h1 h2 hn e h3 h4 h5
    go_enter Try.func14, Try.ntmps14
    go_wp2
    go_ret
    exact ⟨ret_int HX.out, rfl⟩
  · have e := h2 hn
    have d : decide (k.tmod M < 0) = false := decide_eq_false hn
    have hw : IntKind.i64.wrap (k.tmod M) = k.tmod M := by rw [IntKind.wrap_i64]; omega
    have HX : Hid (k.tmod M = r) := Lib.hid e
    clear h1 h2 hn e h3 h4 h5
    go_enter Try.func14, Try.ntmps14
    go_wp2
    go_ret
    exact ⟨ret_int HX.out, rfl⟩
end Go.Proofs.Ytielgpefoameiaa
namespace Go.Proofs.Ytielgpefoameiaa
open Go Go.RowKit
/-- Bytes with bit k turned. -/
def flipK (l : List UInt8) (k : Nat) : List UInt8 := l.set (k / 8) (l.getD (k / 8) 0 ^^^ UInt8.ofNat (2 ^ (k % 8)))
theorem flipK_len (l : List UInt8) (k : Nat) : (flipK l k).length = l.length := by simp [flipK]
theorem xor_bit : ∀ c : Nat, c < 256 → ∀ j : Nat, j < 8 → bits BinOp.xor IntKind.u8 (c : Int) ((2 ^ j : Nat) : Int) = ((UInt8.ofNat c ^^^ UInt8.ofNat (2 ^ j)).toNat : Nat) := by decide +kernel
theorem xor_byte {c d : UInt8} {j : Nat} (hj : j < 8) (h : c ^^^ UInt8.ofNat (2 ^ j) = d) : bits BinOp.xor IntKind.u8 (c.toNat : Int) ((2 ^ j : Nat) : Int) = (d.toNat : Int) := by
  have := xor_bit c.toNat c.toNat_lt j hj
  rw [UInt8.ofNat_toNat, h] at this
  exact this
theorem shl_bit : ∀ j : Nat, j < 8 → (1 * 2 ^ j : Int) % 256 = ((2 ^ j : Nat) : Int) := by decide +kernel
theorem at_d {W : World} {g E : Nat} {LB : List UInt8} {r : List Value} (k : Nat) (h : k < LB.length) (hB : Blk W g (LB.map bV ++ r) E) : W.cell? ⟨g, k, none⟩ = some (.int .u8 ((LB.getD k 0).toNat : Int)) := by
  rw [hB.cell, List.getElem?_append_left (by simpa using h), List.getElem?_map, List.getElem?_eq_getElem h, List.getD_eq_getElem?_getD, List.getElem?_eq_getElem h]; rfl
theorem set_d {LB : List UInt8} {r : List Value} {d : UInt8} (k : Nat) (h : k < LB.length) : (LB.map bV ++ r).set k (bV d) = (LB.set k d).map bV ++ r := by
  rw [List.set_append_left _ _ (by simpa using h), List.map_set]
theorem round256 {k : Int} {rn : Nat} (h : k % 256 = (rn : Int)) (w : World) : Calls Try.prog 14 #[.int .i64 k, .int .i64 256] w fun e w' => e = .returned (.int .i64 (rn : Nat)) ∧ w = w' :=
  round_any k rn 256 (by omega) (by omega) h w
end Go.Proofs.Ytielgpefoameiaa
namespace Go.Proofs.Ytielgpefoameiaa
/-- The number that n limbs mean. -/
def v16 (f : Nat → Nat) : Nat → Nat
  | 0 => 0
  | n + 1 => v16 f n + f n * 65536 ^ n
/-- The carries of a row, none coming in; the limbs then. -/
def cr16 (f : Nat → Nat) : Nat → Nat
  | 0 => 0
  | i + 1 => (f i + cr16 f i) / 65536
theorem v16_lt (f : Nat → Nat) (h : ∀ i, f i < 65536) : ∀ n, v16 f n < 65536 ^ n
  | 0 => by simp [v16]
  | n + 1 => by
    have ih := v16_lt f h n
    have h1 := h n
    have h2 : f n * 65536 ^ n ≤ 65535 * 65536 ^ n := Nat.mul_le_mul_right _ (by omega)
    simp only [v16, Nat.pow_succ]
    omega
theorem v16_congr {f g : Nat → Nat} : ∀ n, (∀ i, i < n → f i = g i) → v16 f n = v16 g n
  | 0, _ => rfl
  | n + 1, h => by simp only [v16]; rw [v16_congr n (fun i hi => h i (by omega)), h n (by omega)]
/-- Limbs below 2^16, but for the first; the last below 2^15. -/
structure Nr (f : Nat → Nat) (B : Nat) : Prop where
  z : f 0 ≤ B
  r : ∀ i, 0 < i → f i < 65536
  t : f 15 < 32768
theorem Nr.cr {f : Nat → Nat} {B : Nat} (h : Nr f B) (hB : B < 4294967296 * 32768) : cr16 f 16 ≤ 1 := by
  have h1 : cr16 f 1 ≤ 2147483648 := by have := h.z; simp only [cr16]; omega
  have h2 : cr16 f 2 ≤ 32768 := by have := h.r 1 (by omega); rw [cr16]; omega
  have h3 : cr16 f 3 ≤ 1 := by have := h.r 2 (by omega); rw [cr16]; omega
  have key : ∀ i, cr16 f (i + 3) ≤ 1 := by
    intro i
    induction i with
    | zero => exact h3
    | succ i ih => have := h.r (i + 3) (by omega); rw [cr16]; omega
  exact key 13
/-- Limbs in their one form, of a number below 2^255. -/
structure Cn (f : Nat → Nat) : Prop where
  r : ∀ i, f i < 65536
  t : f 15 < 32768
theorem Cn.lt {f : Nat → Nat} (h : Cn f) : v16 f 16 < 57896044618658097711785492504343953926634992332820282019728792003956564819968 := by
  have h1 := v16_lt f h.r 15
  have h2 := h.t
  have h3 : f 15 * 65536 ^ 15 ≤ 32767 * 65536 ^ 15 := Nat.mul_le_mul_right _ (by omega)
  have e : v16 f 16 = v16 f 15 + f 15 * 65536 ^ 15 := rfl
  rw [e, show (57896044618658097711785492504343953926634992332820282019728792003956564819968 : Nat) = 32768 * 65536 ^ 15 from by decide +kernel]
  generalize 65536 ^ 15 = X at *
  omega
end Go.Proofs.Ytielgpefoameiaa
namespace Go.Proofs.Ytielgpefoameiaa
open Go.RowKit
end Go.Proofs.Ytielgpefoameiaa
namespace Go.Proofs.Ytielgpefoameiaa
open Go.RowKit
end Go.Proofs.Ytielgpefoameiaa
namespace Go.Proofs.Ytielgpefoameiaa
open Go.RowKit
end Go.Proofs.Ytielgpefoameiaa
namespace Go.Proofs.Ytielgpefoameiaa
open Go.RowKit
end Go.Proofs.Ytielgpefoameiaa
namespace Go.Proofs.Ytielgpefoameiaa
open Go.RowKit
/-- Bytes as a row. -/
def uV (f : Nat → Nat) (i : Nat) : Value := .int .u8 (f i : Nat)
end Go.Proofs.Ytielgpefoameiaa
namespace Go.Proofs.Ytielgpefoameiaa
open Go.RowKit
def two (f : Nat → Nat) (i : Nat) : Nat := f (2 * i) + 256 * f (2 * i + 1)
end Go.Proofs.Ytielgpefoameiaa
namespace Go.Proofs.Ytielgpefoameiaa
open Go.RowKit
end Go.Proofs.Ytielgpefoameiaa
namespace Go.Proofs.Ytielgpefoameiaa
open Go.RowKit
end Go.Proofs.Ytielgpefoameiaa
namespace Go.Proofs.Ytielgpefoameiaa
open Go.RowKit
/-- A row, one limb written. -/
def updF (c : Nat → Nat) (m v i : Nat) : Nat := if i = m then v else c i
theorem v16_upd (c : Nat → Nat) (m a : Nat) : ∀ n, m < n → v16 (updF c m (c m + a)) n = v16 c n + a * 65536 ^ m
  | 0, h => by omega
  | n + 1, h => by
    by_cases e : m = n
    · subst e
      have h1 : v16 (updF c m (c m + a)) m = v16 c m := v16_congr m fun i hi => by unfold updF; rw [if_neg (by omega)]
      simp only [v16]
      rw [h1]
      simp only [updF, if_true]
      rw [Nat.add_mul]; omega
    · have ih := v16_upd c m a n (by omega)
      simp only [v16]
      rw [ih]
      simp only [updF, if_neg (fun x : n = m => e x.symm)]
      omega
theorem v16_succ (f : Nat → Nat) (n : Nat) : v16 f (n + 1) = v16 f n + f n * 65536 ^ n := rfl
def MM : Nat := 4294836225
/-- What the inner loop keeps. -/
structure MulIn (f g c : Nat → Nat) (i k : Nat) : Prop where
  lo : ∀ j, c j ≤ (i + 1) * MM
  hi : ∀ j, i + k ≤ j → c j ≤ i * MM
  v : v16 c 32 = v16 f i * v16 g 16 + f i * 65536 ^ i * v16 g k
structure MulOut (f g c : Nat → Nat) (i : Nat) : Prop where
  lo : ∀ j, c j ≤ i * MM
  v : v16 c 32 = v16 f i * v16 g 16
theorem MulOut.start (f g : Nat → Nat) : MulOut f g (fun _ => 0) 0 := ⟨fun _ => by omega, by rw [show v16 f 0 = 0 from rfl, Nat.zero_mul]; rfl⟩
theorem MulOut.into {f g c : Nat → Nat} {i : Nat} (h : MulOut f g c i) : MulIn f g c i 0 :=
  ⟨fun j => Nat.le_trans (h.lo j) (Nat.mul_le_mul_right _ (by omega)), fun j _ => h.lo j, by rw [h.v, show v16 g 0 = 0 from rfl, Nat.mul_zero, Nat.add_zero]⟩
theorem MulIn.step {f g c : Nat → Nat} {i k : Nat} (h : MulIn f g c i k) (hk : k < 16) (hi : i < 16) (hp : f i * g k ≤ MM) : MulIn f g (updF c (i + k) (c (i + k) + f i * g k)) i (k + 1) := by
  have e : (i + 1) * MM = i * MM + MM := by rw [Nat.add_mul, Nat.one_mul]
  refine ⟨fun j => ?_, fun j hj => ?_, ?_⟩
  · unfold updF
    split
    · have := h.hi (i + k) (Nat.le_refl _); omega
    · exact h.lo j
  · unfold updF
    rw [if_neg (by omega)]
    exact h.hi j (by omega)
  · rw [v16_upd _ _ _ _ (by omega), h.v, v16_succ g k, Nat.pow_add]
    generalize v16 f i * v16 g 16 = A
    generalize v16 g k = B
    generalize 65536 ^ i = C
    generalize 65536 ^ k = D
    rw [Nat.mul_add, Nat.add_assoc]
    congr 2
    grind
theorem MulIn.out {f g c : Nat → Nat} {i : Nat} (h : MulIn f g c i 16) : MulOut f g c (i + 1) :=
  ⟨h.lo, by rw [h.v, v16_succ f i, Nat.add_mul]⟩
end Go.Proofs.Ytielgpefoameiaa
namespace Go.Proofs.Ytielgpefoameiaa
open Go.RowKit
end Go.Proofs.Ytielgpefoameiaa
namespace Go.Proofs.Ytielgpefoameiaa
open Go.RowKit
end Go.Proofs.Ytielgpefoameiaa
namespace Go.Proofs.Ytielgpefoameiaa
open Go.RowKit
end Go.Proofs.Ytielgpefoameiaa
namespace Go.Proofs.Ytielgpefoameiaa
open Go.RowKit
end Go.Proofs.Ytielgpefoameiaa
namespace Go.Proofs.Ytielgpefoameiaa
open Go.RowKit
theorem Blk.there {w : World} {g E n : Nat} {cs : List Value} (h : Blk w g cs E) (hn : cs.length = n) : w.there g 0 n := fun j hj => by
  rw [Nat.zero_add]
  exact ⟨by rw [h.cell, List.getElem?_eq_getElem (by omega)]; rfl, h.frozen j⟩
end Go.Proofs.Ytielgpefoameiaa
namespace Go.Proofs.Ytielgpefoameiaa
open Go Go.RowKit
end Go.Proofs.Ytielgpefoameiaa
namespace Go.Proofs.Ytielgpefoameiaa
open Go Go.RowKit
end Go.Proofs.Ytielgpefoameiaa
namespace Go.Proofs.Ytielgpefoameiaa
open Go Go.RowKit
end Go.Proofs.Ytielgpefoameiaa
namespace Go.Proofs.Ytielgpefoameiaa
open Go Go.RowKit
end Go.Proofs.Ytielgpefoameiaa
namespace Go.Proofs.Ytielgpefoameiaa
open Go Go.RowKit
end Go.Proofs.Ytielgpefoameiaa
namespace Go.Proofs.Ytielgpefoameiaa
open Go Go.RowKit
theorem wS_lt (l : List UInt8) : (wS l).val < Lq := by unfold wS; rw [fn_sc (Nat.mod_lt _ Lq_0)]; exact Nat.mod_lt _ Lq_0
theorem dec_enc (P : EP) : decV (encP P) = P ∧ decC (encP P) = 0 := by
  unfold decV decC
  rw [decP_enc]
  exact ⟨rfl, rfl⟩
theorem dec_no {l : List UInt8} (h : ¬ decC l = 0) : decC l = 12 := by
  unfold decC at *
  split
  · rename_i h1; rw [if_pos h1] at h; exact absurd rfl h
  · rfl
theorem dec_back {l : List UInt8} (h : decC l = 0) : encP (decV l) = l := by
  unfold decC at h
  unfold decV
  cases h1 : decP l with
  | none => rw [h1] at h; simp at h
  | some P => exact enc_dec h1
end Go.Proofs.Ytielgpefoameiaa
namespace Go.Proofs.Ytielgpefoameiaa
open Go Go.RowKit
theorem wS_32 {l : List UInt8} (h : l.length = 32) : (wS l).val = leN l % Lq := by
  unfold wS
  rw [fn_sc (Nat.mod_lt _ Lq_0), leN_first, List.take_of_length_le (by omega)]
end Go.Proofs.Ytielgpefoameiaa
namespace Go.Proofs.Ytielgpefoameiaa
open Go Go.RowKit
/-- What Verify tells. -/
def verC (pub sig l : List UInt8) : Int :=
  if decC pub = 0 then
    if Cp.mul 8 (decV pub) = Cp.zero then 12
    else if sig.length = 64 then
      if decC (sig.take 32) = 0 then
        if ssC (sig.drop 32) = 0 then
          if Cp.mul (ssV (sig.drop 32)).val base = Cp.add (decV (sig.take 32)) (Cp.mul (wS (sha512 (sig.take 32 ++ (pub ++ l)))).val (decV pub)) then 0 else 3
        else 3
      else 3
    else 3
  else 12
theorem gVerify {v0 v1 v2 : Value} {pub sig l : List UInt8} {ls : List (List UInt8)} {w : World} (hp : (IsB pub).P v0 w) (hs : (IsB sig).P v1 w) (h1 : (IsR ls).P v2 w) (hl : ls.flatten = l) (hm : l.length ≤ 100000) :
    Calls Try.prog 12 #[v0, v1, v2] w fun e w' => e = .returned (.int .i64 (verC pub sig l)) ∧ Below w.heap.size w w' := by
  unfold verC
  by_cases c1 : decC pub = 0
  · rw [if_pos c1]
    by_cases c2 : Cp.mul 8 (decV pub) = Cp.zero
    · rw [if_pos c2]; exact ver_small hp hs h1 hl hm rfl c1 (decide_eq_true c2)
    · rw [if_neg c2]
      by_cases c3 : sig.length = 64
      · rw [if_pos c3]
        by_cases c4 : decC (sig.take 32) = 0
        · rw [if_pos c4]
          by_cases c5 : ssC (sig.drop 32) = 0
          · rw [if_pos c5]
            have hk : pub.length = 32 := by
              by_cases h : pub.length = 32
              · exact h
              · have := (dec_len h).2; omega
            split
            · rename_i c6; exact ver_true hp hs h1 hl hm rfl c1 (decide_eq_false c2) c3 rfl c4 rfl c5 hk (decide_eq_true c6)
            · rename_i c6; exact ver_false hp hs h1 hl hm rfl c1 (decide_eq_false c2) c3 rfl c4 rfl c5 hk (decide_eq_false c6)
          · rw [if_neg c5]; exact ver_S hp hs h1 hl hm rfl c1 (decide_eq_false c2) c3 rfl c4 rfl (ss_no c5)
        · rw [if_neg c4]; exact ver_R hp hs h1 hl hm rfl c1 (decide_eq_false c2) c3 rfl (dec_no c4)
      · rw [if_neg c3]
        exact ver_len hp hs h1 hl hm rfl c1 (decide_eq_false c2) rfl (by simp; omega)
  · rw [if_neg c1]; exact ver_pt hp hs h1 hl hm rfl (dec_no c1)
/-- A number of a seed is no multiple of L. -/
theorem dec_pub (seed : List UInt8) : decV (edPub seed) = Cp.mul (edA seed).val base ∧ decC (edPub seed) = 0 := dec_enc _
theorem clamp8 : ∀ c : Nat, c < 256 → (UInt8.ofNat c &&& 248).toNat % 8 = 0 := by decide +kernel
theorem clamp64 : ∀ c : Nat, c < 256 → 64 ≤ (UInt8.ofNat c &&& 127 ||| 64).toNat ∧ (UInt8.ofNat c &&& 127 ||| 64).toNat < 128 := by decide +kernel
theorem clamp_lo (l : List UInt8) : leN (clampB l) % 8 = 0 ∧ 0 < leN (clampB l) ∧ leN (clampB l) < 2 ^ 255 := by
  have hlen := clampB_len l
  have h8 : leN (clampB l) % 8 = 0 := by
    obtain ⟨c, r, hcr⟩ : ∃ c r, first l 32 = c :: r := by
      cases h : first l 32 with
      | nil => have := first_len l 32; rw [h] at this; simp at this
      | cons c r => exact ⟨c, r, rfl⟩
    unfold clampB
    rw [hcr]
    simp only [List.set_cons_zero, List.set_cons_succ, List.getD_cons_zero, leN]
    have := clamp8 c.toNat c.toNat_lt
    rw [UInt8.ofNat_toNat] at this
    omega
  have e := leN_take (clampB l) 31 (by omega)
  rw [List.take_of_length_le (by omega)] at e
  have hlt := leN_take_lt (clampB l) 31
  have h31 : 64 ≤ ((clampB l)[31]'(by omega)).toNat ∧ ((clampB l)[31]'(by omega)).toNat < 128 := by
    have h := clamp64 ((first l 32).getD 31 0).toNat (UInt8.toNat_lt _)
    rw [UInt8.ofNat_toNat] at h
    have e31 : (clampB l)[31]'(by omega) = ((first l 32).getD 31 0 &&& 127) ||| 64 := by
      unfold clampB
      rw [List.getElem_set_self]
    rw [e31]; exact h
  generalize leN (clampB l) = k at *
  generalize ((clampB l)[31]'(by omega)).toNat = c at *
  generalize leN ((clampB l).take 31) = r at *
  have p : (256 : Nat) ^ 31 = 452312848583266388373324160190187140051835877600158453279131187530910662656 := by decide +kernel
  rw [p] at e hlt
  have p2 : (2 : Nat) ^ 255 = 57896044618658097711785492504343953926634992332820282019728792003956564819968 := by decide +kernel
  rw [p2]
  omega
theorem edA_lt (seed : List UInt8) : (edA seed).val < Lq := wS_lt _
theorem edA_ne (seed : List UInt8) : edA seed ≠ 0 := by
  intro h
  have h0 : (edA seed).val = 0 := by rw [h]; rfl
  unfold edA at h0
  rw [wS_32 (clampB_len _)] at h0
  obtain ⟨h1, h2, h3⟩ := clamp_lo (sha512 seed)
  generalize leN (clampB (sha512 seed)) = k at *
  obtain ⟨j, rfl⟩ : ∃ j, k = 8 * j := ⟨k / 8, by omega⟩
  rcases prL.mul (Nat.dvd_of_mod_eq_zero h0) with h4 | h4
  · exact absurd h4 nd_8
  · have h5 := Nat.le_of_dvd (by omega) h4
    have p2 : (2 : Nat) ^ 255 = 57896044618658097711785492504343953926634992332820282019728792003956564819968 := by decide +kernel
    rw [p2] at h3
    unfold Lq at h5
    omega
theorem pub_big (seed : List UInt8) : ¬ Cp.mul 8 (Cp.mul (edA seed).val base) = Cp.zero := by
  intro h
  exact edA_ne seed ((mulb_zero (edA_lt seed)).1 ((mulb_small rfl).1 h))
theorem dM_comm (x y : F) : dM x y = dM y x := by unfold dM; rw [Nat.mul_comm]
theorem dA_lt (x y : F) : (dA x y).val < Lq := by unfold dA; rw [fn_sc (Nat.mod_lt _ Lq_0)]; exact Nat.mod_lt _ Lq_0
theorem st_le {x : F} (h : x.val < Lq) : ssV (leB 32 x.val) = x ∧ ssC (leB 32 x.val) = 0 := by
  have h1 : scOk (leB 32 x.val) = true := by
    simp [scOk, leB_len, leN_leB, Nat.mod_eq_of_lt (show x.val < 2 ^ (8 * 32) from sc256 h), h]
  unfold ssV ssC
  rw [h1]
  refine ⟨?_, rfl⟩
  rw [if_pos rfl]
  apply F.ext'
  rw [leN_leB, Nat.mod_eq_of_lt (sc256 h), fn_sc h]
/-- A signature's second half as a number. -/
def edS (s : F) (p q l : List UInt8) : F := dA (wS (sha512 (p ++ l))) (dM (wS (sha512 (edR p l ++ (q ++ l)))) s)
theorem edSign_eq (s : F) (p q l : List UInt8) : edSign s p q l = edR p l ++ leB 32 (edS s p q l).val := rfl
theorem edS_lt (s : F) (p q l : List UInt8) : (edS s p q l).val < Lq := dA_lt _ _
theorem take_R (p l t : List UInt8) : (edR p l ++ t).take 32 = edR p l := List.take_left' (edR_len p l)
theorem drop_R (p l t : List UInt8) : (edR p l ++ t).drop 32 = t := List.drop_left' (edR_len p l)
/-- What R and a second half are verified for. -/
theorem ver_half (seed l t : List UInt8) (ht : t.length = 32) :
    verC (edPub seed) (edR (edP seed) l ++ t) l = if ssC t = 0 then (if Cp.mul (ssV t).val base = Cp.mul (edS (edA seed) (edP seed) (edPub seed) l).val base then 0 else 3) else 3 := by
  unfold verC
  obtain ⟨h1, h2⟩ := dec_pub seed
  obtain ⟨h3, h4⟩ : decV (edR (edP seed) l) = Cp.mul (wS (sha512 (edP seed ++ l))).val base ∧ decC (edR (edP seed) l) = 0 := dec_enc _
  rw [if_pos h2, h1, if_neg (pub_big seed), if_pos (by rw [List.length_append, edR_len, ht]), take_R, drop_R, if_pos h4]
  unfold edS
  rw [h3, mulb_prod, mulb_sum, dM_comm (edA seed)]
/-- What was signed is verified. -/
theorem ver_sign (seed l : List UInt8) : verC (edPub seed) (edSign (edA seed) (edP seed) (edPub seed) l) l = 0 := by
  rw [edSign_eq, ver_half _ _ _ (leB_len _ _)]
  obtain ⟨h1, h2⟩ := st_le (edS_lt (edA seed) (edP seed) (edPub seed) l)
  rw [if_pos h2, h1, if_pos rfl]
/-- Another second half is not. -/
theorem ver_other (seed l t : List UInt8) (ht : t.length = 32) (hne : t ≠ leB 32 (edS (edA seed) (edP seed) (edPub seed) l).val) : verC (edPub seed) (edR (edP seed) l ++ t) l = 3 := by
  rw [ver_half _ _ _ ht]
  split
  · rename_i h
    rw [if_neg]
    intro h2
    have h3 := mulb_inj h2
    have hok : scOk t = true := by
      unfold ssC at h
      cases hs : scOk t with
      | true => rfl
      | false => rw [hs] at h; simp at h
    have hv : ssV t = fn (leN t) := by unfold ssV; rw [hok]; rfl
    have hlt : leN t < Lq := by simp only [scOk, Bool.and_eq_true, decide_eq_true_eq] at hok; exact hok.2
    rw [hv, fn_sc hlt, Nat.mod_eq_of_lt hlt, Nat.mod_eq_of_lt (edS_lt _ _ _ _)] at h3
    apply hne
    rw [← h3]
    have := leB_leN t
    rw [ht] at this
    exact this.symm
  · rfl
theorem ver_short (seed s l : List UInt8) (hs : s.length ≠ 64) : verC (edPub seed) s l = 3 := by
  unfold verC
  obtain ⟨h1, h2⟩ := dec_pub seed
  rw [if_pos h2, h1, if_neg (pub_big seed), if_neg hs]
theorem flipK_ne {l : List UInt8} {k : Nat} (h : k < 8 * l.length) : flipK l k ≠ l := by
  intro e
  have hl : k / 8 < l.length := by omega
  have h1 : (flipK l k)[k / 8]? = l[k / 8]? := by rw [e]
  unfold flipK at h1
  rw [List.getElem?_set_self hl, List.getElem?_eq_getElem hl, List.getD_eq_getElem?_getD, List.getElem?_eq_getElem hl] at h1
  simp only [Option.getD_some, Option.some.injEq] at h1
  generalize l[k / 8] = c at h1
  have h2 : ∀ j : Nat, j < 8 → ∀ c : Nat, c < 256 → UInt8.ofNat c ^^^ UInt8.ofNat (2 ^ j) ≠ UInt8.ofNat c := by decide +kernel
  have h3 := h2 (k % 8) (by omega) c.toNat c.toNat_lt
  rw [UInt8.ofNat_toNat] at h3
  exact h3 h1
theorem ver_flip (seed l : List UInt8) {k : Nat} (hk : k < 256) : verC (edPub seed) (edR (edP seed) l ++ flipK (leB 32 (edS (edA seed) (edP seed) (edPub seed) l).val) k) l = 3 :=
  ver_other seed l _ (by rw [flipK_len, leB_len]) (flipK_ne (by rw [leB_len]; omega))
theorem L_256 : Lq + Lq < 2 ^ (8 * 32) := by decide +kernel
theorem ver_plus (seed l : List UInt8) : verC (edPub seed) (edR (edP seed) l ++ leB 32 ((edS (edA seed) (edP seed) (edPub seed) l).val + Lq)) l = 3 := by
  refine ver_other seed l _ (leB_len _ _) fun e => ?_
  have h := edS_lt (edA seed) (edP seed) (edPub seed) l
  have h2 := L_256
  have h3 := leB_inj (by omega) (by omega) e
  have := Lq_0
  omega
/-- The document's example. -/
def awSeed : List UInt8 := [157, 97, 177, 157, 239, 253, 90, 96, 186, 132, 74, 244, 146, 236, 44, 196, 68, 73, 197, 105, 123, 50, 105, 25, 112, 59, 172, 3, 28, 174, 127, 96]
def awX : F := fn 38815646466658113194383306759739515082307681141926459231621296960732224964046
def awY : F := fn 11903303657706407974989296177215005343713679411332034699907763981919547054807
def awN : Nat := 7196903412274038802701538263280187907152860435200743670699908441353638128764
theorem aw_num : (edA awSeed).val = awN := by decide +kernel
theorem aw_pt : (Cp.mul awN base).x = awX ∧ (Cp.mul awN base).y = awY := by
  obtain ⟨X, Y, Z, e, hz, hx, hy⟩ := mulN_ok 253 awN (by decide +kernel)
  have h : (mulN 253 awN).1 = mulQ awX.val (mulN 253 awN).2.2 ∧ (mulN 253 awN).2.1 = mulQ awY.val (mulN 253 awN).2.2 := by decide +kernel
  rw [e] at h
  obtain ⟨h1, h2⟩ := h
  have hX : X = awX * Z := F.ext' h1
  have hY : Y = awY * Z := F.ext' h2
  generalize awX = ax at *
  generalize awY = ay at *
  generalize (Cp.mul awN base).x = x at *
  generalize (Cp.mul awN base).y = y at *
  have e1 : (x - ax) * Z = 0 := by clear h1 h2 e hz hy hY; grind
  have e2 : (y - ay) * Z = 0 := by clear h1 h2 e hz hx hX e1; grind
  constructor
  · rcases F.dom e1 with h | h
    · exact sub_nil h
    · exact absurd h hz
  · rcases F.dom e2 with h | h
    · exact sub_nil h
    · exact absurd h hz
theorem aw_pub : (edPub awSeed).take 4 = [215, 90, 152, 1] := by
  unfold edPub encP
  rw [aw_num, aw_pt.1, aw_pt.2]
  decide +kernel
end Go.Proofs.Ytielgpefoameiaa
namespace Go.Proofs.Ytielgpefoameiaa
open Go Go.RowKit
/-- A sum held at 2^40. -/
def held (n : Int) : Int := if n ≤ 1099511627776 then n else 1099511627776
set_option maxRecDepth 100000 in
set_option maxHeartbeats 1000000 in
theorem sum2_any {g : Nat} {n x : Int} (w : World) (h : Blk w g [.int .i64 x, .int .i64 1] 3) (hn : 0 ≤ n) (hn2 : n ≤ 1099511627776) (hx : 0 ≤ x) (hx2 : x ≤ 9223372036854775807) :
    Calls Try.prog 19 #[.int .i64 n, .slice (some ⟨g, 0, none⟩) 2 2] w fun e w' => e = .returned (.int .i64 (held (n + x + 1))) ∧ Below w.heap.size w w' := by
  have c0 : w.cell? ⟨g, 0, none⟩ = some (.int .i64 x) := h.cell 0
  have c1 : w.cell? ⟨g, 1, none⟩ = some (.int .i64 1) := h.cell 1
  have hg0 : decide (1099511627776 < n) = false := decide_eq_false (by omega)
  have hw : IntKind.i64.wrap (1099511627776 - n) = 1099511627776 - n := by rw [IntKind.wrap_i64]; omega
  clear h
  by_cases h1 : 1099511627776 - n < x
  · have HF : Hid (held (n + x + 1) = 1099511627776) := Lib.hid (by unfold held; rw [if_neg (by omega)])
    have hd : decide (1099511627776 - n < x) = true := decide_eq_true h1
    go_enter Try.func19, Try.ntmps19
    go_wp2
    refine wp_loop_rounds 1 ?_
    rw [rounds_succ]
    go_wp2
    go_ret
    exact ⟨by rw [HF.out]; rfl, (by repeat (first | (with_reducible refine Below.alloc' ?_ _) | (with_reducible refine Below.drew ?_) | (with_reducible refine below_drewN ?_ _) | ((with_reducible refine Below.setCell ?_ ?_ _); rotate_left; (focus (first | exact Nat.le_refl _ | (simp; done) | (simp; omega)))) | (with_reducible assumption) | (with_reducible exact Below.refl _ _)))⟩
  · have hd : decide (1099511627776 - n < x) = false := decide_eq_false h1
    obtain ⟨m, hm⟩ : ∃ m, m = n + x := ⟨_, rfl⟩
    have hm0 : 0 ≤ m := by omega
    have hm1 : m ≤ 1099511627776 := by omega
    have hw2 : IntKind.i64.wrap (n + x) = m := by rw [IntKind.wrap_i64]; omega
    have hg1 : decide (1099511627776 < m) = false := decide_eq_false (by omega)
    have hw3 : IntKind.i64.wrap (1099511627776 - m) = 1099511627776 - m := by rw [IntKind.wrap_i64]; omega
    have HM := Lib.hid hm
    clear hm
    by_cases h2 : 1099511627776 - m < 1
    · have HF : Hid (held (n + x + 1) = 1099511627776) := Lib.hid (by unfold held; rw [if_neg (by have := HM.out; omega)])
      have hd2 : decide (1099511627776 - m < 1) = true := decide_eq_true h2
      go_enter Try.func19, Try.ntmps19
      go_wp2
      refine wp_loop_rounds 2 ?_
      rw [rounds_succ]
      go_wp2
      rw [rounds_succ]
      go_wp2
      go_ret
      exact ⟨by rw [HF.out]; rfl, (by repeat (first | (with_reducible refine Below.alloc' ?_ _) | (with_reducible refine Below.drew ?_) | (with_reducible refine below_drewN ?_ _) | ((with_reducible refine Below.setCell ?_ ?_ _); rotate_left; (focus (first | exact Nat.le_refl _ | (simp; done) | (simp; omega)))) | (with_reducible assumption) | (with_reducible exact Below.refl _ _)))⟩
    · have HF : Hid (held (n + x + 1) = m + 1) := Lib.hid (by unfold held; rw [if_pos (by have := HM.out; omega), HM.out])
      have hd2 : decide (1099511627776 - m < 1) = false := decide_eq_false h2
      go_enter Try.func19, Try.ntmps19
      go_wp2
      refine wp_loop_rounds 3 ?_
      rw [rounds_succ]
      go_wp2
      rw [rounds_succ]
      go_wp2
      rw [rounds_succ]
      go_wp2
      go_ret
      exact ⟨by rw [HF.out]; rfl, (by repeat (first | (with_reducible refine Below.alloc' ?_ _) | (with_reducible refine Below.drew ?_) | (with_reducible refine below_drewN ?_ _) | ((with_reducible refine Below.setCell ?_ ?_ _); rotate_left; (focus (first | exact Nat.le_refl _ | (simp; done) | (simp; omega)))) | (with_reducible assumption) | (with_reducible exact Below.refl _ _)))⟩
/-- How many bytes, and rows, held. -/
def allN (ls : List (List UInt8)) (k : Nat) : Int := held ((lens ls k : Int) + (k : Int))
theorem held_add {a b : Int} (hb : 0 ≤ b) : held (held a + b) = held (a + b) := by unfold held; split <;> split <;> (try split) <;> omega
theorem allN_succ {ls : List (List UInt8)} {k : Nat} (h : k < ls.length) : held (allN ls k + (ls[k].length : Int) + 1) = allN ls (k + 1) := by
  unfold allN
  rw [lens_succ ls k h, Int.add_assoc, held_add (by omega)]
  congr 1
  omega
theorem allN_le (ls : List (List UInt8)) (k : Nat) : 0 ≤ allN ls k ∧ allN ls k ≤ 1099511627776 := by unfold allN held; split <;> omega
/-- Where counting ends. -/
def allF (ls : List (List UInt8)) : Nat → Nat → Int
  | 0, k => allN ls k
  | f + 1, k => if allN ls k ≤ 300 then allF ls f (k + 1) else allN ls k
def allZ (ls : List (List UInt8)) : Int := allF ls ls.length 0
theorem allF_few (ls : List (List UInt8)) : ∀ f k, f + k = ls.length → allF ls f k ≤ 300 → allN ls ls.length ≤ 300
  | 0, k, h, h2 => by rw [Nat.zero_add] at h; subst h; exact h2
  | f + 1, k, h, h2 => by
    rw [allF] at h2
    split at h2
    · exact allF_few ls f (k + 1) (by omega) h2
    · rename_i h3; exact absurd h2 h3
theorem allZ_few {ls : List (List UInt8)} (h : allZ ls ≤ 300) : ls.flatten.length ≤ 300 := by
  have h2 := allF_few ls _ _ rfl h
  have e : lens ls ls.length = ls.flatten.length := by unfold lens; rw [List.take_length]
  unfold allN held at h2
  rw [e] at h2
  split at h2 <;> omega
set_option maxRecDepth 100000 in
set_option maxHeartbeats 1000000 in
theorem all_any {a : Option Addr} {n cap : Nat} {ls : List (List UInt8)} {z : Int} {w : World} (h : RdRows w a n cap ls) (hz : allZ ls = z) :
    Calls Try.prog 7 #[.slice a n cap, .int .i64 300] w fun e w' => e = .returned (.int .i64 z) ∧ Below w.heap.size w w' := by
  have HZ : Hid (allF ls n 0 = z) := Lib.hid (by rw [← hz, ← h.hlen]; rfl)
  clear hz
  have HL := Lib.hid h.hlen
  have HR := Lib.hid h
  have hm63 : (n : Int) ≤ 9223372036854775807 := by have := h.hcap; have := h.hmax; unfold maxLen at *; omega
  clear h
  go_enter Try.func7, Try.ntmps7
  go_wp2
  go_loopw [5, 6] (fun s i wr => ∃ k : Nat, k ≤ n ∧ i = .int .i64 k ∧ s = .int .i64 (allN ls k) ∧ allF ls (n - k) k = z ∧ Below w.heap.size w wr) (fun _ i _ => n - (intOf i).toNat)
  case atStart => exact ⟨0, by omega, rfl, rfl, HZ.out, Below.refl _ _⟩
  case round =>
    obtain ⟨k, hk, rfl, rfl, hF, hbel⟩ := hrel
    obtain ⟨hp0, hp1⟩ := allN_le ls k
    by_cases hlt : k < n
    · by_cases h3 : allN ls k ≤ 300
      · have hd3 : decide (allN ls k ≤ 300) = true := decide_eq_true h3
        have HF : Hid (allF ls (n - (k + 1)) (k + 1) = z) := Lib.hid (by
          rw [show n - k = (n - (k + 1)) + 1 by omega, allF, if_pos h3] at hF; exact hF)
        clear hF
        have hkl : k < ls.length := by rw [HL.out]; exact hlt
        rcases HR.out.cases with ⟨h0, _⟩ | ⟨b, o, _, rfl, hget⟩
        · omega
        · obtain ⟨sa, sn, sc, hc, hr⟩ := hget k hkl
          have hc2 : wr.cell? ⟨b, o + k, none⟩ = some (.slice sa sn sc) := by rw [hbel.cell (cell_lt hc)]; exact hc
          have HS : Hid (held (allN ls k + (sn : Int) + 1) = allN ls (k + 1)) := Lib.hid (by have := allN_succ hkl; rw [hr.hlen] at this; exact this)
          have hsn : (sn : Int) ≤ 9223372036854775807 := by have := hr.hcap; have := hr.hmax; unfold maxLen at *; omega
          clear hc hr hget
          generalize allN ls k = zk at *
          go_wp2_with (go_at_call 19; go_must (refine (sum2_any (x := (sn : Int)) _ (Blk.new wr #[.int .i64 (sn : Int), .int .i64 1] 3) hp0 hp1 (by omega) (by omega)).mono ?_; rintro e w1 ⟨rfl, hb⟩; (rw [HS.out]); have hbel1 := Below.call (Below.alloc' hbel _) hb; clear hb))
          go_roundw
          case rel => exact ⟨k + 1, by omega, by go_num, rfl, HF.out, hbel1⟩
          case measure => simp [intOf]; omega
      · have hd3 : decide (allN ls k ≤ 300) = false := decide_eq_false h3
        have HF : Hid (allN ls k = z) := Lib.hid (by
          rw [show n - k = (n - (k + 1)) + 1 by omega, allF, if_neg h3] at hF; exact hF)
        clear hF
        generalize allN ls k = zk at *
        go_wp2
        go_ret
        exact ⟨by rw [← HF.out]; rfl, (by repeat (first | (with_reducible refine Below.alloc' ?_ _) | (with_reducible refine Below.drew ?_) | (with_reducible refine below_drewN ?_ _) | ((with_reducible refine Below.setCell ?_ ?_ _); rotate_left; (focus (first | exact Nat.le_refl _ | (simp; done) | (simp; omega)))) | (with_reducible assumption) | (with_reducible exact Below.refl _ _)))⟩
    · obtain rfl : k = n := by omega
      rw [Nat.sub_self] at hF
      have HF : Hid (allN ls k = z) := Lib.hid hF
      clear hF
      generalize allN ls k = zk at *
      go_wp2
      go_ret
      exact ⟨by rw [← HF.out]; rfl, (by repeat (first | (with_reducible refine Below.alloc' ?_ _) | (with_reducible refine Below.drew ?_) | (with_reducible refine below_drewN ?_ _) | ((with_reducible refine Below.setCell ?_ ?_ _); rotate_left; (focus (first | exact Nat.le_refl _ | (simp; done) | (simp; omega)))) | (with_reducible assumption) | (with_reducible exact Below.refl _ _)))⟩
theorem gAll {v : Value} {ls : List (List UInt8)} {z : Int} {w : World} (hz : allZ ls = z) (h : (IsR ls).P v w) :
    Calls Try.prog 7 #[v, .int .i64 300] w fun e w' => e = .returned (.int .i64 z) ∧ Below w.heap.size w w' := by
  obtain ⟨a, n, cap, rfl, hr⟩ := h
  exact all_any hr hz
set_option maxRecDepth 100000 in
set_option maxHeartbeats 1000000 in
theorem aCat_any {a : Option Addr} {n cap : Nat} {ls : List (List UInt8)} {w : World} (h : RdRows w a n cap ls) (hs : ls.flatten.length ≤ 70368744177664) :
    Calls Try.prog 13 #[.slice a n cap] w fun e w' => ∃ v, e = .returned v ∧ w'.ownsRow w.heap.size 5 1 v ls.flatten.length (ls.flatten.map bV) ∧ Below w.heap.size w w' := by
  have HL := Lib.hid h.hlen
  have HS := Lib.hid hs
  have HR := Lib.hid h
  have hm63 : (n : Int) ≤ 9223372036854775807 := by have := h.hcap; have := h.hmax; unfold maxLen at *; omega
  clear h hs
  go_enter Try.func13, Try.ntmps13
  go_wp2
  go_loopw [3, 4] (fun s i wr => ∃ k : Nat, k ≤ n ∧ i = .int .i64 k ∧ wr.ownsRow w.heap.size 5 1 s (lens ls k) ((ls.take k).flatten.map bV) ∧ Below w.heap.size w wr) (fun _ i _ => n - (intOf i).toNat)
  case atStart => exact ⟨0, by omega, rfl, World.ownsRow_nil _ _ _ _, Below.refl _ _⟩
  case round =>
    obtain ⟨k, hk, rfl, ho, hbel⟩ := hrel
    by_cases hlt : k < n
    · have hkl : k < ls.length := by rw [HL.out]; exact hlt
      rcases HR.out.cases with ⟨h0, _⟩ | ⟨b, o, _, rfl, hget⟩
      · omega
      · obtain ⟨sa, sn, sc, hc, hr⟩ := hget k hkl
        have hc2 : wr.cell? ⟨b, o + k, none⟩ = some (.slice sa sn sc) := by rw [hbel.cell (cell_lt hc)]; exact hc
        have e1 := lens_succ ls k hkl
        rw [hr.hlen] at e1
        have h2 := lens_le ls (k + 1)
        have hsum : lens ls k + sn ≤ 70368744177664 := by have := HS.out; omega
        have HE := Lib.hid e1
        have HF := Lib.hid (flat_succ ls k hkl)
        have HRD := Lib.hid (hr.below hbel)
        have HO := Lib.hid ho
        have HSM := Lib.hid hsum
        clear h2 e1 hc hr hget ho hsum
        go_wp2_with (at_builtin; go_must (refine app_bytes _ rfl (.tmp 11) (.tmp 15) rfl w.heap.size _ (lens ls k) ((ls.take k).flatten) rfl HO.out sa sn sc ls[k] rfl HRD.out HSM.out hbel.size w hbel ?_; intro v' w2 hown2 hbel2; have HO2 : Hid (w2.ownsRow w.heap.size 5 1 v' (lens ls (k + 1)) ((ls.take (k + 1)).flatten.map bV)) := Lib.hid (by rw [HE.out, HF.out]; exact hown2); clear hown2))
        go_roundw
        case rel => exact ⟨k + 1, by omega, by go_num, HO2.out, hbel2⟩
        case measure => simp [intOf]; omega
    · obtain rfl : k = n := by omega
      have e : lens ls k = ls.flatten.length := by unfold lens; rw [List.take_of_length_le (by rw [HL.out]; omega)]
      rw [e, List.take_of_length_le (by rw [HL.out]; omega)] at ho
      have HO := Lib.hid ho
      clear ho e
      go_wp2
      go_ret
      exact ⟨_, rfl, HO.out, hbel⟩
theorem gACat {v : Value} {ls : List (List UInt8)} {l : List UInt8} {w : World} (h : (IsR ls).P v w) (hl : ls.flatten = l) (hs : l.length ≤ 1000000) :
    Calls Try.prog 13 #[v] w fun e w' => ∃ r, e = .returned r ∧ (IsB l).P r w' ∧ Below w.heap.size w w' := by
  obtain ⟨a, n, cap, rfl, hr⟩ := h
  subst hl
  exact (aCat_any hr (by omega)).mono fun _ _ ⟨v, he, ho, hb⟩ => ⟨v, he, IsB.own ho, hb⟩
end Go.Proofs.Ytielgpefoameiaa
namespace Go.Proofs.Ytielgpefoameiaa
open Go.RowKit
/-- A digit's value. -/
def hexd (c : UInt8) : Nat := if c.toNat ≤ 57 then c.toNat - 48 else c.toNat - 87
def hexc (c : UInt8) : Bool := (decide (48 ≤ c.toNat) && decide (c.toNat ≤ 57)) || (decide (97 ≤ c.toNat) && decide (c.toNat ≤ 102))
/-- The digits s are those of the bytes l. -/
def hexB : List UInt8 → List UInt8 → Bool
  | [], [] => true
  | a :: b :: s, c :: l => hexc a && hexc b && decide (16 * hexd a + hexd b = c.toNat) && hexB s l
  | _, _ => false
theorem hexB_len : ∀ (l s : List UInt8), hexB s l = true → s.length = 2 * l.length
  | [], [], _ => rfl
  | [], _ :: _, h => by simp [hexB] at h
  | c :: l, [], h => by simp [hexB] at h
  | c :: l, [_], h => by simp [hexB] at h
  | c :: l, a :: b :: s, h => by
    simp only [hexB, Bool.and_eq_true] at h
    have := hexB_len l s h.2
    simp; omega
theorem hexB_at : ∀ (l s : List UInt8) (_ : hexB s l = true) (i : Nat) (hi : i < l.length), hexc (s.getD (2 * i) 0) = true ∧ hexc (s.getD (2 * i + 1) 0) = true ∧ 16 * hexd (s.getD (2 * i) 0) + hexd (s.getD (2 * i + 1) 0) = l[i].toNat
  | [], s, h, i, hi => by simp at hi
  | c :: l, [], h, i, hi => by simp [hexB] at h
  | c :: l, [_], h, i, hi => by simp [hexB] at h
  | c :: l, a :: b :: s, h, i, hi => by
    simp only [hexB, Bool.and_eq_true, decide_eq_true_eq] at h
    obtain ⟨⟨⟨h1, h2⟩, h3⟩, h4⟩ := h
    cases i with
    | zero => exact ⟨h1, h2, h3⟩
    | succ i =>
      have := hexB_at l s h4 i (by simpa using hi)
      rw [show 2 * (i + 1) = 2 * i + 1 + 1 by omega]
      exact this
theorem hexc_cases {c : UInt8} (h : hexc c = true) : (48 ≤ (c.toNat : Int) ∧ (c.toNat : Int) ≤ 57 ∧ (hexd c : Int) = (c.toNat : Int) - 48) ∨ (97 ≤ (c.toNat : Int) ∧ (c.toNat : Int) ≤ 102 ∧ (hexd c : Int) = (c.toNat : Int) - 97 + 10) := by
  simp only [hexc, Bool.or_eq_true, Bool.and_eq_true, decide_eq_true_eq] at h
  rcases h with ⟨h1, h2⟩ | ⟨h1, h2⟩
  · left; refine ⟨by omega, by omega, ?_⟩; unfold hexd; rw [if_pos h2]; omega
  · right; refine ⟨by omega, by omega, ?_⟩; unfold hexd; rw [if_neg (by omega)]; omega
set_option maxRecDepth 100000 in
set_option maxHeartbeats 1000000 in
theorem unhex_any (s : ByteArray) (l : List UInt8) (h : hexB s.data.toList l = true) (h0 : 0 < l.length) (hm : l.length ≤ 10000) (w : World) :
    Calls Try.prog 20 #[.string s] w fun e w' => ∃ g cap r, e = .returned (.tuple #[.slice (some ⟨g, 0, none⟩) l.length cap, .bool true]) ∧ w.heap.size ≤ g ∧ Blk w' g (l.map bV ++ r) 5 ∧ l.length ≤ cap ∧ cap ≤ maxLen ∧ Below w.heap.size w w' := by
  have hlen := hexB_len _ _ h
  have hsz : s.size = 2 * l.length := by rw [← hlen]; rfl
  have HAt := Lib.hid (hexB_at _ _ h)
  obtain ⟨n, hn⟩ : ∃ n, n = l.length := ⟨_, rfl⟩
  have hs0 : (s.size : Int) = 2 * n := by omega
  have hmod : ((2 : Int) * n).tmod 2 = 0 := by rw [Int.mul_comm, Int.mul_tmod_left]
  have HN := Lib.hid hn
  have HSZ := Lib.hid hsz
  rw [← hn] at hm h0
  clear h hlen hn hsz
  have hn0 : (0 : Int) ≤ (n : Int) := by omega
  have hn1 : (n : Int) ≤ 10000 := by omega
  go_enter Try.func20, Try.ntmps20
  go_wp2
  go_loopw [4, 5] (fun v i wr => ∃ (k : Nat) (I : Int), k ≤ n ∧ I = 2 * (k : Int) ∧ i = .int .i64 I ∧ wr.ownsRow w.heap.size 5 1 v k ((l.take k).map bV) ∧ Below w.heap.size w wr) (fun _ i _ => 2 * n - (intOf i).toNat)
  case atStart => exact ⟨0, 0, by omega, rfl, rfl, World.ownsRow_nil _ _ _ _, Below.refl _ _⟩
  case round =>
    obtain ⟨k, I, hk, hI, rfl, hown, hbel⟩ := hrel
    by_cases hlt : k < n
    · obtain ⟨q1, q2, q3⟩ := HAt.out k (by have := HN.out; omega)
      obtain ⟨C0, hC0⟩ : ∃ C : Int, C = ((s.data.toList.getD (2 * k) 0).toNat : Int) := ⟨_, rfl⟩
      obtain ⟨C1, hC1⟩ : ∃ C : Int, C = ((s.data.toList.getD (2 * k + 1) 0).toNat : Int) := ⟨_, rfl⟩
      obtain ⟨D0, hD0⟩ : ∃ D : Int, D = (hexd (s.data.toList.getD (2 * k) 0) : Int) := ⟨_, rfl⟩
      obtain ⟨D1, hD1⟩ : ∃ D : Int, D = (hexd (s.data.toList.getD (2 * k + 1) 0) : Int) := ⟨_, rfl⟩
      have hi0 : ∀ h, ((s[I.toNat]'h).toNat : Int) = C0 := fun h => by
        rw [hC0]
        have e : I.toNat = 2 * k := by omega
        rw [List.getD_eq_getElem?_getD, List.getElem?_eq_getElem (by have := HSZ.out; have := HN.out; show 2 * k < s.size; omega)]
        simp only [e]; rfl
      have hi1 : ∀ h, ((s[(I + 1).toNat]'h).toNat : Int) = C1 := fun h => by
        rw [hC1]
        have e : (I + 1).toNat = 2 * k + 1 := by omega
        rw [List.getD_eq_getElem?_getD, List.getElem?_eq_getElem (by have := HSZ.out; have := HN.out; show 2 * k + 1 < s.size; omega)]
        simp only [e]; rfl
      obtain ⟨c, hc⟩ : ∃ c, c = l[k]'(by have := HN.out; omega) := ⟨_, rfl⟩
      rw [← hc] at q3
      have hsum : 16 * D0 + D1 = (c.toNat : Int) := by omega
      have hcl := c.toNat_lt
      have HTK : Hid (l.take (k + 1) = l.take k ++ [c]) := Lib.hid (by rw [hc, List.take_succ_eq_append_getElem])
      have k0 := hexc_cases q1
      have k1 := hexc_cases q2
      rw [← hC0, ← hD0] at k0
      rw [← hC1, ← hD1] at k1
      have t1 : 0 ≤ I := by omega
      have t2 : I + 1 < 2 * (n : Int) := by omega
      have d1 : 0 ≤ D0 := by omega
      have d2 : D0 ≤ 15 := by omega
      obtain ⟨V, hV⟩ : ∃ V, V = 16 * D0 + D1 := ⟨_, rfl⟩
      have v1 : 0 ≤ V := by omega
      have v2 : V < 256 := by omega
      have HVS := Lib.hid (show V = (c.toNat : Int) by omega)
      have HV := Lib.hid hV
      clear hV
      have HI := Lib.hid hI; have HSUM := Lib.hid hsum; have HK0 := Lib.hid k0; have HK1 := Lib.hid k1
      have t3 : I < 2 * (n : Int) := by omega
      clear hc hcl q1 q2 q3 hC0 hC1 hD0 hD1 hI hsum k0 k1
      go_wp2
      go_loop [6, 7] (fun v q => (v = .int .i64 0 ∧ q = .int .i64 0) ∨ (v = .int .i64 D0 ∧ q = .int .i64 1) ∨ (v = .int .i64 V ∧ q = .int .i64 2)) (fun _ q => (2 - intOf q).toNat)
      case atStart => exact .inl ⟨rfl, rfl⟩
      case round =>
        rcases hrel with ⟨rfl, rfl⟩ | ⟨rfl, rfl⟩ | ⟨rfl, rfl⟩
        · rcases HK0.out with ⟨a1, a2, a3⟩ | ⟨a1, a2, a3⟩
          · have A3 := Lib.hid a3
            clear a3
            go_wp2
            go_round
            case rel => exact .inr (.inl ⟨by rw [A3.out], rfl⟩)
            case measure => simp [intOf]
          · have A3 := Lib.hid a3
            clear a3
            have a4 : ¬ C0 ≤ 57 := by omega
            have a5 : 48 ≤ C0 := by omega
            go_wp2
            go_round
            case rel => exact .inr (.inl ⟨by rw [A3.out], rfl⟩)
            case measure => simp [intOf]
        · rcases HK1.out with ⟨a1, a2, a3⟩ | ⟨a1, a2, a3⟩
          · have A3 := Lib.hid a3
            clear a3
            go_wp2
            go_round
            case rel => exact .inr (.inr ⟨by rw [HV.out, A3.out], rfl⟩)
            case measure => simp [intOf]
          · have A3 := Lib.hid a3
            clear a3
            have a4 : ¬ C1 ≤ 57 := by omega
            have a5 : 48 ≤ C1 := by omega
            go_wp2
            go_round
            case rel => exact .inr (.inr ⟨by rw [HV.out, A3.out]; go_num, rfl⟩)
            case measure => simp [intOf]
        · clear hi0 hi1
          have HO := Lib.hid hown
          clear hown
          have hRD : ∀ W : World, ∀ g, g = W.heap.size → RdB (W.alloc (.cells #[.int .u8 V] 5)) (some ⟨g, 0, none⟩) 1 1 [c] := fun W g hg => by
            subst hg
            rw [HVS.out]
            exact RdB.blk (l := [c]) [] (Blk.new W #[bV c] 5) rfl (by omega) (by unfold maxLen; omega)
          have HR := Lib.hid hRD
          clear hRD
          go_wp2_with (at_builtin; refine app_bytes _ rfl (.tmp 55) (.tmp 58) rfl w.heap.size _ k (l.take k) rfl (own_below HO.out (by repeat (first | (with_reducible refine Below.alloc' ?_ _) | (with_reducible refine Below.drew ?_) | (with_reducible refine below_drewN ?_ _) | ((with_reducible refine Below.setCell ?_ ?_ _); rotate_left; (focus (first | exact Nat.le_refl _ | (simp; done) | (simp; omega)))) | (with_reducible assumption) | (with_reducible exact Below.refl _ _)))) _ 1 1 [c] rfl (HR.out _ _ rfl) (by omega) (by have := hbel.size; simp; omega) w (by repeat (first | (with_reducible refine Below.alloc' ?_ _) | (with_reducible refine Below.drew ?_) | (with_reducible refine below_drewN ?_ _) | ((with_reducible refine Below.setCell ?_ ?_ _); rotate_left; (focus (first | exact Nat.le_refl _ | (simp; done) | (simp; omega)))) | (with_reducible assumption) | (with_reducible exact Below.refl _ _))) ?_; intro v' w2 hown2 hbel2; have HO2 : Hid (w2.ownsRow w.heap.size 5 1 v' (k + 1) ((l.take (k + 1)).map bV)) := Lib.hid (by rw [HTK.out]; exact hown2); clear hown2)
          go_roundw
          case rel => exact ⟨k + 1, I + 2, by omega, by rw [HI.out]; omega, rfl, HO2.out, hbel2⟩
          case measure => simp [intOf]; omega
    · obtain rfl : k = n := by omega
      rw [List.take_of_length_le (by rw [← HN.out]; omega)] at hown
      obtain ⟨g, cap, r, rfl, hg, hB, hl, hc, hm'⟩ := own_rdb hown h0
      have t9 : ¬ I < 2 * (k : Int) := by omega
      have HB := Lib.hid hB
      have HI := Lib.hid hI
      clear hB hown hI hlt hl
      go_wp2
      go_ret2
      exact ⟨g, cap, by rw [HN.out]; rfl, hg, ⟨r, HB.out⟩, by rw [← HN.out]; exact hc, hm', hbel⟩
end Go.Proofs.Ytielgpefoameiaa
namespace Go.Proofs.Ytielgpefoameiaa
open Go Go.RowKit
/-- A seed's signature. -/
def edSig (seed l : List UInt8) : List UInt8 := edSign (edA seed) (edP seed) (edPub seed) l
theorem edSig_len (seed l : List UInt8) : (edSig seed l).length = 64 := edSign_len _ _ _ _
theorem ver_sig (seed l : List UInt8) : verC (edPub seed) (edSig seed l) l = 0 := ver_sign seed l
theorem gPublicW {v : Value} {w : World} {seed : List UInt8} (h : (IsB seed).P v w) (hl : seed.length = 32) :
    Calls Try.prog 9 #[v] w fun e w' => ∃ r, e = .returned r ∧ (TwV (IsB (edPub seed)) (.int .i64 0)).P r w' ∧ Below w.heap.size w w' :=
  (gPublic h hl).mono fun _ _ ⟨r, he, hr, hb⟩ => ⟨_, he, ⟨r, rfl, hr⟩, hb⟩
theorem gSignW {v v1 : Value} {w : World} {seed l : List UInt8} {ls : List (List UInt8)} (h : (IsB seed).P v w) (h1 : (IsR ls).P v1 w) (hl : ls.flatten = l) (hs : l.length ≤ 100000) (hn : seed.length = 32) :
    Calls Try.prog 10 #[v, v1] w fun e w' => ∃ r, e = .returned r ∧ (TwV (IsB (edSig seed l)) (.int .i64 0)).P r w' ∧ Below w.heap.size w w' :=
  (gSign h h1 hl hs hn).mono fun _ _ ⟨r, he, hr, hb⟩ => ⟨_, he, ⟨r, rfl, hr⟩, hb⟩
theorem gSignNW {B : Nat} {v v1 : Value} {w : World} {seed l : List UInt8} {ls : List (List UInt8)} (hB : B ≤ w.heap.size) (h : (IsB seed).P v w) (h1 : (IsR ls).P v1 w) (hl : ls.flatten = l) (hs : l.length ≤ 100000) (hn : seed.length = 32) :
    Calls Try.prog 10 #[v, v1] w fun e w' => ∃ r, e = .returned r ∧ (TwV (NwB B (edSig seed l)) (.int .i64 0)).P r w' ∧ Below w.heap.size w w' :=
  (gSignN h h1 hl hs hn).mono fun _ _ ⟨r, he, hr, hb⟩ => ⟨_, he, ⟨r, rfl, NwB.less hr hB⟩, hb⟩
theorem gVerifyC {v0 v1 v2 : Value} {pub sig l : List UInt8} {ls : List (List UInt8)} {c : Int} {w : World} (hp : (IsB pub).P v0 w) (hs : (IsB sig).P v1 w) (h1 : (IsR ls).P v2 w) (hl : ls.flatten = l) (hm : l.length ≤ 100000) (hc : verC pub sig l = c) :
    Calls Try.prog 12 #[v0, v1, v2] w fun e w' => e = .returned (.int .i64 c) ∧ Below w.heap.size w w' := by subst hc; exact gVerify hp hs h1 hl hm
theorem gUnhex {s : ByteArray} {l : List UInt8} {w : World} (h : hexB s.data.toList l = true) (h0 : 0 < l.length) (hm : l.length ≤ 10000) :
    Calls Try.prog 20 #[.string s] w fun e w' => ∃ r, e = .returned r ∧ (TwV (IsB l) (.bool true)).P r w' ∧ Below w.heap.size w w' := by
  refine (unhex_any s l h h0 hm w).mono ?_
  rintro e w' ⟨g, c, r, rfl, _, hB, h1, h2, hb⟩
  exact ⟨_, rfl, ⟨_, rfl, IsB.mk (RdB.blk r hB rfl h1 h2)⟩, hb⟩
set_option maxRecDepth 100000 in
set_option maxHeartbeats 4000000 in
theorem law9awake_any (w : World) :
    Calls Try.prog 8 #[] w fun e w' => e = .returned (.bool true) ∧ Below w.heap.size w w' := by
  obtain ⟨SD, hK⟩ : ∃ SD, SD = awSeed := ⟨_, rfl⟩
  have HK := Lib.hid hK
  have HP : Hid ((edPub SD).take 4 = [215, 90, 152, 1]) := Lib.hid (by rw [hK]; exact aw_pub)
  have HKL : Hid (SD.length = 32) := Lib.hid (by rw [hK]; rfl)
  clear hK
  go_enter Try.func8, Try.ntmps8
  have hbel : Below w.heap.size w w := Below.refl _ _
  have hbel0 := hbel
  go_upto_region 0 with fail
  refine wp_region_turn (fun u => #[u 0, undef, undef, undef, undef, undef, undef, undef, undef, undef, undef, undef, undef, undef, undef, undef, undef, undef, undef, undef, undef, undef, undef, undef, undef, undef, undef, undef, undef, undef, undef, undef, undef, undef, undef, undef, undef]) (Holds [.oth (fun v => v = .bool false)] w) (Keep [.oth (fun v => v = .bool false)] w) (fun _ => undef) ?_ (by rfl) Keep.start (holds_soft (by kernel_rfl)) ?_ ?_
  · intro u i v h
    rcases i with _ | i
    all_goals first | (simp [Act.put, putV]; done) | (exfalso; simp at h; omega)
  · intro hs
    refine ⟨?_, trivial⟩
    · exact step_pureO hs (wants_none rfl) rfl fun L u W hG hdep => ⟨_, run_assign rfl, rfl⟩
  intro L0 u0 W0 hall hJ hG
  have hb := hJ.all rfl
  have hbel := Below.call hbel hb
  have HC0 := Lib.hid (show u0 0 = .bool false from hG 0 (by simp))
  have hbel0 := hbel
  clear hJ hG hall hb
  go_upto_region 1 with fail
  refine wp_region_turn (fun u => #[u0 0, u 4, u 5, undef, undef, undef, undef, u 1, u 0, u 2, u 3, undef, undef, undef, undef, undef, undef, undef, undef, undef, undef, undef, undef, undef, undef, undef, undef, undef, undef, undef, undef, undef, undef, undef, undef, undef, undef]) (Holds [.wld (TwV (IsB SD) (.bool true)) none, .wld (TwV (IsB SD) (.bool true)) none, .wld (IsB SD) none, .oth (fun v => v = .bool true), .wld (IsB SD) none, .oth (fun v => v = .bool true)] W0) (Keep [.wld (TwV (IsB SD) (.bool true)) none, .wld (TwV (IsB SD) (.bool true)) none, .wld (IsB SD) none, .oth (fun v => v = .bool true), .wld (IsB SD) none, .oth (fun v => v = .bool true)] W0) (fun _ => undef) ?_ (by rfl) Keep.start (holds_soft (by kernel_rfl)) ?_ ?_
  · intro u i v h
    rcases i with _ | _ | _ | _ | _ | _ | i
    all_goals first | (simp [Act.put, putV]; done) | (exfalso; simp at h; omega)
  · intro hs
    refine ⟨?_, ?_, ?_, ?_, ?_, ?_, trivial⟩
    · refine step_callP hs (wants_none rfl) rfl fun L u W hJ hG hL hdep K hK => ?_
      go_simp
      go_at_call 20
      (with_reducible refine (gUnhex (l := SD) (by rw [HK.out]; decide +kernel) (by rw [HKL.out]; omega) (by rw [HKL.out]; omega)).mono ?_); rintro e w1 ⟨r, rfl, hr, hb⟩
      have hk := hK.out _ _ hr hb
      exact hk
    · exact step_runP hs (wants_none rfl) rfl fun L u W hJ hG hL hdep => run_moveP (.inl rfl) (holds_wld (φ := TwV (IsB SD) (.bool true)) (hG 0 (hdep 0 (by kernel_rfl))) rfl till_none)
    · exact step_runP hs (wants_none rfl) rfl fun L u W hJ hG hL hdep => run_tw0 rfl (holds_wld (φ := TwV (IsB SD) (.bool true)) (hG 1 (hdep 1 (by kernel_rfl))) rfl till_none)
    · exact step_runO hs (wants_none rfl) rfl fun L u W hJ hG hL hdep => run_tw1 rfl (holds_wld (φ := TwV (IsB SD) (.bool true)) (hG 1 (hdep 1 (by kernel_rfl))) rfl till_none)
    · exact step_runP hs (wants_none rfl) rfl fun L u W hJ hG hL hdep => run_moveP (.inr rfl) (holds_wld (φ := IsB SD) (hG 2 (hdep 2 (by kernel_rfl))) rfl till_none)
    · exact step_pureO hs (wants_none rfl) rfl fun L u W hG hdep => ⟨_, run_assign rfl, (show u 3 = .bool true from hG 3 (hdep 3 (by kernel_rfl)))⟩
  intro L1 u1 W1 hall hJ hG
  have hb := hJ.all rfl
  have hbel := Below.call hbel hb
  have hw1 := holds_wld (φ := IsB SD) (hG 4 (by simp)) rfl till_none
  have HC10 := Lib.hid (show u1 3 = .bool true from hG 3 (by simp))
  have HC2 := Lib.hid (show u1 5 = .bool true from hG 5 (by simp))
  have hbel0 := hbel
  clear hJ hG hall hb
  go_upto_region 2 with fail
  refine wp_region_turn (fun u => #[u0 0, u1 4, u1 5, u 5, u 6, undef, undef, u1 1, u1 0, u1 2, u1 3, u 2, u 0, u 1, u 3, u 4, undef, undef, undef, undef, undef, undef, undef, undef, undef, undef, undef, undef, undef, undef, undef, undef, undef, undef, undef, undef, undef]) (Holds [.wld (IsB SD) none, .wld (TwV (IsB (edPub SD)) (.int .i64 0)) none, .wld (TwV (IsB (edPub SD)) (.int .i64 0)) none, .wld (IsB (edPub SD)) none, .oth (fun v => v = .int .i64 0), .wld (IsB (edPub SD)) none, .oth (fun v => v = .int .i64 0)] W1) (Keep [.wld (IsB SD) none, .wld (TwV (IsB (edPub SD)) (.int .i64 0)) none, .wld (TwV (IsB (edPub SD)) (.int .i64 0)) none, .wld (IsB (edPub SD)) none, .oth (fun v => v = .int .i64 0), .wld (IsB (edPub SD)) none, .oth (fun v => v = .int .i64 0)] W1) (fun _ => undef) ?_ (by rfl) Keep.start (holds_soft (by kernel_rfl)) ?_ ?_
  · intro u i v h
    rcases i with _ | _ | _ | _ | _ | _ | _ | i
    all_goals first | (simp [Act.put, putV]; done) | (exfalso; simp at h; omega)
  · intro hs
    refine ⟨?_, ?_, ?_, ?_, ?_, ?_, ?_, trivial⟩
    · exact step_runP hs (wants_none rfl) rfl fun L u W hJ hG hL hdep => run_moveP (.inl rfl) ((IsB SD).st _ _ _ hw1 (hJ.all rfl))
    · refine step_callP hs (wants_none rfl) rfl fun L u W hJ hG hL hdep K hK => ?_
      go_simp
      go_at_call 9
      (with_reducible refine (gPublicW (holds_wld (φ := IsB SD) (hG 0 (hdep 0 (by kernel_rfl))) rfl till_none) (HKL.out)).mono ?_); rintro e w1 ⟨r, rfl, hr, hb⟩
      have hk := hK.out _ _ hr hb
      exact hk
    · exact step_runP hs (wants_none rfl) rfl fun L u W hJ hG hL hdep => run_moveP (.inl rfl) (holds_wld (φ := TwV (IsB (edPub SD)) (.int .i64 0)) (hG 1 (hdep 1 (by kernel_rfl))) rfl till_none)
    · exact step_runP hs (wants_none rfl) rfl fun L u W hJ hG hL hdep => run_tw0 rfl (holds_wld (φ := TwV (IsB (edPub SD)) (.int .i64 0)) (hG 2 (hdep 2 (by kernel_rfl))) rfl till_none)
    · exact step_runO hs (wants_none rfl) rfl fun L u W hJ hG hL hdep => run_tw1 rfl (holds_wld (φ := TwV (IsB (edPub SD)) (.int .i64 0)) (hG 2 (hdep 2 (by kernel_rfl))) rfl till_none)
    · exact step_runP hs (wants_none rfl) rfl fun L u W hJ hG hL hdep => run_moveP (.inr rfl) (holds_wld (φ := IsB (edPub SD)) (hG 3 (hdep 3 (by kernel_rfl))) rfl till_none)
    · exact step_pureO hs (wants_none rfl) rfl fun L u W hG hdep => ⟨_, run_assign rfl, (show u 4 = .int .i64 0 from hG 4 (hdep 4 (by kernel_rfl)))⟩
  intro L2 u2 W2 hall hJ hG
  have hb := hJ.all rfl
  have hbel := Below.call hbel hb
  have hw1 := (IsB SD).st _ _ _ hw1 hb
  have hw3 := holds_wld (φ := IsB (edPub SD)) (hG 5 (by simp)) rfl till_none
  have HC4 := Lib.hid (show u2 6 = .int .i64 0 from hG 6 (by simp))
  have hbel0 := hbel
  clear hJ hG hall hb
  go_upto_region 3 with fail
  refine wp_region_turn (fun u => #[u0 0, u1 4, u1 5, u2 5, u2 6, u 4, u 5, u1 1, u1 0, u1 2, u1 3, u2 2, u2 0, u2 1, u2 3, u2 4, u 1, u 0, u 2, u 3, undef, undef, undef, undef, undef, undef, undef, undef, undef, undef, undef, undef, undef, undef, undef, undef, undef]) (Holds [.oth (fun v => v = .tuple #[.slice none 0 0, .int .i64 1]), .oth (fun v => v = .tuple #[.slice none 0 0, .int .i64 1]), .oth (fun v => v = .slice none 0 0), .oth (fun v => v = .int .i64 1), .oth (fun v => v = .slice none 0 0), .oth (fun v => v = .int .i64 1)] W2) (Keep [.oth (fun v => v = .tuple #[.slice none 0 0, .int .i64 1]), .oth (fun v => v = .tuple #[.slice none 0 0, .int .i64 1]), .oth (fun v => v = .slice none 0 0), .oth (fun v => v = .int .i64 1), .oth (fun v => v = .slice none 0 0), .oth (fun v => v = .int .i64 1)] W2) (fun _ => undef) ?_ (by rfl) Keep.start (holds_soft (by kernel_rfl)) ?_ ?_
  · intro u i v h
    rcases i with _ | _ | _ | _ | _ | _ | i
    all_goals first | (simp [Act.put, putV]; done) | (exfalso; simp at h; omega)
  · intro hs
    refine ⟨?_, ?_, ?_, ?_, ?_, ?_, trivial⟩
    · refine step_callO hs (wants_none rfl) rfl fun L u W hJ hG hL hdep K hK => ?_
      go_simp
      go_at_call 10
      (with_reducible refine (gSign_no (l := ([])) (IsB.nil W) (IsR.nil W) (rfl) (by simp) (N := 0) rfl (by omega)).mono ?_); rintro e w1 ⟨rfl, hb⟩
      have hk := hK.out _ _ rfl hb
      exact hk
    · exact step_pureO hs (wants_none rfl) rfl fun L u W hG hdep => ⟨_, run_move rfl, (show u 0 = .tuple #[.slice none 0 0, .int .i64 1] from hG 0 (hdep 0 (by kernel_rfl)))⟩
    · refine step_pureO hs (wants_none rfl) rfl fun L u W hG hdep => ⟨_, ?_, rfl⟩
      have e0 := (show u 1 = .tuple #[.slice none 0 0, .int .i64 1] from hG 1 (hdep 1 (by kernel_rfl)))
      unfold execOp
      go_simp
    · refine step_pureO hs (wants_none rfl) rfl fun L u W hG hdep => ⟨_, ?_, rfl⟩
      have e0 := (show u 1 = .tuple #[.slice none 0 0, .int .i64 1] from hG 1 (hdep 1 (by kernel_rfl)))
      unfold execOp
      go_simp
    · exact step_pureO hs (wants_none rfl) rfl fun L u W hG hdep => ⟨_, run_assign rfl, (show u 2 = .slice none 0 0 from hG 2 (hdep 2 (by kernel_rfl)))⟩
    · exact step_pureO hs (wants_none rfl) rfl fun L u W hG hdep => ⟨_, run_assign rfl, (show u 3 = .int .i64 1 from hG 3 (hdep 3 (by kernel_rfl)))⟩
  intro L3 u3 W3 hall hJ hG
  have hb := hJ.all rfl
  have hbel := Below.call hbel hb
  have hw1 := (IsB SD).st _ _ _ hw1 hb
  have hw3 := (IsB (edPub SD)).st _ _ _ hw3 hb
  have HC6 := Lib.hid (show u3 5 = .int .i64 1 from hG 5 (by simp))
  have hbel0 := hbel
  clear hJ hG hall hb
  go_upto_region 4 with fail
  refine wp_region_turn (fun u => #[u 17, u1 4, u1 5, u2 5, u2 6, u3 4, u3 5, u1 1, u1 0, u1 2, u1 3, u2 2, u2 0, u2 1, u2 3, u2 4, u3 1, u3 0, u3 2, u3 3, u 0, u 1, u 2, u 3, u 4, u 5, u 6, u 7, u 8, u 9, u 10, u 11, u 12, u 13, u 14, u 15, u 16]) (Holds [.oth (fun v => v = .int .i64 0), .oth (fun v => v = .bool true), .oth (fun v => v = .bool true), .wld (IsB (edPub SD)) none, .oth (fun v => v = .int .i64 32), .oth (fun v => v = .bool true), .oth (fun v => v = .bool true), .oth (fun v => v = .bool true), .wld (IsB (edPub SD)) none, .wld (IsB ((edPub SD).take 4)) none, .oth (fun v => v = (.string (bs ((edPub SD).take 4)))), .oth (fun v => v = .bool true), .oth (fun v => v = .bool true), .oth (fun v => v = .bool true), .oth (fun v => v = .int .i64 1), .oth (fun v => v = .bool true), .oth (fun v => v = .bool true), .oth (fun v => v = .bool true)] W3) (Keep [.oth (fun v => v = .int .i64 0), .oth (fun v => v = .bool true), .oth (fun v => v = .bool true), .wld (IsB (edPub SD)) none, .oth (fun v => v = .int .i64 32), .oth (fun v => v = .bool true), .oth (fun v => v = .bool true), .oth (fun v => v = .bool true), .wld (IsB (edPub SD)) none, .wld (IsB ((edPub SD).take 4)) none, .oth (fun v => v = (.string (bs ((edPub SD).take 4)))), .oth (fun v => v = .bool true), .oth (fun v => v = .bool true), .oth (fun v => v = .bool true), .oth (fun v => v = .int .i64 1), .oth (fun v => v = .bool true), .oth (fun v => v = .bool true), .oth (fun v => v = .bool true)] W3) (fun k => ((undef :: undef :: undef :: undef :: undef :: undef :: undef :: undef :: undef :: undef :: undef :: undef :: undef :: undef :: undef :: undef :: undef :: u0 0 :: []) : List Value).getD k undef) ?_ (by rfl) Keep.start (holds_soft (by kernel_rfl)) ?_ ?_
  · intro u i v h
    rcases i with _ | _ | _ | _ | _ | _ | _ | _ | _ | _ | _ | _ | _ | _ | _ | _ | _ | _ | i
    all_goals first | (simp [Act.put, putV]; done) | (exfalso; simp at h; omega)
  · intro hs
    refine ⟨?_, ?_, ?_, ?_, ?_, ?_, ?_, ?_, ?_, ?_, ?_, ?_, ?_, ?_, ?_, ?_, ?_, ?_, trivial⟩
    · exact step_pureO hs (wants_none rfl) rfl fun L u W hG hdep => ⟨_, run_move rfl, HC4.out⟩
    · refine step_pureO hs (wants_none rfl) rfl fun L u W hG hdep => ⟨_, ?_, rfl⟩
      have e0 := (show u 0 = .int .i64 0 from hG 0 (hdep 0 (by kernel_rfl)))
      go_simp
      try simp [bne]
    · exact step_pureO hs (wants_none rfl) rfl fun L u W hG hdep => ⟨_, run_move rfl, (show u 1 = .bool true from hG 1 (hdep 1 (by kernel_rfl)))⟩
    · exact step_runP hs (wants_on 2 rfl rfl (by kernel_rfl) (fun _ => rfl)) rfl fun L u W hJ hG hL hdep => run_moveP (.inl rfl) ((IsB (edPub SD)).st _ _ _ hw3 (hJ.all rfl))
    · exact step_runO hs (wants_on 2 rfl rfl (by kernel_rfl) (fun _ => rfl)) rfl fun L u W hJ hG hL hdep => run_lenP rfl (holds_wld (φ := IsB (edPub SD)) (hG 3 (hdep 3 (by kernel_rfl))) rfl till_none) (by rw [edPub_len]; rfl)
    · refine step_pureO hs (wants_on 2 rfl rfl (by kernel_rfl) (fun _ => rfl)) rfl fun L u W hG hdep => ⟨_, ?_, rfl⟩
      have e0 := (show u 4 = .int .i64 32 from hG 4 (hdep 4 (by kernel_rfl)))
      go_simp
      try simp [bne]
    · exact step_pick true hs (wants_none rfl) rfl rfl (fun L u W hG hdep => (show u 2 = .bool true from hG 2 (hdep 2 (by kernel_rfl)))) (fun L u W hG hdep => (show u 5 = .bool true from hG 5 (hdep 5 (by kernel_rfl))))
    · exact step_pureO hs (wants_none rfl) rfl fun L u W hG hdep => ⟨_, run_move rfl, (show u 6 = .bool true from hG 6 (hdep 6 (by kernel_rfl)))⟩
    · exact step_runP hs (wants_on 7 rfl rfl (by kernel_rfl) (fun _ => rfl)) rfl fun L u W hJ hG hL hdep => run_moveP (.inl rfl) ((IsB (edPub SD)).st _ _ _ hw3 (hJ.all rfl))
    · exact step_runP hs (wants_on 7 rfl rfl (by kernel_rfl) (fun _ => rfl)) rfl fun L u W hJ hG hL hdep => run_toP (k := 4) rfl rfl (holds_wld (φ := IsB (edPub SD)) (hG 8 (hdep 8 (by kernel_rfl))) rfl till_none) (by have h9 : ((edPub SD).length : Int) = 32 := (by rw [edPub_len]; rfl); omega)
    · exact step_runO hs (wants_on 7 rfl rfl (by kernel_rfl) (fun _ => rfl)) rfl fun L u W hJ hG hL hdep => run_convP rfl (holds_wld (φ := IsB ((edPub SD).take 4)) (hG 9 (hdep 9 (by kernel_rfl))) rfl till_none)
    · exact step_pureO hs (wants_on 7 rfl rfl (by kernel_rfl) (fun _ => rfl)) rfl fun L u W hG hdep => ⟨_, run_eqlS rfl (show u 10 = (.string (bs ((edPub SD).take 4))) from hG 10 (hdep 10 (by kernel_rfl))) rfl, by rw [HP.out]; simp⟩
    · exact step_pick true hs (wants_none rfl) rfl rfl (fun L u W hG hdep => (show u 7 = .bool true from hG 7 (hdep 7 (by kernel_rfl)))) (fun L u W hG hdep => (show u 11 = .bool true from hG 11 (hdep 11 (by kernel_rfl))))
    · exact step_pureO hs (wants_none rfl) rfl fun L u W hG hdep => ⟨_, run_move rfl, (show u 12 = .bool true from hG 12 (hdep 12 (by kernel_rfl)))⟩
    · exact step_pureO hs (wants_on 13 rfl rfl (by kernel_rfl) (fun _ => rfl)) rfl fun L u W hG hdep => ⟨_, run_move rfl, HC6.out⟩
    · refine step_pureO hs (wants_on 13 rfl rfl (by kernel_rfl) (fun _ => rfl)) rfl fun L u W hG hdep => ⟨_, ?_, rfl⟩
      have e0 := (show u 14 = .int .i64 1 from hG 14 (hdep 14 (by kernel_rfl)))
      go_simp
      try simp [bne]
    · exact step_pick true hs (wants_none rfl) rfl rfl (fun L u W hG hdep => (show u 13 = .bool true from hG 13 (hdep 13 (by kernel_rfl)))) (fun L u W hG hdep => (show u 15 = .bool true from hG 15 (hdep 15 (by kernel_rfl))))
    · exact step_pureO hs (wants_none rfl) rfl fun L u W hG hdep => ⟨_, run_assign rfl, (show u 16 = .bool true from hG 16 (hdep 16 (by kernel_rfl)))⟩
  intro L4 u4 W4 hall hJ hG
  have hb := hJ.all rfl
  have hbel := Below.call hbel hb
  have hw1 := (IsB SD).st _ _ _ hw1 hb
  have hw3 := (IsB (edPub SD)).st _ _ _ hw3 hb
  have HC21 := Lib.hid (show u4 1 = .bool true from hG 1 (by simp))
  have HC22 := Lib.hid (show u4 2 = .bool true from hG 2 (by simp))
  have HC25 := Lib.hid (show u4 5 = .bool true from hG 5 (by simp))
  have HC26 := Lib.hid (show u4 6 = .bool true from hG 6 (by simp))
  have HC27 := Lib.hid (show u4 7 = .bool true from hG 7 (by simp))
  have HC31 := Lib.hid (show u4 11 = .bool true from hG 11 (by simp))
  have HC32 := Lib.hid (show u4 12 = .bool true from hG 12 (by simp))
  have HC33 := Lib.hid (show u4 13 = .bool true from hG 13 (by simp))
  have HC35 := Lib.hid (show u4 15 = .bool true from hG 15 (by simp))
  have HC36 := Lib.hid (show u4 16 = .bool true from hG 16 (by simp))
  have HC0 := Lib.hid (show u4 17 = .bool true from hG 17 (by simp))
  have hbel0 := hbel
  clear hJ hG hall hb
  go_wp2
  go_ret
  exact ⟨by rw [HC0.out]; rfl, hbel⟩
end Go.Proofs.Ytielgpefoameiaa
namespace Go.Proofs.Ytielgpefoameiaa
/-- Byte m of a number. -/
def dB (n m : Nat) : Nat := n / 256 ^ m % 256
theorem dB_lt (n m : Nat) : dB n m < 256 := Nat.mod_lt _ (by omega)
/-- Cell i of a number's n bytes, the greatest first. -/
def bR (n x i : Nat) : Nat := dB x (n - 1 - i)
theorem pow256 (m : Nat) : 0 < 256 ^ m := Nat.pow_pos (by omega)
theorem div_succ256 (n m : Nat) : n / 256 ^ (m + 1) = n / 256 ^ m / 256 := by rw [Nat.pow_succ, Nat.div_div_eq_div_mul]
end Go.Proofs.Ytielgpefoameiaa
namespace Go.Proofs.Ytielgpefoameiaa
open Go.RowKit
/-- New bytes. -/
def NewBy (w : World) (l : List UInt8) (e : Ending) (w' : World) : Prop := ∃ g n cap r, e = .returned (.slice (some ⟨g, 0, none⟩) n cap) ∧ w.heap.size ≤ g ∧ Blk w' g (l.map bV ++ r) 5 ∧ l.length = n ∧ n ≤ cap ∧ cap ≤ maxLen ∧ Below w.heap.size w w'
theorem order_row : row 32 (uV (bR 32 Lq)) = [.int .u8 16, .int .u8 0, .int .u8 0, .int .u8 0, .int .u8 0, .int .u8 0, .int .u8 0, .int .u8 0, .int .u8 0, .int .u8 0, .int .u8 0, .int .u8 0, .int .u8 0, .int .u8 0, .int .u8 0, .int .u8 0, .int .u8 20, .int .u8 222, .int .u8 249, .int .u8 222, .int .u8 162, .int .u8 247, .int .u8 156, .int .u8 214, .int .u8 88, .int .u8 18, .int .u8 99, .int .u8 26, .int .u8 92, .int .u8 245, .int .u8 211, .int .u8 237] := by kernel_rfl
set_option maxRecDepth 100000 in
theorem rorder_any (w : World) : Calls Try.prog 31 #[] w fun e w' => e = .returned (.slice (some ⟨w.heap.size, 0, none⟩) 32 32) ∧ Blk w' w.heap.size (row 32 (uV (bR 32 Lq))) 5 ∧ Below w.heap.size w w' := by
  go_enter Try.func31, Try.ntmps31
  go_wp2
  go_ret
  refine ⟨rfl, ?_, (by repeat (first | (with_reducible refine Below.alloc' ?_ _) | (with_reducible refine Below.drew ?_) | (with_reducible refine below_drewN ?_ _) | ((with_reducible refine Below.setCell ?_ ?_ _); rotate_left; (focus (first | exact Nat.le_refl _ | (simp; done) | (simp; omega)))) | (with_reducible assumption) | (with_reducible exact Below.refl _ _)))⟩
  rw [order_row]
  exact Blk.new w _ _
theorem drop_rev (l : List UInt8) (j : Nat) (h : j < l.length) : (l.drop j).reverse = (l.drop (j + 1)).reverse ++ [l[j]] := by
  rw [List.drop_eq_getElem_cons h, List.reverse_cons]
set_option maxRecDepth 100000 in
set_option maxHeartbeats 1000000 in
theorem rturned_any {a : Option Addr} {n cap : Nat} {l : List UInt8} (w : World) (h : RdB w a n cap l) (h0 : 0 < n) (hn : n ≤ 1000) :
    Calls Try.prog 30 #[.slice a n cap] w (NewBy w l.reverse) := by
  have hlen := h.hlen
  rcases h.cases with ⟨h1, _⟩ | ⟨b, o, _, rfl, hc⟩
  · omega
  have HC := Lib.hid hc
  have HL := Lib.hid hlen
  clear h hc hlen
  have hn' : (n : Int) ≤ 1000 := by omega
  go_enter Try.func30, Try.ntmps30
  go_wp2
  go_loopw [3, 4] (fun v i wr => ∃ j : Nat, j ≤ n ∧ i = .int .i64 ((j : Int) - 1) ∧ wr.ownsRow w.heap.size 5 1 v (n - j) ((l.drop j).reverse.map bV) ∧ Below w.heap.size w wr) (fun _ i _ => (intOf i + 1).toNat)
  case atStart => exact ⟨n, Nat.le_refl _, rfl, by rw [List.drop_eq_nil_of_le (by rw [HL.out]; exact Nat.le_refl _), Nat.sub_self]; exact World.ownsRow_nil _ _ _ _, Below.refl _ _⟩
  case round =>
    obtain ⟨j, hj, rfl, hown, hbel⟩ := hrel
    by_cases hj0 : j = 0
    · subst hj0
      rw [List.drop_zero, Nat.sub_zero] at hown
      obtain ⟨g, cap', r, rfl, hg, hB, hl, hcc, hm⟩ := own_rdb hown h0
      have HB := Lib.hid hB
      clear hown hB
      rw [show (((0 : Nat) : Int) - 1) = -1 from rfl]
      go_wp2
      go_ret
      exact ⟨g, n, cap', r, rfl, hg, HB.out, by simpa using hl, hcc, hm, hbel⟩
    · obtain ⟨i, rfl⟩ : ∃ i, j = i + 1 := ⟨j - 1, by omega⟩
      have hil : i < l.length := by have := HL.out; omega
      rw [show (((i + 1 : Nat) : Int) - 1) = (i : Int) from by omega]
      have hin : (i : Int) < (n : Int) := by omega
      have hi0 : (0 : Int) ≤ (i : Int) := by omega
      have c0 := HC.out i hil
      have HD := Lib.hid (drop_rev l i hil)
      generalize l[i] = c at *
      have c1 : wr.cell? ⟨b, o + i, none⟩ = some (bV c) := by rw [hbel.cell (cell_lt c0)]; exact c0
      unfold bV at c1
      have HO := Lib.hid hown
      have hsz : n - (i + 1) ≤ 1000 := by omega
      clear hown c0 hj0
      go_wp2_with (at_builtin; refine app_bytes _ rfl (.tmp 12) (.tmp 17) rfl w.heap.size _ (n - (i + 1)) _ rfl (own_below HO.out (by repeat (first | (with_reducible refine Below.alloc' ?_ _) | (with_reducible refine Below.drew ?_) | (with_reducible refine below_drewN ?_ _) | ((with_reducible refine Below.setCell ?_ ?_ _); rotate_left; (focus (first | exact Nat.le_refl _ | (simp; done) | (simp; omega)))) | (with_reducible assumption) | (with_reducible exact Below.refl _ _)))) _ 1 1 [c] rfl (RdB.blk (l := [c]) [] (Blk.new wr #[.int .u8 (c.toNat : Int)] 5) rfl (by omega) (by unfold maxLen; omega)) (by omega) (by have := hbel.size; simp; omega) w (by repeat (first | (with_reducible refine Below.alloc' ?_ _) | (with_reducible refine Below.drew ?_) | (with_reducible refine below_drewN ?_ _) | ((with_reducible refine Below.setCell ?_ ?_ _); rotate_left; (focus (first | exact Nat.le_refl _ | (simp; done) | (simp; omega)))) | (with_reducible assumption) | (with_reducible exact Below.refl _ _))) ?_; intro v' w2 hown2 hbel2; have HO2 : Hid (w2.ownsRow w.heap.size 5 1 v' (n - i) ((l.drop i).reverse.map bV)) := Lib.hid (by rw [HD.out]; have e : n - i = n - (i + 1) + 1 := (by omega); rw [e]; exact hown2); clear hown2)
      go_roundw
      case rel => exact ⟨i, by omega, rfl, HO2.out, hbel2⟩
      case measure => simp [intOf]
end Go.Proofs.Ytielgpefoameiaa
namespace Go.Proofs.Ytielgpefoameiaa
open Go.RowKit
end Go.Proofs.Ytielgpefoameiaa
namespace Go.Proofs.Ytielgpefoameiaa
open Go.RowKit
theorem rowB (n x : Nat) : row n (uV (bR n x)) = ((leB n x).reverse).map bV := by
  apply List.ext_getElem
  · simp [row, leB_len]
  · intro i h1 h2
    have hi : i < n := by simpa [row] using h1
    simp only [row, List.getElem_map, List.getElem_range, List.getElem_reverse, leB_get, leB_len, bV, uV, bR, dB, UInt8.toNat_ofNat']
    rw [p256]
/-- The carry of a sum into byte m. -/
def cyB (a b m : Nat) : Nat := (a % 256 ^ m + b % 256 ^ m) / 256 ^ m
theorem cyB_zero (a b : Nat) : cyB a b 0 = 0 := by simp [cyB, Nat.mod_one]
theorem cyB_le (a b m : Nat) : cyB a b m ≤ 1 := by
  have h1 := Nat.mod_lt a (pow256 m); have h2 := Nat.mod_lt b (pow256 m)
  unfold cyB
  have : (a % 256 ^ m + b % 256 ^ m) / 256 ^ m < 2 := by rw [Nat.div_lt_iff_lt_mul (pow256 m)]; omega
  omega
theorem add_div256 (a b m : Nat) : (a + b) / 256 ^ m = a / 256 ^ m + b / 256 ^ m + cyB a b m := by
  have ea := Nat.div_add_mod a (256 ^ m)
  have eb := Nat.div_add_mod b (256 ^ m)
  have : a + b = (a % 256 ^ m + b % 256 ^ m) + 256 ^ m * (a / 256 ^ m + b / 256 ^ m) := by rw [Nat.mul_add]; omega
  rw [this, Nat.add_mul_div_left _ _ (pow256 m), Nat.add_comm]; rfl
theorem add_step (a b m : Nat) : dB (a + b) m = (dB a m + dB b m + cyB a b m) % 256 ∧ cyB a b (m + 1) = (dB a m + dB b m + cyB a b m) / 256 := by
  have e1 := add_div256 a b m
  have e2 := add_div256 a b (m + 1)
  have e3 := div_succ256 a m
  have e4 := div_succ256 b m
  have e5 := div_succ256 (a + b) m
  have h1 := cyB_le a b m
  have h2 := cyB_le a b (m + 1)
  unfold dB
  generalize cyB a b m = c at *
  generalize cyB a b (m + 1) = c' at *
  generalize (a + b) / 256 ^ (m + 1) = s' at *
  generalize (a + b) / 256 ^ m = s at *
  generalize a / 256 ^ (m + 1) = a' at *
  generalize b / 256 ^ (m + 1) = b' at *
  generalize a / 256 ^ m = x at *
  generalize b / 256 ^ m = y at *
  constructor <;> omega
/-- The value of a row, the greatest first. -/
def hv (f : Nat → Nat) : Nat → Nat
  | 0 => 0
  | n + 1 => 256 * hv f n + f n
theorem hv_congr {f g : Nat → Nat} : ∀ n, (∀ i, i < n → f i = g i) → hv f n = hv g n
  | 0, _ => rfl
  | n + 1, h => by simp only [hv]; rw [hv_congr n (fun i hi => h i (by omega)), h n (by omega)]
def updN (c : Nat → Nat) (m v i : Nat) : Nat := if i = m then v else c i
theorem hv_upd (c : Nat → Nat) (m a : Nat) : ∀ n, hv (updN c m (c m + a)) (m + 1 + n) = hv c (m + 1 + n) + a * 256 ^ n
  | 0 => by
    show 256 * hv (updN c m (c m + a)) m + updN c m (c m + a) m = 256 * hv c m + c m + a * 256 ^ 0
    rw [hv_congr (f := updN c m (c m + a)) (g := c) m (fun i hi => by unfold updN; rw [if_neg (by omega)])]
    simp only [updN, if_true]; omega
  | n + 1 => by
    show 256 * hv (updN c m (c m + a)) (m + 1 + n) + updN c m (c m + a) (m + 1 + n) = 256 * hv c (m + 1 + n) + c (m + 1 + n) + a * 256 ^ (n + 1)
    rw [hv_upd c m a n, Nat.pow_succ]
    simp only [updN, if_neg (show ¬ m + 1 + n = m by omega)]
    grind
def MB : Nat := 65025
structure MbIn (f g c : Nat → Nat) (i k : Nat) : Prop where
  lo : ∀ j, c j ≤ (i + 1) * MB
  hi : ∀ j, i + k + 1 ≤ j → c j ≤ i * MB
  v : hv c 64 = hv f i * 256 ^ (32 - i) * hv g 32 + f i * 256 ^ (31 - i) * (hv g k * 256 ^ (32 - k))
structure MbOut (f g c : Nat → Nat) (i : Nat) : Prop where
  lo : ∀ j, c j ≤ i * MB
  v : hv c 64 = hv f i * 256 ^ (32 - i) * hv g 32
theorem MbOut.start (f g : Nat → Nat) : MbOut f g (fun _ => 0) 0 := ⟨fun _ => by omega, by
  rw [show hv f 0 = 0 from rfl]
  simp only [Nat.zero_mul]
  have : ∀ n, hv (fun _ => 0) n = 0 := fun n => by induction n with | zero => rfl | succ n ih => simp [hv, ih]
  exact this 64⟩
theorem MbOut.into {f g c : Nat → Nat} {i : Nat} (h : MbOut f g c i) : MbIn f g c i 0 :=
  ⟨fun j => Nat.le_trans (h.lo j) (Nat.mul_le_mul_right _ (by omega)), fun j _ => h.lo j, by rw [h.v, show hv g 0 = 0 from rfl, Nat.zero_mul, Nat.mul_zero, Nat.add_zero]⟩
theorem MbIn.step {f g c : Nat → Nat} {i k : Nat} (h : MbIn f g c i k) (hk : k < 32) (hi : i < 32) (hp : f i * g k ≤ MB) : MbIn f g (updN c (i + k + 1) (c (i + k + 1) + f i * g k)) i (k + 1) := by
  have e : (i + 1) * MB = i * MB + MB := by rw [Nat.add_mul, Nat.one_mul]
  refine ⟨fun j => ?_, fun j hj => ?_, ?_⟩
  · unfold updN
    split
    · have := h.hi (i + k + 1) (Nat.le_refl _); omega
    · exact h.lo j
  · unfold updN
    rw [if_neg (by omega)]
    exact h.hi j (by omega)
  · have e64 : (64 : Nat) = i + k + 1 + 1 + (62 - i - k) := by omega
    have hu := hv_upd c (i + k + 1) (f i * g k) (62 - i - k)
    rw [← e64] at hu
    rw [hu, h.v]
    show _ = _ + f i * 256 ^ (31 - i) * ((256 * hv g k + g k) * 256 ^ (32 - (k + 1)))
    have e1 : 62 - i - k = (31 - i) + (31 - k) := by omega
    have e2 : 32 - k = (31 - k) + 1 := by omega
    have e3 : 32 - (k + 1) = 31 - k := by omega
    rw [e1, e2, e3, Nat.pow_add 256 (31 - i) (31 - k), Nat.pow_succ]
    generalize hv f i * 256 ^ (32 - i) * hv g 32 = A
    generalize hv g k = B
    generalize 256 ^ (31 - i) = C
    generalize 256 ^ (31 - k) = D
    clear h hu e e64 e1 e2 e3 hp hk hi
    generalize f i = p
    generalize g k = q
    grind
theorem MbIn.out {f g c : Nat → Nat} {i : Nat} (hi : i < 32) (h : MbIn f g c i 32) : MbOut f g c (i + 1) :=
  ⟨h.lo, by
    rw [h.v, Nat.sub_self, Nat.pow_zero, Nat.mul_one]
    show _ = (256 * hv f i + f i) * 256 ^ (32 - (i + 1)) * hv g 32
    rw [show 32 - (i + 1) = 31 - i by omega, show 32 - i = (31 - i) + 1 by omega, Nat.pow_succ]
    generalize hv f i = A
    generalize 256 ^ (31 - i) = C
    generalize hv g 32 = D
    clear h hi
    generalize f i = p
    grind⟩
end Go.Proofs.Ytielgpefoameiaa
namespace Go.Proofs.Ytielgpefoameiaa
open Go.RowKit
/-- A whole row of bytes of a number reads as them. -/
theorem rdRow {w : World} {g n E x : Nat} (h : Blk w g (row n (uV (bR n x))) E) (hm : n ≤ maxLen) : RdB w (some ⟨g, 0, none⟩) n n ((leB n x).reverse) := by
  rw [rowB] at h
  exact RdB.blk (l := (leB n x).reverse) [] (by simpa using h) (by simp [leB_len]) (Nat.le_refl _) hm
theorem NewBy.on {w w1 w' : World} {l : List UInt8} {e : Ending} (h : NewBy w1 l e w') (hb : Below w.heap.size w w1) : NewBy w l e w' := by
  obtain ⟨g, n, cap, r, he, hg, hB, h1, h2, h3, hb'⟩ := h
  exact ⟨g, n, cap, r, he, Nat.le_trans hb.size hg, hB, h1, h2, h3, Below.call hb hb'⟩
end Go.Proofs.Ytielgpefoameiaa
namespace Go.Proofs.Ytielgpefoameiaa
open Go.RowKit
end Go.Proofs.Ytielgpefoameiaa
namespace Go.Proofs.Ytielgpefoameiaa
open Go.RowKit
end Go.Proofs.Ytielgpefoameiaa
namespace Go.Proofs.Ytielgpefoameiaa
open Go Go.RowKit
theorem own_Blk {w : World} {base g cap : Nat} {l : List UInt8} (h : w.ownsRow base 5 1 (.slice (some ⟨g, 0, none⟩) l.length cap) l.length (l.map bV)) : ∃ r, Blk w g (l.map bV ++ r) 5 ∧ l.length ≤ cap ∧ cap ≤ maxLen := by
  obtain ⟨h1, h2⟩ := h
  simp at h1
  rcases h2 with ⟨h, _⟩ | ⟨g', cap', cur, hv, hg, hh, hc, hm, hs, ht⟩
  · cases h
  · simp at hv
    obtain ⟨rfl, rfl⟩ := hv
    refine ⟨cur.toList.drop l.length, ?_, hc, hm⟩
    unfold Blk
    rw [hh]
    rw [Nat.mul_one] at ht
    rw [← ht, List.take_append_drop]
theorem own_rdb2 {w : World} {base E n : Nat} {v : Value} {l : List UInt8} (h : w.ownsRow base E 1 v n (l.map bV)) (hn : 0 < n) :
    ∃ g cap r, v = .slice (some ⟨g, 0, none⟩) n cap ∧ base ≤ g ∧ Blk w g (l.map bV ++ r) E ∧ l.length = n ∧ n ≤ cap ∧ cap ≤ maxLen ∧ n + r.length = cap := by
  obtain ⟨h1, h2⟩ := h
  simp at h1
  rcases h2 with ⟨_, h0⟩ | ⟨g, cap, cur, hv, hg, hh, hc, hm, hs, ht⟩
  · omega
  · refine ⟨g, cap, cur.toList.drop n, hv, hg, ?_, h1, hc, hm, ?_⟩
    · unfold Blk
      rw [hh, ← ht, Nat.mul_one, List.take_append_drop]
    · rw [List.length_drop, Array.length_toList, hs]; omega
/-- New bytes, alone in a new block. -/
def NewO (w : World) (l : List UInt8) (e : Ending) (w' : World) : Prop := ∃ g cap, e = .returned (.slice (some ⟨g, 0, none⟩) l.length cap) ∧ w'.ownsRow w.heap.size 5 1 (.slice (some ⟨g, 0, none⟩) l.length cap) l.length (l.map bV) ∧ Below w.heap.size w w'
theorem own_of {w : World} {base g n cap : Nat} {l : List UInt8} {r : List Value} (h : Blk w g (l.map bV ++ r) 5) (hg : base ≤ g) (hn : l.length = n) (hc : n ≤ cap) (hm : cap ≤ maxLen) (hr : n + r.length = cap) : w.ownsRow base 5 1 (.slice (some ⟨g, 0, none⟩) n cap) n (l.map bV) := by
  subst hn
  refine ⟨by simp, .inr ⟨g, cap, (l.map bV ++ r).toArray, rfl, hg, h, hc, hm, by simp; omega, ?_⟩⟩
  rw [List.toList_toArray, Nat.mul_one, List.take_left' (by simp)]
section
variable {α : Type} {R : Rp α} {ops : Array Oper} {wt : Nat → Nat → Bool} {Q : Exit → Act → World → Prop} {fr : (Nat → Value) → Array Value} {df : List Deferred} {l : List Fact} {W0 : World} {i : Nat} {o : Oper}
/-- 'append(s, x...)', where s is a slice of the statement's own, and x is any. -/
theorem step_appG {x y : Operand} {l1 l2 : List UInt8} {v : Nat} (j : Nat) (hg : Wants ops wt fr (Holds l W0) i o true) (ho : o.op = .call { callee := .builtin .append, args := #[x, y], argTypes := #[22, 22] })
    (hf : factAt l i = .own (l1 ++ l2) v) (hj : factAt l j = .own l1 i) (hw : wt i j = true) (hx : ∀ u, (⟨fr u, df⟩ : Act).eval x = u j)
    (hns : l.any Fact.isSto = false)
    (hy : ∀ L u W, Below W0.heap.size W0 W → (∀ k, L k = true → Holds l W0 k L u W) → L i = false → (∀ d, wt i d = true → L d = true) → ∃ sa m sc, (⟨fr u, df⟩ : Act).eval y = .slice sa m sc ∧ RdB W sa m sc l2) (hlen : l1.length + l2.length ≤ 70368744177664)
    (hbe : ∀ k, (factAt l k).beside = true ∨ Path wt k i) (hgone : ∀ k l' v', factAt l k = .rdt l' v' → v' = i ∨ Path wt i v' ∨ Path wt k i) :
    StepAt Try.prog ops wt Q fr df (Holds l W0) (Keep l W0) i o := by
  intro L u W hcl hJ hG hL hdep K hK
  rw [if_pos (hg L u W hG hdep)]
  have hGj := hG j (hdep j hw)
  unfold Holds at hGj
  rw [hj] at hGj
  simp only at hGj
  obtain ⟨g, cap, e1, hb0, hlt, hown⟩ := hGj
  have hown := hown hL
  have hB : Below W0.heap.size W0 W := hJ.all hns
  obtain ⟨sa, m, sc, hy, hr⟩ := hy L u W hB hG hL hdep
  obtain rfl : l2.length = m := hr.hlen
  obtain ⟨g', cap', w', hrun, hown', hgr, hfr⟩ := run_app_own W W0.heap.size o.type hown hr hlen hJ.size
  have hrun' : (execOp (⟨fr u, df⟩ : Act).eval o).run Try.prog W = .ok (.value (.slice (some ⟨g', 0, none⟩) (l1.length + l2.length) cap')) w' := by
    unfold execOp
    simp only [ho, resolve, invoke, builtin, Sem.run_bind, Sem.run_pure, Result.andThen_ok, List.map_toArray, List.map_cons, List.map_nil, hx, e1, hy, hrun]
  unfold Oper.wp
  rw [hrun']
  have hKeep : Keep l W0 (putL L i) (putV u i (.slice (some ⟨g', 0, none⟩) (l1.length + l2.length) cap')) w' :=
    hJ.ownNew hG hgr (fun q hq => by cases hq; exact hb0) (by
      rcases hfr with rfl | hfr
      · exact .inr ⟨j, l1, _, _, hj, hdep j hw, hL, e1⟩
      · exact .inl hfr)
  refine hK.out _ _ hKeep (fun k hk hki hwk hh => ?_) ?_
  · have hbk : (factAt l k).beside = true := by
      rcases hbe k with h | hp
      · exact h
      · have := hp.listed hcl hk
        rw [hL] at this; cases this
    unfold Holds at hh ⊢
    cases hfk : factAt l k with
    | any => trivial
    | val R xs => simp only [hfk] at hh ⊢; rw [putV_ne hki]; exact hh
    | ptr g o => simp only [hfk] at hh ⊢; rw [putV_ne hki]; exact hh
    | oth φ => simp only [hfk] at hh ⊢; rw [putV_ne hki]; exact hh
    | rdt l' v' =>
      simp only [hfk] at hh ⊢
      rw [putV_ne hki]
      obtain ⟨q, n, c, r, h1, h2, h3, h4, h5, h6⟩ := hh
      refine ⟨q, n, c, r, h1, h2, h3, h4, h5, fun hl => ?_⟩
      exfalso
      rcases hgone k l' v' hfk with rfl | hp | hp
      · rw [putL_same] at hl; cases hl
      · have := hp.first hcl hdep
        rw [putL_false hl] at this; cases this
      · have := hp.listed hcl hk
        rw [hL] at this; cases this
    | own l' v' =>
      simp only [hfk] at hh ⊢
      rw [putV_ne hki]
      obtain ⟨q, c, h1, h2, h3, h4⟩ := hh
      refine ⟨q, c, h1, h2, Nat.lt_of_lt_of_le h3 hgr.size, fun hl => ?_⟩
      have hne : j ≠ k := by
        rintro rfl
        rw [hj] at hfk
        cases hfk
        exact putL_false' hl rfl
      have hqg : q ≠ g := by
        rintro rfl
        exact hJ.own j k q _ _ _ _ l1 i l' v' hne hj hfk (hdep j hw) hk hL (putL_false hl) e1 h1
      exact own_keep (h4 (putL_false hl)) (hgr.block q h3 (by simpa using hqg))
    | _ => rw [hfk] at hbk; cases hbk
  · unfold Holds; rw [hf]; simp only; rw [putV_same]
    refine ⟨g', cap', by rw [List.length_append], ?_, ?_, fun _ => by rw [List.length_append]; exact hown'⟩
    · rcases hfr with rfl | hfr
      · exact hb0
      · exact Nat.le_trans hJ.size hfr
    · exact (hown'.lt g' rfl).2
theorem own_read {L : Nat → Bool} {u : Nat → Value} {W : World} {l2 : List UInt8} (j : Nat) (hG : ∀ k, L k = true → Holds l W0 k L u W) (hL : L i = false) (hj : factAt l j = .own l2 i) (hd : L j = true) : ∃ sa m sc, u j = .slice sa m sc ∧ RdB W sa m sc l2 := by
  have h := hG j hd
  unfold Holds at h
  rw [hj] at h
  simp only at h
  obtain ⟨g, cap, h1, h2, h3, h4⟩ := h
  exact ⟨_, _, cap, h1, own_RdB (h4 hL)⟩
theorem own_baseB {w : World} {b b' E n m c g : Nat} {xs : List Value} (h : w.ownsRow b E 1 (.slice (some ⟨g, 0, none⟩) m c) n xs) (hb : b' ≤ b) : w.ownsRow b' E 1 (.slice (some ⟨g, 0, none⟩) m c) n xs := by
  obtain ⟨h1, h2⟩ := h
  refine ⟨h1, ?_⟩
  rcases h2 with h2 | ⟨g', cap, cur, hv, hg, hh, r⟩
  · exact .inl h2
  · exact .inr ⟨g', cap, cur, hv, Nat.le_trans hb hg, hh, r⟩
theorem own_is {w : World} {b E n m c g : Nat} {xs : List Value} (h : w.ownsRow b E 1 (.slice (some ⟨g, 0, none⟩) m c) n xs) : b ≤ g ∧ g < w.heap.size := by
  rcases h.2 with ⟨h2, _⟩ | ⟨g', cap, cur, hv, hg, hh, r⟩
  · cases h2
  · simp at hv
    obtain ⟨rfl, _⟩ := hv
    refine ⟨hg, ?_⟩
    rcases Nat.lt_or_ge g w.heap.size with h | h
    · exact h
    · rw [Array.getElem?_eq_none h] at hh; cases hh
/-- A call that hands back bytes of its own. -/
theorem step_callOwn {m : List UInt8} {v : Nat} (hs : Soft wt (Holds l W0)) (hg : Wants ops wt fr (Holds l W0) i o true) (hf : factAt l i = .own m v)
    (h : ∀ L u w, Keep l W0 L u w → (∀ k, L k = true → Holds l W0 k L u w) → L i = false → (∀ d, wt i d = true → L d = true) → ∀ K : Act → World → Prop,
      Shut (∀ g cap w', w'.ownsRow w.heap.size 5 1 (.slice (some ⟨g, 0, none⟩) m.length cap) m.length (m.map bV) → Below w.heap.size w w' → K ((⟨fr u, df⟩ : Act).put o.dst (.slice (some ⟨g, 0, none⟩) m.length cap)) w') → Oper.wp Try.prog o ⟨fr u, df⟩ w K Q) :
    StepAt Try.prog ops wt Q fr df (Holds l W0) (Keep l W0) i o :=
  StepAt.soft hs hg fun L u W _ hJ hG hL hdep K hK => h L u W hJ hG hL hdep K (fun g cap w' hown hb => by
    obtain ⟨h1, h2⟩ := own_is hown
    refine hK.out _ w' hb (hJ.ownNew hG (row := none) ⟨hb.os, hb.tape, hb.output, hb.size, fun b hlt _ => hb.block b hlt⟩ (fun q hq => by cases hq) (.inl h1)) ?_
    unfold Holds; rw [hf]; simp only; rw [putV_same]
    exact ⟨g, cap, rfl, Nat.le_trans hJ.size h1, h2, fun _ => own_baseB hown hJ.size⟩)
/-- Such a slice is put into a variable: from now on it is a new slice of these bytes. -/
theorem step_assignOwn {x : Operand} {m : List UInt8} (j : Nat) (hs : Soft wt (Holds l W0)) (hg : Wants ops wt fr (Holds l W0) i o true) (ho : o.op = .assign x ∨ o.op = .move x) (hf : factAt l i = .rd m)
    (hj : factAt l j = .own m i) (hw : wt i j = true) (hx : ∀ u, (⟨fr u, df⟩ : Act).eval x = u j) : StepAt Try.prog ops wt Q fr df (Holds l W0) (Keep l W0) i o := by
  refine StepAt.soft hs hg fun L u W hcl hJ hG hL hdep K hK => ?_
  have h := hG j (hdep j hw)
  unfold Holds at h
  rw [hj] at h
  simp only at h
  obtain ⟨g, cap, h1, h2, h3, h4⟩ := h
  obtain ⟨r, hB, hc, hm⟩ := own_Blk (h4 hL)
  have hrun : (execOp (⟨fr u, df⟩ : Act).eval o).run Try.prog W = .ok (.value (u j)) W := by
    rcases ho with ho | ho
    · unfold execOp; simp only [ho, hx, Sem.run_pure]
    · unfold execOp; simp only [ho, hx, Sem.run_pure]
  unfold Oper.wp
  rw [hrun]
  refine hK.out _ _ (Below.refl _ _) (hJ.later (Below.refl _ _) (by rw [hf]; rfl)) ?_
  unfold Holds; rw [hf]; simp only; rw [putV_same]
  exact ⟨g, _, cap, r, h1, h2, hB, rfl, hc, hm⟩
end
end Go.Proofs.Ytielgpefoameiaa
