/- Of chapter 9, EdSigners: for every input the law returns true, and each argument reads behind the call as it read before. No condition. -/
import Derived.Test.YtielgpefoameiaaZEAF
import Derived.ProofKit
import Derived.ShutString
import Derived.ChangeOld
namespace Go.Proofs.Ytielgpefoameiaa
open Go Go.ChangeShapes Go.WideShapes Go.ChangeAt Go.RowKit
open Go.ChangeMaps (open_string shut_string)

set_option maxRecDepth 100000 in
set_option maxHeartbeats 8000000 in
theorem edSigners_few {w : World} {va : Value} {la : List UInt8} {vb : Value} {lb : List UInt8} {vc : Value} {lsc : List (List UInt8)} (ha : (IsB la).P va w) (hb : (IsB lb).P vb w) (hc : (IsR lsc).P vc w) (t0 : la.length = 32) (t1 : lb.length = 32) (t2 : allZ lsc ≤ 300) :
    Calls Try.prog 6 #[va, vb, vc] w fun e w' => e = .returned (.bool true) ∧ Below w.heap.size w w' := by
  have T0 := Lib.hid t0; clear t0
  have T1 := Lib.hid t1; clear t1
  have T2 := Lib.hid t2; clear t2
  obtain ⟨z, hz⟩ : ∃ z, allZ lsc = z := ⟨_, rfl⟩
  have HZ := Lib.hid hz; clear hz
  obtain ⟨lc, hlc⟩ : ∃ l, lsc.flatten = l := ⟨_, rfl⟩
  have HM : Hid (lc.length ≤ 300) := Lib.hid (by rw [← hlc]; exact allZ_few T2.out)
  have HLC := Lib.hid hlc; clear hlc
  go_enter Try.func6, Try.ntmps6
  have hbel : Below w.heap.size w w := Below.refl _ _
  have hbel0 := hbel
  go_upto_region 0 with fail
  refine wp_region_turn (fun u => (va :: vb :: vc :: undef :: undef :: undef :: u 0 :: undef :: undef :: undef :: undef :: undef :: undef :: undef :: undef :: undef :: undef :: undef :: undef :: undef :: undef :: undef :: undef :: undef :: undef :: undef :: undef :: undef :: undef :: undef :: undef :: undef :: undef :: undef :: undef :: undef :: undef :: undef :: undef :: undef :: undef :: undef :: undef :: undef :: undef :: undef :: undef :: undef :: undef :: undef :: undef :: undef :: undef :: undef :: undef :: undef :: undef :: undef :: undef :: undef :: undef :: undef :: undef :: undef :: undef :: undef :: undef :: undef :: undef :: undef :: undef :: undef :: undef :: undef :: undef :: undef :: undef :: undef :: undef :: undef :: undef :: undef :: undef :: undef :: undef :: undef :: undef :: undef :: undef :: undef :: undef :: undef :: undef :: undef :: undef :: undef :: undef :: undef :: undef :: undef :: undef :: undef :: undef :: undef :: undef :: undef :: undef :: undef :: undef :: undef :: undef :: undef :: undef :: undef :: []).toArray) (Holds [.oth (fun v => v = .bool false)] w) (Keep [.oth (fun v => v = .bool false)] w) (fun _ => undef) ?_ (by rfl) Keep.start (holds_soft (by kernel_rfl)) ?_ ?_
  · intro u i v h
    rcases i with _ | i
    all_goals first | (simp [Act.put, putV]; done) | (exfalso; simp at h; omega)
  · intro hs
    refine ⟨?_, trivial⟩
    · exact step_pureO hs (wants_none rfl) rfl fun L u W hG hdep => ⟨_, run_assign rfl, rfl⟩
  intro L0 u0 W0 hall hJ hG
  have hb := hJ.all rfl
  have hbel := Below.call hbel hb
  have HC6 := Lib.hid (show u0 0 = .bool false from hG 0 (by simp))
  have hbel0 := hbel
  clear hJ hG hall hb
  go_upto_region 1 with fail
  refine wp_region_turn (fun u => (va :: vb :: vc :: undef :: undef :: undef :: u0 0 :: undef :: undef :: undef :: undef :: undef :: undef :: undef :: undef :: undef :: undef :: u 0 :: u 1 :: u 2 :: u 3 :: u 4 :: u 5 :: u 6 :: u 7 :: u 8 :: u 9 :: u 10 :: u 11 :: u 12 :: undef :: undef :: undef :: undef :: undef :: undef :: undef :: undef :: undef :: undef :: undef :: undef :: undef :: undef :: undef :: undef :: undef :: undef :: undef :: undef :: undef :: undef :: undef :: undef :: undef :: undef :: undef :: undef :: undef :: undef :: undef :: undef :: undef :: undef :: undef :: undef :: undef :: undef :: undef :: undef :: undef :: undef :: undef :: undef :: undef :: undef :: undef :: undef :: undef :: undef :: undef :: undef :: undef :: undef :: undef :: undef :: undef :: undef :: undef :: undef :: undef :: undef :: undef :: undef :: undef :: undef :: undef :: undef :: undef :: undef :: undef :: undef :: undef :: undef :: undef :: undef :: undef :: undef :: undef :: undef :: undef :: undef :: undef :: undef :: []).toArray) (Holds [.wld (IsB la) none, .oth (fun v => v = .int .i64 32), .oth (fun v => v = .bool false), .oth (fun v => v = .bool false), .wld (IsB lb) none, .oth (fun v => v = .int .i64 32), .oth (fun v => v = .bool false), .oth (fun v => v = .bool false), .oth (fun v => v = .bool false), .wld (IsR lsc) none, .oth (fun v => v = .int .i64 z), .oth (fun v => v = .bool false), .oth (fun v => v = .bool false)] W0) (Keep [.wld (IsB la) none, .oth (fun v => v = .int .i64 32), .oth (fun v => v = .bool false), .oth (fun v => v = .bool false), .wld (IsB lb) none, .oth (fun v => v = .int .i64 32), .oth (fun v => v = .bool false), .oth (fun v => v = .bool false), .oth (fun v => v = .bool false), .wld (IsR lsc) none, .oth (fun v => v = .int .i64 z), .oth (fun v => v = .bool false), .oth (fun v => v = .bool false)] W0) (fun _ => undef) ?_ (by rfl) Keep.start (holds_soft (by kernel_rfl)) ?_ ?_
  · intro u i v h
    rcases i with _ | _ | _ | _ | _ | _ | _ | _ | _ | _ | _ | _ | _ | i
    all_goals first | (simp [Act.put, putV]; done) | (exfalso; simp at h; omega)
  · intro hs
    refine ⟨?_, ?_, ?_, ?_, ?_, ?_, ?_, ?_, ?_, ?_, ?_, ?_, ?_, trivial⟩
    · exact step_runP hs (wants_none rfl) rfl fun L u W hJ hG hL hdep => run_moveP (.inl rfl) ((IsB la).st _ _ _ ha (Below.call hbel (hJ.all rfl)))
    · exact step_runO hs (wants_none rfl) rfl fun L u W hJ hG hL hdep => run_lenP rfl (holds_wld (φ := IsB la) (hG 0 (hdep 0 (by kernel_rfl))) rfl till_none) (by rw [T0.out]; rfl)
    · refine step_pureO hs (wants_none rfl) rfl fun L u W hG hdep => ⟨_, ?_, rfl⟩
      have e0 := (show u 1 = .int .i64 32 from hG 1 (hdep 1 (by kernel_rfl)))
      go_simp
      try simp [bne]
    · exact step_pureO hs (wants_none rfl) rfl fun L u W hG hdep => ⟨_, run_move rfl, (show u 2 = .bool false from hG 2 (hdep 2 (by kernel_rfl)))⟩
    · exact step_runP hs (wants_on 3 rfl rfl (by kernel_rfl) (fun _ => rfl)) rfl fun L u W hJ hG hL hdep => run_moveP (.inl rfl) ((IsB lb).st _ _ _ hb (Below.call hbel (hJ.all rfl)))
    · exact step_runO hs (wants_on 3 rfl rfl (by kernel_rfl) (fun _ => rfl)) rfl fun L u W hJ hG hL hdep => run_lenP rfl (holds_wld (φ := IsB lb) (hG 4 (hdep 4 (by kernel_rfl))) rfl till_none) (by rw [T1.out]; rfl)
    · refine step_pureO hs (wants_on 3 rfl rfl (by kernel_rfl) (fun _ => rfl)) rfl fun L u W hG hdep => ⟨_, ?_, rfl⟩
      have e0 := (show u 5 = .int .i64 32 from hG 5 (hdep 5 (by kernel_rfl)))
      go_simp
      try simp [bne]
    · exact step_pick false hs (wants_none rfl) rfl rfl (fun L u W hG hdep => (show u 3 = .bool false from hG 3 (hdep 3 (by kernel_rfl)))) (fun L u W hG hdep => (show u 6 = .bool false from hG 6 (hdep 6 (by kernel_rfl))))
    · exact step_pureO hs (wants_none rfl) rfl fun L u W hG hdep => ⟨_, run_move rfl, (show u 7 = .bool false from hG 7 (hdep 7 (by kernel_rfl)))⟩
    · exact step_runP hs (wants_on 8 rfl rfl (by kernel_rfl) (fun _ => rfl)) rfl fun L u W hJ hG hL hdep => run_moveP (.inl rfl) ((IsR lsc).st _ _ _ hc (Below.call hbel (hJ.all rfl)))
    · refine step_callO hs (wants_on 8 rfl rfl (by kernel_rfl) (fun _ => rfl)) rfl fun L u W hJ hG hL hdep K hK => ?_
      go_simp
      go_at_call 7
      (with_reducible refine (gAll (z := z) HZ.out (holds_wld (φ := IsR lsc) (hG 9 (hdep 9 (by kernel_rfl))) rfl till_none)).mono ?_); rintro e w1 ⟨rfl, hb⟩
      have hk := hK.out _ _ rfl hb
      exact hk
    · refine step_pureO hs (wants_on 8 rfl rfl (by kernel_rfl) (fun _ => rfl)) rfl fun L u W hG hdep => ⟨_, ?_, rfl⟩
      have e0 := (show u 10 = .int .i64 z from hG 10 (hdep 10 (by kernel_rfl)))
      have e9 : decide (300 < z) = false := decide_eq_false (by rw [← HZ.out]; have := T2.out; omega)
      go_simp
      try exact e9
    · exact step_pick false hs (wants_none rfl) rfl rfl (fun L u W hG hdep => (show u 8 = .bool false from hG 8 (hdep 8 (by kernel_rfl)))) (fun L u W hG hdep => (show u 11 = .bool false from hG 11 (hdep 11 (by kernel_rfl))))
  intro L1 u1 W1 hall hJ hG
  have hb := hJ.all rfl
  have hbel := Below.call hbel hb
  have HC19 := Lib.hid (show u1 2 = .bool false from hG 2 (by simp))
  have HC20 := Lib.hid (show u1 3 = .bool false from hG 3 (by simp))
  have HC23 := Lib.hid (show u1 6 = .bool false from hG 6 (by simp))
  have HC24 := Lib.hid (show u1 7 = .bool false from hG 7 (by simp))
  have HC25 := Lib.hid (show u1 8 = .bool false from hG 8 (by simp))
  have HC28 := Lib.hid (show u1 11 = .bool false from hG 11 (by simp))
  have HC29 := Lib.hid (show u1 12 = .bool false from hG 12 (by simp))
  have hbel0 := hbel
  clear hJ hG hall hb
  have hx : u1 12 = .bool false := HC29.out
  go_wp2_with fail
  rw [hx]
  clear hx
  go_upto_region 3 with fail
  refine wp_region_turn (fun u => (va :: vb :: vc :: undef :: undef :: undef :: u0 0 :: u 5 :: u 6 :: undef :: undef :: undef :: undef :: undef :: undef :: undef :: undef :: u1 0 :: u1 1 :: u1 2 :: u1 3 :: u1 4 :: u1 5 :: u1 6 :: u1 7 :: u1 8 :: u1 9 :: u1 10 :: u1 11 :: .bool false :: undef :: u 2 :: u 0 :: u 1 :: u 3 :: u 4 :: undef :: undef :: undef :: undef :: undef :: undef :: undef :: undef :: undef :: undef :: undef :: undef :: undef :: undef :: undef :: undef :: undef :: undef :: undef :: undef :: undef :: undef :: undef :: undef :: undef :: undef :: undef :: undef :: undef :: undef :: undef :: undef :: undef :: undef :: undef :: undef :: undef :: undef :: undef :: undef :: undef :: undef :: undef :: undef :: undef :: undef :: undef :: undef :: undef :: undef :: undef :: undef :: undef :: undef :: undef :: undef :: undef :: undef :: undef :: undef :: undef :: undef :: undef :: undef :: undef :: undef :: undef :: undef :: undef :: undef :: undef :: undef :: undef :: undef :: undef :: undef :: undef :: undef :: []).toArray) (Holds [.wld (IsB la) none, .wld (TwV (StP [fNum rS [edA la], fB (edP la), fB (edPub la)]) (.int .i64 0)) none, .wld (TwV (StP [fNum rS [edA la], fB (edP la), fB (edPub la)]) (.int .i64 0)) none, .wld (StP [fNum rS [edA la], fB (edP la), fB (edPub la)]) none, .oth (fun v => v = .int .i64 0), .wld (StP [fNum rS [edA la], fB (edP la), fB (edPub la)]) none, .oth (fun v => v = .int .i64 0)] W1) (Keep [.wld (IsB la) none, .wld (TwV (StP [fNum rS [edA la], fB (edP la), fB (edPub la)]) (.int .i64 0)) none, .wld (TwV (StP [fNum rS [edA la], fB (edP la), fB (edPub la)]) (.int .i64 0)) none, .wld (StP [fNum rS [edA la], fB (edP la), fB (edPub la)]) none, .oth (fun v => v = .int .i64 0), .wld (StP [fNum rS [edA la], fB (edP la), fB (edPub la)]) none, .oth (fun v => v = .int .i64 0)] W1) (fun _ => undef) ?_ (by rfl) Keep.start (holds_soft (by kernel_rfl)) ?_ ?_
  · intro u i v h
    rcases i with _ | _ | _ | _ | _ | _ | _ | i
    all_goals first | (simp [Act.put, putV]; done) | (exfalso; simp at h; omega)
  · intro hs
    refine ⟨?_, ?_, ?_, ?_, ?_, ?_, ?_, trivial⟩
    · exact step_runP hs (wants_none rfl) rfl fun L u W hJ hG hL hdep => run_moveP (.inl rfl) ((IsB la).st _ _ _ ha (Below.call hbel (hJ.all rfl)))
    · refine step_callP hs (wants_none rfl) rfl fun L u W hJ hG hL hdep K hK => ?_
      go_simp
      go_at_call 16
      (with_reducible refine (gNewSigner' (holds_wld (φ := IsB la) (hG 0 (hdep 0 (by kernel_rfl))) rfl till_none) (T0.out)).mono ?_); rintro e w1 ⟨r, rfl, hr, hb⟩
      have hk := hK.out _ _ hr hb
      exact hk
    · exact step_runP hs (wants_none rfl) rfl fun L u W hJ hG hL hdep => run_moveP (.inl rfl) (holds_wld (φ := TwV (StP [fNum rS [edA la], fB (edP la), fB (edPub la)]) (.int .i64 0)) (hG 1 (hdep 1 (by kernel_rfl))) rfl till_none)
    · exact step_runP hs (wants_none rfl) rfl fun L u W hJ hG hL hdep => run_tw0 rfl (holds_wld (φ := TwV (StP [fNum rS [edA la], fB (edP la), fB (edPub la)]) (.int .i64 0)) (hG 2 (hdep 2 (by kernel_rfl))) rfl till_none)
    · exact step_runO hs (wants_none rfl) rfl fun L u W hJ hG hL hdep => run_tw1 rfl (holds_wld (φ := TwV (StP [fNum rS [edA la], fB (edP la), fB (edPub la)]) (.int .i64 0)) (hG 2 (hdep 2 (by kernel_rfl))) rfl till_none)
    · exact step_runP hs (wants_none rfl) rfl fun L u W hJ hG hL hdep => run_moveP (.inr rfl) (holds_wld (φ := StP [fNum rS [edA la], fB (edP la), fB (edPub la)]) (hG 3 (hdep 3 (by kernel_rfl))) rfl till_none)
    · exact step_pureO hs (wants_none rfl) rfl fun L u W hG hdep => ⟨_, run_assign rfl, (show u 4 = .int .i64 0 from hG 4 (hdep 4 (by kernel_rfl)))⟩
  intro L3 u3 W3 hall hJ hG
  have hb := hJ.all rfl
  have hbel := Below.call hbel hb
  have hw7 := holds_wld (φ := StP [fNum rS [edA la], fB (edP la), fB (edPub la)]) (hG 5 (by simp)) rfl till_none
  have HC8 := Lib.hid (show u3 6 = .int .i64 0 from hG 6 (by simp))
  have hbel0 := hbel
  clear hJ hG hall hb
  go_upto_region 4 with fail
  refine wp_region_turn (fun u => (va :: vb :: vc :: undef :: undef :: undef :: u0 0 :: u3 5 :: u3 6 :: u 5 :: u 6 :: undef :: undef :: undef :: undef :: undef :: undef :: u1 0 :: u1 1 :: u1 2 :: u1 3 :: u1 4 :: u1 5 :: u1 6 :: u1 7 :: u1 8 :: u1 9 :: u1 10 :: u1 11 :: .bool false :: undef :: u3 2 :: u3 0 :: u3 1 :: u3 3 :: u3 4 :: u 2 :: u 0 :: u 1 :: u 3 :: u 4 :: undef :: undef :: undef :: undef :: undef :: undef :: undef :: undef :: undef :: undef :: undef :: undef :: undef :: undef :: undef :: undef :: undef :: undef :: undef :: undef :: undef :: undef :: undef :: undef :: undef :: undef :: undef :: undef :: undef :: undef :: undef :: undef :: undef :: undef :: undef :: undef :: undef :: undef :: undef :: undef :: undef :: undef :: undef :: undef :: undef :: undef :: undef :: undef :: undef :: undef :: undef :: undef :: undef :: undef :: undef :: undef :: undef :: undef :: undef :: undef :: undef :: undef :: undef :: undef :: undef :: undef :: undef :: undef :: undef :: undef :: undef :: undef :: undef :: []).toArray) (Holds [.wld (IsB lb) none, .wld (TwV (StP [fNum rS [edA lb], fB (edP lb), fB (edPub lb)]) (.int .i64 0)) none, .wld (TwV (StP [fNum rS [edA lb], fB (edP lb), fB (edPub lb)]) (.int .i64 0)) none, .wld (StP [fNum rS [edA lb], fB (edP lb), fB (edPub lb)]) none, .oth (fun v => v = .int .i64 0), .wld (StP [fNum rS [edA lb], fB (edP lb), fB (edPub lb)]) none, .oth (fun v => v = .int .i64 0)] W3) (Keep [.wld (IsB lb) none, .wld (TwV (StP [fNum rS [edA lb], fB (edP lb), fB (edPub lb)]) (.int .i64 0)) none, .wld (TwV (StP [fNum rS [edA lb], fB (edP lb), fB (edPub lb)]) (.int .i64 0)) none, .wld (StP [fNum rS [edA lb], fB (edP lb), fB (edPub lb)]) none, .oth (fun v => v = .int .i64 0), .wld (StP [fNum rS [edA lb], fB (edP lb), fB (edPub lb)]) none, .oth (fun v => v = .int .i64 0)] W3) (fun _ => undef) ?_ (by rfl) Keep.start (holds_soft (by kernel_rfl)) ?_ ?_
  · intro u i v h
    rcases i with _ | _ | _ | _ | _ | _ | _ | i
    all_goals first | (simp [Act.put, putV]; done) | (exfalso; simp at h; omega)
  · intro hs
    refine ⟨?_, ?_, ?_, ?_, ?_, ?_, ?_, trivial⟩
    · exact step_runP hs (wants_none rfl) rfl fun L u W hJ hG hL hdep => run_moveP (.inl rfl) ((IsB lb).st _ _ _ hb (Below.call hbel (hJ.all rfl)))
    · refine step_callP hs (wants_none rfl) rfl fun L u W hJ hG hL hdep K hK => ?_
      go_simp
      go_at_call 16
      (with_reducible refine (gNewSigner' (holds_wld (φ := IsB lb) (hG 0 (hdep 0 (by kernel_rfl))) rfl till_none) (T1.out)).mono ?_); rintro e w1 ⟨r, rfl, hr, hb⟩
      have hk := hK.out _ _ hr hb
      exact hk
    · exact step_runP hs (wants_none rfl) rfl fun L u W hJ hG hL hdep => run_moveP (.inl rfl) (holds_wld (φ := TwV (StP [fNum rS [edA lb], fB (edP lb), fB (edPub lb)]) (.int .i64 0)) (hG 1 (hdep 1 (by kernel_rfl))) rfl till_none)
    · exact step_runP hs (wants_none rfl) rfl fun L u W hJ hG hL hdep => run_tw0 rfl (holds_wld (φ := TwV (StP [fNum rS [edA lb], fB (edP lb), fB (edPub lb)]) (.int .i64 0)) (hG 2 (hdep 2 (by kernel_rfl))) rfl till_none)
    · exact step_runO hs (wants_none rfl) rfl fun L u W hJ hG hL hdep => run_tw1 rfl (holds_wld (φ := TwV (StP [fNum rS [edA lb], fB (edP lb), fB (edPub lb)]) (.int .i64 0)) (hG 2 (hdep 2 (by kernel_rfl))) rfl till_none)
    · exact step_runP hs (wants_none rfl) rfl fun L u W hJ hG hL hdep => run_moveP (.inr rfl) (holds_wld (φ := StP [fNum rS [edA lb], fB (edP lb), fB (edPub lb)]) (hG 3 (hdep 3 (by kernel_rfl))) rfl till_none)
    · exact step_pureO hs (wants_none rfl) rfl fun L u W hG hdep => ⟨_, run_assign rfl, (show u 4 = .int .i64 0 from hG 4 (hdep 4 (by kernel_rfl)))⟩
  intro L4 u4 W4 hall hJ hG
  have hb := hJ.all rfl
  have hbel := Below.call hbel hb
  have hw7 := (StP [fNum rS [edA la], fB (edP la), fB (edPub la)]).st _ _ _ hw7 hb
  have hw9 := holds_wld (φ := StP [fNum rS [edA lb], fB (edP lb), fB (edPub lb)]) (hG 5 (by simp)) rfl till_none
  have HC10 := Lib.hid (show u4 6 = .int .i64 0 from hG 6 (by simp))
  have hbel0 := hbel
  clear hJ hG hall hb
  go_upto_region 5 with fail
  refine wp_region_turn (fun u => (va :: vb :: vc :: undef :: undef :: undef :: u0 0 :: u3 5 :: u3 6 :: u4 5 :: u4 6 :: undef :: undef :: undef :: undef :: undef :: undef :: u1 0 :: u1 1 :: u1 2 :: u1 3 :: u1 4 :: u1 5 :: u1 6 :: u1 7 :: u1 8 :: u1 9 :: u1 10 :: u1 11 :: .bool false :: undef :: u3 2 :: u3 0 :: u3 1 :: u3 3 :: u3 4 :: u4 2 :: u4 0 :: u4 1 :: u4 3 :: u4 4 :: u 0 :: u 1 :: u 2 :: u 3 :: u 4 :: u 5 :: u 6 :: u 7 :: u 8 :: u 9 :: u 10 :: u 11 :: u 12 :: u 13 :: undef :: undef :: undef :: undef :: undef :: undef :: undef :: undef :: undef :: undef :: undef :: undef :: undef :: undef :: undef :: undef :: undef :: undef :: undef :: undef :: undef :: undef :: undef :: undef :: undef :: undef :: undef :: undef :: undef :: undef :: undef :: undef :: undef :: undef :: undef :: undef :: undef :: undef :: undef :: undef :: undef :: undef :: undef :: undef :: undef :: undef :: undef :: undef :: undef :: undef :: undef :: undef :: undef :: undef :: undef :: undef :: undef :: undef :: undef :: []).toArray) (Holds [.oth (fun v => v = .int .i64 0), .oth (fun v => v = .bool false), .oth (fun v => v = .bool false), .oth (fun v => v = .int .i64 0), .oth (fun v => v = .bool false), .oth (fun v => v = .bool false), .oth (fun v => v = .bool false), .wld (StP [fNum rS [edA la], fB (edP la), fB (edPub la)]) none, .oth (fun v => v = .bool false), .oth (fun v => v = .bool false), .oth (fun v => v = .bool false), .wld (StP [fNum rS [edA lb], fB (edP lb), fB (edPub lb)]) none, .oth (fun v => v = .bool false), .oth (fun v => v = .bool false)] W4) (Keep [.oth (fun v => v = .int .i64 0), .oth (fun v => v = .bool false), .oth (fun v => v = .bool false), .oth (fun v => v = .int .i64 0), .oth (fun v => v = .bool false), .oth (fun v => v = .bool false), .oth (fun v => v = .bool false), .wld (StP [fNum rS [edA la], fB (edP la), fB (edPub la)]) none, .oth (fun v => v = .bool false), .oth (fun v => v = .bool false), .oth (fun v => v = .bool false), .wld (StP [fNum rS [edA lb], fB (edP lb), fB (edPub lb)]) none, .oth (fun v => v = .bool false), .oth (fun v => v = .bool false)] W4) (fun _ => undef) ?_ (by rfl) Keep.start (holds_soft (by kernel_rfl)) ?_ ?_
  · intro u i v h
    rcases i with _ | _ | _ | _ | _ | _ | _ | _ | _ | _ | _ | _ | _ | _ | i
    all_goals first | (simp [Act.put, putV]; done) | (exfalso; simp at h; omega)
  · intro hs
    refine ⟨?_, ?_, ?_, ?_, ?_, ?_, ?_, ?_, ?_, ?_, ?_, ?_, ?_, ?_, trivial⟩
    · exact step_pureO hs (wants_none rfl) rfl fun L u W hG hdep => ⟨_, run_move rfl, HC8.out⟩
    · refine step_pureO hs (wants_none rfl) rfl fun L u W hG hdep => ⟨_, ?_, rfl⟩
      have e0 := (show u 0 = .int .i64 0 from hG 0 (hdep 0 (by kernel_rfl)))
      go_simp
      try simp [bne]
    · exact step_pureO hs (wants_none rfl) rfl fun L u W hG hdep => ⟨_, run_move rfl, (show u 1 = .bool false from hG 1 (hdep 1 (by kernel_rfl)))⟩
    · exact step_pureO hs (wants_on 2 rfl rfl (by kernel_rfl) (fun _ => rfl)) rfl fun L u W hG hdep => ⟨_, run_move rfl, HC10.out⟩
    · refine step_pureO hs (wants_on 2 rfl rfl (by kernel_rfl) (fun _ => rfl)) rfl fun L u W hG hdep => ⟨_, ?_, rfl⟩
      have e0 := (show u 3 = .int .i64 0 from hG 3 (hdep 3 (by kernel_rfl)))
      go_simp
      try simp [bne]
    · exact step_pick false hs (wants_none rfl) rfl rfl (fun L u W hG hdep => (show u 2 = .bool false from hG 2 (hdep 2 (by kernel_rfl)))) (fun L u W hG hdep => (show u 4 = .bool false from hG 4 (hdep 4 (by kernel_rfl))))
    · exact step_pureO hs (wants_none rfl) rfl fun L u W hG hdep => ⟨_, run_move rfl, (show u 5 = .bool false from hG 5 (hdep 5 (by kernel_rfl)))⟩
    · exact step_runP hs (wants_on 6 rfl rfl (by kernel_rfl) (fun _ => rfl)) rfl fun L u W hJ hG hL hdep => run_moveP (.inl rfl) ((StP [fNum rS [edA la], fB (edP la), fB (edPub la)]).st _ _ _ hw7 (hJ.all rfl))
    · exact step_runO hs (wants_on 6 rfl rfl (by kernel_rfl) (fun _ => rfl)) rfl fun L u W hJ hG hL hdep => run_eqlNil Try.underlying39 rfl rfl (holds_wld (φ := StP [fNum rS [edA la], fB (edP la), fB (edPub la)]) (hG 7 (hdep 7 (by kernel_rfl))) rfl till_none)
    · exact step_pick false hs (wants_none rfl) rfl rfl (fun L u W hG hdep => (show u 6 = .bool false from hG 6 (hdep 6 (by kernel_rfl)))) (fun L u W hG hdep => (show u 8 = .bool false from hG 8 (hdep 8 (by kernel_rfl))))
    · exact step_pureO hs (wants_none rfl) rfl fun L u W hG hdep => ⟨_, run_move rfl, (show u 9 = .bool false from hG 9 (hdep 9 (by kernel_rfl)))⟩
    · exact step_runP hs (wants_on 10 rfl rfl (by kernel_rfl) (fun _ => rfl)) rfl fun L u W hJ hG hL hdep => run_moveP (.inl rfl) ((StP [fNum rS [edA lb], fB (edP lb), fB (edPub lb)]).st _ _ _ hw9 (hJ.all rfl))
    · exact step_runO hs (wants_on 10 rfl rfl (by kernel_rfl) (fun _ => rfl)) rfl fun L u W hJ hG hL hdep => run_eqlNil Try.underlying39 rfl rfl (holds_wld (φ := StP [fNum rS [edA lb], fB (edP lb), fB (edPub lb)]) (hG 11 (hdep 11 (by kernel_rfl))) rfl till_none)
    · exact step_pick false hs (wants_none rfl) rfl rfl (fun L u W hG hdep => (show u 10 = .bool false from hG 10 (hdep 10 (by kernel_rfl)))) (fun L u W hG hdep => (show u 12 = .bool false from hG 12 (hdep 12 (by kernel_rfl))))
  intro L5 u5 W5 hall hJ hG
  have hb := hJ.all rfl
  have hbel := Below.call hbel hb
  have hw7 := (StP [fNum rS [edA la], fB (edP la), fB (edPub la)]).st _ _ _ hw7 hb
  have hw9 := (StP [fNum rS [edA lb], fB (edP lb), fB (edPub lb)]).st _ _ _ hw9 hb
  have HC42 := Lib.hid (show u5 1 = .bool false from hG 1 (by simp))
  have HC43 := Lib.hid (show u5 2 = .bool false from hG 2 (by simp))
  have HC45 := Lib.hid (show u5 4 = .bool false from hG 4 (by simp))
  have HC46 := Lib.hid (show u5 5 = .bool false from hG 5 (by simp))
  have HC47 := Lib.hid (show u5 6 = .bool false from hG 6 (by simp))
  have HC49 := Lib.hid (show u5 8 = .bool false from hG 8 (by simp))
  have HC50 := Lib.hid (show u5 9 = .bool false from hG 9 (by simp))
  have HC51 := Lib.hid (show u5 10 = .bool false from hG 10 (by simp))
  have HC53 := Lib.hid (show u5 12 = .bool false from hG 12 (by simp))
  have HC54 := Lib.hid (show u5 13 = .bool false from hG 13 (by simp))
  have hbel0 := hbel
  clear hJ hG hall hb
  have hx : u5 13 = .bool false := HC54.out
  go_wp2_with fail
  rw [hx]
  clear hx
  go_upto_region 7 with fail
  refine wp_region_turn (fun u => (va :: vb :: vc :: undef :: undef :: undef :: u0 0 :: u3 5 :: u3 6 :: u4 5 :: u4 6 :: u 2 :: undef :: undef :: undef :: undef :: undef :: u1 0 :: u1 1 :: u1 2 :: u1 3 :: u1 4 :: u1 5 :: u1 6 :: u1 7 :: u1 8 :: u1 9 :: u1 10 :: u1 11 :: .bool false :: undef :: u3 2 :: u3 0 :: u3 1 :: u3 3 :: u3 4 :: u4 2 :: u4 0 :: u4 1 :: u4 3 :: u4 4 :: u5 0 :: u5 1 :: u5 2 :: u5 3 :: u5 4 :: u5 5 :: u5 6 :: u5 7 :: u5 8 :: u5 9 :: u5 10 :: u5 11 :: u5 12 :: .bool false :: u 0 :: u 1 :: undef :: undef :: undef :: undef :: undef :: undef :: undef :: undef :: undef :: undef :: undef :: undef :: undef :: undef :: undef :: undef :: undef :: undef :: undef :: undef :: undef :: undef :: undef :: undef :: undef :: undef :: undef :: undef :: undef :: undef :: undef :: undef :: undef :: undef :: undef :: undef :: undef :: undef :: undef :: undef :: undef :: undef :: undef :: undef :: undef :: undef :: undef :: undef :: undef :: undef :: undef :: undef :: undef :: undef :: undef :: undef :: undef :: []).toArray) (Holds [.wld (IsR lsc) none, .wld (IsB lc) none, .wld (IsB lc) none] W5) (Keep [.wld (IsR lsc) none, .wld (IsB lc) none, .wld (IsB lc) none] W5) (fun _ => undef) ?_ (by rfl) Keep.start (holds_soft (by kernel_rfl)) ?_ ?_
  · intro u i v h
    rcases i with _ | _ | _ | i
    all_goals first | (simp [Act.put, putV]; done) | (exfalso; simp at h; omega)
  · intro hs
    refine ⟨?_, ?_, ?_, trivial⟩
    · exact step_runP hs (wants_none rfl) rfl fun L u W hJ hG hL hdep => run_moveP (.inl rfl) ((IsR lsc).st _ _ _ hc (Below.call hbel (hJ.all rfl)))
    · refine step_callP hs (wants_none rfl) rfl fun L u W hJ hG hL hdep K hK => ?_
      go_simp
      go_at_call 13
      (with_reducible refine (gACat (l := lc) (holds_wld (φ := IsR lsc) (hG 0 (hdep 0 (by kernel_rfl))) rfl till_none) (HLC.out) (by have := HM.out; omega)).mono ?_); rintro e w1 ⟨r, rfl, hr, hb⟩
      have hk := hK.out _ _ hr hb
      exact hk
    · exact step_runP hs (wants_none rfl) rfl fun L u W hJ hG hL hdep => run_moveP (.inr rfl) (holds_wld (φ := IsB lc) (hG 1 (hdep 1 (by kernel_rfl))) rfl till_none)
  intro L7 u7 W7 hall hJ hG
  have hb := hJ.all rfl
  have hbel := Below.call hbel hb
  have hw7 := (StP [fNum rS [edA la], fB (edP la), fB (edPub la)]).st _ _ _ hw7 hb
  have hw9 := (StP [fNum rS [edA lb], fB (edP lb), fB (edPub lb)]).st _ _ _ hw9 hb
  have hw11 := holds_wld (φ := IsB lc) (hG 2 (by simp)) rfl till_none
  have hbel0 := hbel
  clear hJ hG hall hb
  go_upto_region 8 with fail
  refine wp_region_turn (fun u => (va :: vb :: vc :: undef :: undef :: undef :: u0 0 :: u3 5 :: u3 6 :: u4 5 :: u4 6 :: u7 2 :: u 3 :: undef :: undef :: undef :: undef :: u1 0 :: u1 1 :: u1 2 :: u1 3 :: u1 4 :: u1 5 :: u1 6 :: u1 7 :: u1 8 :: u1 9 :: u1 10 :: u1 11 :: .bool false :: undef :: u3 2 :: u3 0 :: u3 1 :: u3 3 :: u3 4 :: u4 2 :: u4 0 :: u4 1 :: u4 3 :: u4 4 :: u5 0 :: u5 1 :: u5 2 :: u5 3 :: u5 4 :: u5 5 :: u5 6 :: u5 7 :: u5 8 :: u5 9 :: u5 10 :: u5 11 :: u5 12 :: .bool false :: u7 0 :: u7 1 :: u 0 :: u 1 :: u 2 :: undef :: undef :: undef :: undef :: undef :: undef :: undef :: undef :: undef :: undef :: undef :: undef :: undef :: undef :: undef :: undef :: undef :: undef :: undef :: undef :: undef :: undef :: undef :: undef :: undef :: undef :: undef :: undef :: undef :: undef :: undef :: undef :: undef :: undef :: undef :: undef :: undef :: undef :: undef :: undef :: undef :: undef :: undef :: undef :: undef :: undef :: undef :: undef :: undef :: undef :: undef :: undef :: undef :: undef :: []).toArray) (Holds [.wld (StP [fNum rS [edA la], fB (edP la), fB (edPub la)]) none, .wld (IsR lsc) none, .wld (IsB (edSig la lc)) none, .wld (IsB (edSig la lc)) none] W7) (Keep [.wld (StP [fNum rS [edA la], fB (edP la), fB (edPub la)]) none, .wld (IsR lsc) none, .wld (IsB (edSig la lc)) none, .wld (IsB (edSig la lc)) none] W7) (fun _ => undef) ?_ (by rfl) Keep.start (holds_soft (by kernel_rfl)) ?_ ?_
  · intro u i v h
    rcases i with _ | _ | _ | _ | i
    all_goals first | (simp [Act.put, putV]; done) | (exfalso; simp at h; omega)
  · intro hs
    refine ⟨?_, ?_, ?_, ?_, trivial⟩
    · exact step_runP hs (wants_none rfl) rfl fun L u W hJ hG hL hdep => run_moveP (.inl rfl) ((StP [fNum rS [edA la], fB (edP la), fB (edPub la)]).st _ _ _ hw7 (hJ.all rfl))
    · exact step_runP hs (wants_none rfl) rfl fun L u W hJ hG hL hdep => run_moveP (.inl rfl) ((IsR lsc).st _ _ _ hc (Below.call hbel (hJ.all rfl)))
    · refine step_callP hs (wants_none rfl) rfl fun L u W hJ hG hL hdep K hK => ?_
      go_simp
      go_at_call 17
      (with_reducible refine (gSSignW (seed := la) (l := lc) (holds_wld (φ := StP [fNum rS [edA la], fB (edP la), fB (edPub la)]) (hG 0 (hdep 0 (by kernel_rfl))) rfl till_none) (holds_wld (φ := IsR lsc) (hG 1 (hdep 1 (by kernel_rfl))) rfl till_none) (HLC.out) (by have := HM.out; omega)).mono ?_); rintro e w1 ⟨r, rfl, hr, hb⟩
      have hk := hK.out _ _ hr hb
      exact hk
    · exact step_runP hs (wants_none rfl) rfl fun L u W hJ hG hL hdep => run_moveP (.inr rfl) (holds_wld (φ := IsB (edSig la lc)) (hG 2 (hdep 2 (by kernel_rfl))) rfl till_none)
  intro L8 u8 W8 hall hJ hG
  have hb := hJ.all rfl
  have hbel := Below.call hbel hb
  have hw7 := (StP [fNum rS [edA la], fB (edP la), fB (edPub la)]).st _ _ _ hw7 hb
  have hw9 := (StP [fNum rS [edA lb], fB (edP lb), fB (edPub lb)]).st _ _ _ hw9 hb
  have hw11 := (IsB lc).st _ _ _ hw11 hb
  have hw12 := holds_wld (φ := IsB (edSig la lc)) (hG 3 (by simp)) rfl till_none
  have hbel0 := hbel
  clear hJ hG hall hb
  go_upto_region 9 with fail
  refine wp_region_turn (fun u => (va :: vb :: vc :: undef :: undef :: undef :: u0 0 :: u3 5 :: u3 6 :: u4 5 :: u4 6 :: u7 2 :: u8 3 :: undef :: undef :: undef :: undef :: u1 0 :: u1 1 :: u1 2 :: u1 3 :: u1 4 :: u1 5 :: u1 6 :: u1 7 :: u1 8 :: u1 9 :: u1 10 :: u1 11 :: .bool false :: undef :: u3 2 :: u3 0 :: u3 1 :: u3 3 :: u3 4 :: u4 2 :: u4 0 :: u4 1 :: u4 3 :: u4 4 :: u5 0 :: u5 1 :: u5 2 :: u5 3 :: u5 4 :: u5 5 :: u5 6 :: u5 7 :: u5 8 :: u5 9 :: u5 10 :: u5 11 :: u5 12 :: .bool false :: u7 0 :: u7 1 :: u8 0 :: u8 1 :: u8 2 :: u 0 :: u 1 :: u 2 :: undef :: undef :: undef :: undef :: undef :: undef :: undef :: undef :: undef :: undef :: undef :: undef :: undef :: undef :: undef :: undef :: undef :: undef :: undef :: undef :: undef :: undef :: undef :: undef :: undef :: undef :: undef :: undef :: undef :: undef :: undef :: undef :: undef :: undef :: undef :: undef :: undef :: undef :: undef :: undef :: undef :: undef :: undef :: undef :: undef :: undef :: undef :: undef :: undef :: undef :: undef :: []).toArray) (Holds [.wld (StP [fNum rS [edA lb], fB (edP lb), fB (edPub lb)]) none, .wld (IsR lsc) none, .wld (IsB (edSig lb lc)) none] W8) (Keep [.wld (StP [fNum rS [edA lb], fB (edP lb), fB (edPub lb)]) none, .wld (IsR lsc) none, .wld (IsB (edSig lb lc)) none] W8) (fun _ => undef) ?_ (by rfl) Keep.start (holds_soft (by kernel_rfl)) ?_ ?_
  · intro u i v h
    rcases i with _ | _ | _ | i
    all_goals first | (simp [Act.put, putV]; done) | (exfalso; simp at h; omega)
  · intro hs
    refine ⟨?_, ?_, ?_, trivial⟩
    · exact step_runP hs (wants_none rfl) rfl fun L u W hJ hG hL hdep => run_moveP (.inl rfl) ((StP [fNum rS [edA lb], fB (edP lb), fB (edPub lb)]).st _ _ _ hw9 (hJ.all rfl))
    · exact step_runP hs (wants_none rfl) rfl fun L u W hJ hG hL hdep => run_moveP (.inl rfl) ((IsR lsc).st _ _ _ hc (Below.call hbel (hJ.all rfl)))
    · refine step_callP hs (wants_none rfl) rfl fun L u W hJ hG hL hdep K hK => ?_
      go_simp
      go_at_call 17
      (with_reducible refine (gSSignW (seed := lb) (l := lc) (holds_wld (φ := StP [fNum rS [edA lb], fB (edP lb), fB (edPub lb)]) (hG 0 (hdep 0 (by kernel_rfl))) rfl till_none) (holds_wld (φ := IsR lsc) (hG 1 (hdep 1 (by kernel_rfl))) rfl till_none) (HLC.out) (by have := HM.out; omega)).mono ?_); rintro e w1 ⟨r, rfl, hr, hb⟩
      have hk := hK.out _ _ hr hb
      exact hk
  intro L9 u9 W9 hall hJ hG
  have hb := hJ.all rfl
  have hbel := Below.call hbel hb
  have hw7 := (StP [fNum rS [edA la], fB (edP la), fB (edPub la)]).st _ _ _ hw7 hb
  have hw9 := (StP [fNum rS [edA lb], fB (edP lb), fB (edPub lb)]).st _ _ _ hw9 hb
  have hw11 := (IsB lc).st _ _ _ hw11 hb
  have hw12 := (IsB (edSig la lc)).st _ _ _ hw12 hb
  have hbel0 := hbel
  clear hJ hG hall hb
  go_upto_region 10 with fail
  refine wp_region_turn (fun u => (va :: vb :: vc :: undef :: undef :: undef :: u0 0 :: u3 5 :: u3 6 :: u4 5 :: u4 6 :: u7 2 :: u8 3 :: u 7 :: u 8 :: undef :: undef :: u1 0 :: u1 1 :: u1 2 :: u1 3 :: u1 4 :: u1 5 :: u1 6 :: u1 7 :: u1 8 :: u1 9 :: u1 10 :: u1 11 :: .bool false :: undef :: u3 2 :: u3 0 :: u3 1 :: u3 3 :: u3 4 :: u4 2 :: u4 0 :: u4 1 :: u4 3 :: u4 4 :: u5 0 :: u5 1 :: u5 2 :: u5 3 :: u5 4 :: u5 5 :: u5 6 :: u5 7 :: u5 8 :: u5 9 :: u5 10 :: u5 11 :: u5 12 :: .bool false :: u7 0 :: u7 1 :: u8 0 :: u8 1 :: u8 2 :: u9 0 :: u9 1 :: u9 2 :: u 4 :: u 0 :: u 1 :: u 2 :: u 3 :: u 5 :: u 6 :: undef :: undef :: undef :: undef :: undef :: undef :: undef :: undef :: undef :: undef :: undef :: undef :: undef :: undef :: undef :: undef :: undef :: undef :: undef :: undef :: undef :: undef :: undef :: undef :: undef :: undef :: undef :: undef :: undef :: undef :: undef :: undef :: undef :: undef :: undef :: undef :: undef :: undef :: undef :: undef :: undef :: undef :: undef :: undef :: []).toArray) (Holds [.wld (IsB la) none, .wld (IsB lc) none, .wld (IsR [lc]) none, .wld (TwV (IsB (edSig la lc)) (.int .i64 0)) none, .wld (TwV (IsB (edSig la lc)) (.int .i64 0)) none, .wld (IsB (edSig la lc)) none, .oth (fun v => v = .int .i64 0), .wld (IsB (edSig la lc)) none, .oth (fun v => v = .int .i64 0)] W9) (Keep [.wld (IsB la) none, .wld (IsB lc) none, .wld (IsR [lc]) none, .wld (TwV (IsB (edSig la lc)) (.int .i64 0)) none, .wld (TwV (IsB (edSig la lc)) (.int .i64 0)) none, .wld (IsB (edSig la lc)) none, .oth (fun v => v = .int .i64 0), .wld (IsB (edSig la lc)) none, .oth (fun v => v = .int .i64 0)] W9) (fun _ => undef) ?_ (by rfl) Keep.start (holds_soft (by kernel_rfl)) ?_ ?_
  · intro u i v h
    rcases i with _ | _ | _ | _ | _ | _ | _ | _ | _ | i
    all_goals first | (simp [Act.put, putV]; done) | (exfalso; simp at h; omega)
  · intro hs
    refine ⟨?_, ?_, ?_, ?_, ?_, ?_, ?_, ?_, ?_, trivial⟩
    · exact step_runP hs (wants_none rfl) rfl fun L u W hJ hG hL hdep => run_moveP (.inl rfl) ((IsB la).st _ _ _ ha (Below.call hbel (hJ.all rfl)))
    · exact step_runP hs (wants_none rfl) rfl fun L u W hJ hG hL hdep => run_moveP (.inl rfl) ((IsB lc).st _ _ _ hw11 (hJ.all rfl))
    · exact step_runP hs (wants_none rfl) rfl fun L u W hJ hG hL hdep => run_rows1 rfl (holds_wld (φ := IsB lc) (hG 1 (hdep 1 (by kernel_rfl))) rfl till_none)
    · refine step_callP hs (wants_none rfl) rfl fun L u W hJ hG hL hdep K hK => ?_
      go_simp
      go_at_call 10
      (with_reducible refine (gSignW (l := lc) (holds_wld (φ := IsB la) (hG 0 (hdep 0 (by kernel_rfl))) rfl till_none) (holds_wld (φ := IsR [lc]) (hG 2 (hdep 2 (by kernel_rfl))) rfl till_none) (by simp) (by have := HM.out; omega) (T0.out)).mono ?_); rintro e w1 ⟨r, rfl, hr, hb⟩
      have hk := hK.out _ _ hr hb
      exact hk
    · exact step_runP hs (wants_none rfl) rfl fun L u W hJ hG hL hdep => run_moveP (.inl rfl) (holds_wld (φ := TwV (IsB (edSig la lc)) (.int .i64 0)) (hG 3 (hdep 3 (by kernel_rfl))) rfl till_none)
    · exact step_runP hs (wants_none rfl) rfl fun L u W hJ hG hL hdep => run_tw0 rfl (holds_wld (φ := TwV (IsB (edSig la lc)) (.int .i64 0)) (hG 4 (hdep 4 (by kernel_rfl))) rfl till_none)
    · exact step_runO hs (wants_none rfl) rfl fun L u W hJ hG hL hdep => run_tw1 rfl (holds_wld (φ := TwV (IsB (edSig la lc)) (.int .i64 0)) (hG 4 (hdep 4 (by kernel_rfl))) rfl till_none)
    · exact step_runP hs (wants_none rfl) rfl fun L u W hJ hG hL hdep => run_moveP (.inr rfl) (holds_wld (φ := IsB (edSig la lc)) (hG 5 (hdep 5 (by kernel_rfl))) rfl till_none)
    · exact step_pureO hs (wants_none rfl) rfl fun L u W hG hdep => ⟨_, run_assign rfl, (show u 6 = .int .i64 0 from hG 6 (hdep 6 (by kernel_rfl)))⟩
  intro L10 u10 W10 hall hJ hG
  have hb := hJ.all rfl
  have hbel := Below.call hbel hb
  have hw7 := (StP [fNum rS [edA la], fB (edP la), fB (edPub la)]).st _ _ _ hw7 hb
  have hw9 := (StP [fNum rS [edA lb], fB (edP lb), fB (edPub lb)]).st _ _ _ hw9 hb
  have hw11 := (IsB lc).st _ _ _ hw11 hb
  have hw12 := (IsB (edSig la lc)).st _ _ _ hw12 hb
  have hw13 := holds_wld (φ := IsB (edSig la lc)) (hG 7 (by simp)) rfl till_none
  have hbel0 := hbel
  clear hJ hG hall hb
  go_upto_region 11 with fail
  refine wp_region_turn (fun u => (va :: vb :: vc :: undef :: undef :: undef :: u0 0 :: u3 5 :: u3 6 :: u4 5 :: u4 6 :: u7 2 :: u8 3 :: u10 7 :: u10 8 :: u 5 :: u 6 :: u1 0 :: u1 1 :: u1 2 :: u1 3 :: u1 4 :: u1 5 :: u1 6 :: u1 7 :: u1 8 :: u1 9 :: u1 10 :: u1 11 :: .bool false :: undef :: u3 2 :: u3 0 :: u3 1 :: u3 3 :: u3 4 :: u4 2 :: u4 0 :: u4 1 :: u4 3 :: u4 4 :: u5 0 :: u5 1 :: u5 2 :: u5 3 :: u5 4 :: u5 5 :: u5 6 :: u5 7 :: u5 8 :: u5 9 :: u5 10 :: u5 11 :: u5 12 :: .bool false :: u7 0 :: u7 1 :: u8 0 :: u8 1 :: u8 2 :: u9 0 :: u9 1 :: u9 2 :: u10 4 :: u10 0 :: u10 1 :: u10 2 :: u10 3 :: u10 5 :: u10 6 :: u 2 :: u 0 :: u 1 :: u 3 :: u 4 :: undef :: undef :: undef :: undef :: undef :: undef :: undef :: undef :: undef :: undef :: undef :: undef :: undef :: undef :: undef :: undef :: undef :: undef :: undef :: undef :: undef :: undef :: undef :: undef :: undef :: undef :: undef :: undef :: undef :: undef :: undef :: undef :: undef :: undef :: undef :: undef :: undef :: undef :: undef :: []).toArray) (Holds [.wld (IsB la) none, .wld (TwV (IsB (edPub la)) (.int .i64 0)) none, .wld (TwV (IsB (edPub la)) (.int .i64 0)) none, .wld (IsB (edPub la)) none, .oth (fun v => v = .int .i64 0), .wld (IsB (edPub la)) none, .oth (fun v => v = .int .i64 0)] W10) (Keep [.wld (IsB la) none, .wld (TwV (IsB (edPub la)) (.int .i64 0)) none, .wld (TwV (IsB (edPub la)) (.int .i64 0)) none, .wld (IsB (edPub la)) none, .oth (fun v => v = .int .i64 0), .wld (IsB (edPub la)) none, .oth (fun v => v = .int .i64 0)] W10) (fun _ => undef) ?_ (by rfl) Keep.start (holds_soft (by kernel_rfl)) ?_ ?_
  · intro u i v h
    rcases i with _ | _ | _ | _ | _ | _ | _ | i
    all_goals first | (simp [Act.put, putV]; done) | (exfalso; simp at h; omega)
  · intro hs
    refine ⟨?_, ?_, ?_, ?_, ?_, ?_, ?_, trivial⟩
    · exact step_runP hs (wants_none rfl) rfl fun L u W hJ hG hL hdep => run_moveP (.inl rfl) ((IsB la).st _ _ _ ha (Below.call hbel (hJ.all rfl)))
    · refine step_callP hs (wants_none rfl) rfl fun L u W hJ hG hL hdep K hK => ?_
      go_simp
      go_at_call 9
      (with_reducible refine (gPublicW (holds_wld (φ := IsB la) (hG 0 (hdep 0 (by kernel_rfl))) rfl till_none) (T0.out)).mono ?_); rintro e w1 ⟨r, rfl, hr, hb⟩
      have hk := hK.out _ _ hr hb
      exact hk
    · exact step_runP hs (wants_none rfl) rfl fun L u W hJ hG hL hdep => run_moveP (.inl rfl) (holds_wld (φ := TwV (IsB (edPub la)) (.int .i64 0)) (hG 1 (hdep 1 (by kernel_rfl))) rfl till_none)
    · exact step_runP hs (wants_none rfl) rfl fun L u W hJ hG hL hdep => run_tw0 rfl (holds_wld (φ := TwV (IsB (edPub la)) (.int .i64 0)) (hG 2 (hdep 2 (by kernel_rfl))) rfl till_none)
    · exact step_runO hs (wants_none rfl) rfl fun L u W hJ hG hL hdep => run_tw1 rfl (holds_wld (φ := TwV (IsB (edPub la)) (.int .i64 0)) (hG 2 (hdep 2 (by kernel_rfl))) rfl till_none)
    · exact step_runP hs (wants_none rfl) rfl fun L u W hJ hG hL hdep => run_moveP (.inr rfl) (holds_wld (φ := IsB (edPub la)) (hG 3 (hdep 3 (by kernel_rfl))) rfl till_none)
    · exact step_pureO hs (wants_none rfl) rfl fun L u W hG hdep => ⟨_, run_assign rfl, (show u 4 = .int .i64 0 from hG 4 (hdep 4 (by kernel_rfl)))⟩
  intro L11 u11 W11 hall hJ hG
  have hb := hJ.all rfl
  have hbel := Below.call hbel hb
  have hw7 := (StP [fNum rS [edA la], fB (edP la), fB (edPub la)]).st _ _ _ hw7 hb
  have hw9 := (StP [fNum rS [edA lb], fB (edP lb), fB (edPub lb)]).st _ _ _ hw9 hb
  have hw11 := (IsB lc).st _ _ _ hw11 hb
  have hw12 := (IsB (edSig la lc)).st _ _ _ hw12 hb
  have hw13 := (IsB (edSig la lc)).st _ _ _ hw13 hb
  have hw15 := holds_wld (φ := IsB (edPub la)) (hG 5 (by simp)) rfl till_none
  have hbel0 := hbel
  clear hJ hG hall hb
  go_upto_region 12 with fail
  refine wp_region_mid (fun u => (va :: vb :: vc :: undef :: undef :: undef :: u 39 :: u3 5 :: u3 6 :: u4 5 :: u4 6 :: u7 2 :: u8 3 :: u10 7 :: u10 8 :: u11 5 :: u11 6 :: u1 0 :: u1 1 :: u1 2 :: u1 3 :: u1 4 :: u1 5 :: u1 6 :: u1 7 :: u1 8 :: u1 9 :: u1 10 :: u1 11 :: .bool false :: undef :: u3 2 :: u3 0 :: u3 1 :: u3 3 :: u3 4 :: u4 2 :: u4 0 :: u4 1 :: u4 3 :: u4 4 :: u5 0 :: u5 1 :: u5 2 :: u5 3 :: u5 4 :: u5 5 :: u5 6 :: u5 7 :: u5 8 :: u5 9 :: u5 10 :: u5 11 :: u5 12 :: .bool false :: u7 0 :: u7 1 :: u8 0 :: u8 1 :: u8 2 :: u9 0 :: u9 1 :: u9 2 :: u10 4 :: u10 0 :: u10 1 :: u10 2 :: u10 3 :: u10 5 :: u10 6 :: u11 2 :: u11 0 :: u11 1 :: u11 3 :: u11 4 :: u 0 :: u 1 :: u 2 :: u 3 :: u 4 :: u 5 :: u 6 :: u 7 :: u 8 :: u 9 :: u 10 :: u 11 :: u 12 :: u 13 :: u 14 :: u 15 :: u 16 :: u 17 :: u 18 :: u 19 :: u 20 :: u 21 :: u 22 :: u 23 :: u 24 :: u 25 :: u 26 :: u 27 :: u 28 :: u 29 :: u 30 :: u 31 :: u 32 :: u 33 :: u 34 :: u 35 :: u 36 :: u 37 :: u 38 :: []).toArray) (Holds [.wld (IsB (edSig la lc)) none, .oth (fun v => v = .int .i64 64), .oth (fun v => v = .bool true), .oth (fun v => v = .bool true), .wld (IsB (edSig la lc)) none, .oth (fun v => v = (.string (bs (edSig la lc)))), .wld (IsB (edSig la lc)) none, .oth (fun v => v = (.string (bs (edSig la lc)))), .oth (fun v => v = .bool true), .oth (fun v => v = .bool true), .oth (fun v => v = .bool true), .wld (StP [fNum rS [edA la], fB (edP la), fB (edPub la)]) none, .wld (IsB lc) none, .wld (IsR [lc]) none, .wld (IsB (edSig la lc)) none, .oth (fun v => v = (.string (bs (edSig la lc)))), .wld (IsB (edSig la lc)) none, .oth (fun v => v = (.string (bs (edSig la lc)))), .oth (fun v => v = .bool true), .oth (fun v => v = .bool true), .oth (fun v => v = .bool true), .wld (StP [fNum rS [edA la], fB (edP la), fB (edPub la)]) none, .wld (IsB (edPub la)) none, .oth (fun v => v = (.string (bs (edPub la)))), .wld (IsB (edPub la)) none, .oth (fun v => v = (.string (bs (edPub la)))), .oth (fun v => v = .bool true), .oth (fun v => v = .bool true), .oth (fun v => v = .bool true), .wld (IsB (edPub la)) none, .wld (IsB (edSig la lc)) none, .wld (IsB lc) none, .wld (IsR [lc]) none, .oth (fun v => v = .int .i64 0), .oth (fun v => v = .bool true), .oth (fun v => v = .bool true), .oth (fun v => v = .bool true), .oth (fun v => v = .bool true), .oth (fun v => v = .bool true), .oth (fun v => v = .bool true)] W11) (Keep [.wld (IsB (edSig la lc)) none, .oth (fun v => v = .int .i64 64), .oth (fun v => v = .bool true), .oth (fun v => v = .bool true), .wld (IsB (edSig la lc)) none, .oth (fun v => v = (.string (bs (edSig la lc)))), .wld (IsB (edSig la lc)) none, .oth (fun v => v = (.string (bs (edSig la lc)))), .oth (fun v => v = .bool true), .oth (fun v => v = .bool true), .oth (fun v => v = .bool true), .wld (StP [fNum rS [edA la], fB (edP la), fB (edPub la)]) none, .wld (IsB lc) none, .wld (IsR [lc]) none, .wld (IsB (edSig la lc)) none, .oth (fun v => v = (.string (bs (edSig la lc)))), .wld (IsB (edSig la lc)) none, .oth (fun v => v = (.string (bs (edSig la lc)))), .oth (fun v => v = .bool true), .oth (fun v => v = .bool true), .oth (fun v => v = .bool true), .wld (StP [fNum rS [edA la], fB (edP la), fB (edPub la)]) none, .wld (IsB (edPub la)) none, .oth (fun v => v = (.string (bs (edPub la)))), .wld (IsB (edPub la)) none, .oth (fun v => v = (.string (bs (edPub la)))), .oth (fun v => v = .bool true), .oth (fun v => v = .bool true), .oth (fun v => v = .bool true), .wld (IsB (edPub la)) none, .wld (IsB (edSig la lc)) none, .wld (IsB lc) none, .wld (IsR [lc]) none, .oth (fun v => v = .int .i64 0), .oth (fun v => v = .bool true), .oth (fun v => v = .bool true), .oth (fun v => v = .bool true), .oth (fun v => v = .bool true), .oth (fun v => v = .bool true), .oth (fun v => v = .bool true)] W11) (fun k => ((undef :: undef :: undef :: undef :: undef :: undef :: undef :: undef :: undef :: undef :: undef :: undef :: undef :: undef :: undef :: undef :: undef :: undef :: undef :: undef :: undef :: undef :: undef :: undef :: undef :: undef :: undef :: undef :: undef :: undef :: undef :: undef :: undef :: undef :: undef :: undef :: undef :: undef :: undef :: u0 0 :: []) : List Value).getD k undef) (by kernel_rfl) (by kernel_rfl) ?_ (by rfl) Keep.drew (holds_soft (by kernel_rfl)) ?_ ?_
  · intro u i v h
    rcases i with _ | _ | _ | _ | _ | _ | _ | _ | _ | _ | _ | _ | _ | _ | _ | _ | _ | _ | _ | _ | _ | _ | _ | _ | _ | _ | _ | _ | _ | _ | _ | _ | _ | _ | _ | _ | _ | _ | _ | _ | i
    iterate 40 kernel_rfl
    exfalso; simp at h; omega
  · intro hs
    refine ⟨?_, ?_, ?_, ?_, ?_, ?_, ?_, ?_, ?_, ?_, ?_, ?_, ?_, ?_, ?_, ?_, ?_, ?_, ?_, ?_, ?_, ?_, ?_, ?_, ?_, ?_, ?_, ?_, ?_, ?_, ?_, ?_, ?_, ?_, ?_, ?_, ?_, ?_, ?_, ?_, trivial⟩
    · exact step_runP hs (wants_none rfl) rfl fun L u W hJ hG hL hdep => run_moveP (.inl rfl) ((IsB (edSig la lc)).st _ _ _ hw12 (hJ.all rfl))
    · exact step_runO hs (wants_none rfl) rfl fun L u W hJ hG hL hdep => run_lenP rfl (holds_wld (φ := IsB (edSig la lc)) (hG 0 (hdep 0 (by kernel_rfl))) rfl till_none) (by rw [edSig_len]; rfl)
    · refine step_pureO hs (wants_none rfl) rfl fun L u W hG hdep => ⟨_, ?_, rfl⟩
      have e0 := (show u 1 = .int .i64 64 from hG 1 (hdep 1 (by kernel_rfl)))
      go_simp
      try simp [bne]
    · exact step_pureO hs (wants_none rfl) rfl fun L u W hG hdep => ⟨_, run_move rfl, (show u 2 = .bool true from hG 2 (hdep 2 (by kernel_rfl)))⟩
    · exact step_runP hs (wants_on 3 rfl rfl (by kernel_rfl) (fun _ => rfl)) rfl fun L u W hJ hG hL hdep => run_moveP (.inl rfl) ((IsB (edSig la lc)).st _ _ _ hw12 (hJ.all rfl))
    · exact step_runO hs (wants_on 3 rfl rfl (by kernel_rfl) (fun _ => rfl)) rfl fun L u W hJ hG hL hdep => run_convP rfl (holds_wld (φ := IsB (edSig la lc)) (hG 4 (hdep 4 (by kernel_rfl))) rfl till_none)
    · exact step_runP hs (wants_on 3 rfl rfl (by kernel_rfl) (fun _ => rfl)) rfl fun L u W hJ hG hL hdep => run_moveP (.inl rfl) ((IsB (edSig la lc)).st _ _ _ hw13 (hJ.all rfl))
    · exact step_runO hs (wants_on 3 rfl rfl (by kernel_rfl) (fun _ => rfl)) rfl fun L u W hJ hG hL hdep => run_convP rfl (holds_wld (φ := IsB (edSig la lc)) (hG 6 (hdep 6 (by kernel_rfl))) rfl till_none)
    · exact step_pureO hs (wants_on 3 rfl rfl (by kernel_rfl) (fun _ => rfl)) rfl fun L u W hG hdep => ⟨_, run_eqlS rfl (show u 5 = (.string (bs (edSig la lc))) from hG 5 (hdep 5 (by kernel_rfl))) (show u 7 = (.string (bs (edSig la lc))) from hG 7 (hdep 7 (by kernel_rfl))), by simp⟩
    · exact step_pick true hs (wants_none rfl) rfl rfl (fun L u W hG hdep => (show u 3 = .bool true from hG 3 (hdep 3 (by kernel_rfl)))) (fun L u W hG hdep => (show u 8 = .bool true from hG 8 (hdep 8 (by kernel_rfl))))
    · exact step_pureO hs (wants_none rfl) rfl fun L u W hG hdep => ⟨_, run_move rfl, (show u 9 = .bool true from hG 9 (hdep 9 (by kernel_rfl)))⟩
    · exact step_runP hs (wants_on 10 rfl rfl (by kernel_rfl) (fun _ => rfl)) rfl fun L u W hJ hG hL hdep => run_moveP (.inl rfl) ((StP [fNum rS [edA la], fB (edP la), fB (edPub la)]).st _ _ _ hw7 (hJ.all rfl))
    · exact step_runP hs (wants_on 10 rfl rfl (by kernel_rfl) (fun _ => rfl)) rfl fun L u W hJ hG hL hdep => run_moveP (.inl rfl) ((IsB lc).st _ _ _ hw11 (hJ.all rfl))
    · exact step_runP hs (wants_on 10 rfl rfl (by kernel_rfl) (fun _ => rfl)) rfl fun L u W hJ hG hL hdep => run_rows1 rfl (holds_wld (φ := IsB lc) (hG 12 (hdep 12 (by kernel_rfl))) rfl till_none)
    · refine step_callP hs (wants_on 10 rfl rfl (by kernel_rfl) (fun _ => rfl)) rfl fun L u W hJ hG hL hdep K hK => ?_
      go_simp
      go_at_call 17
      (with_reducible refine (gSSignW (seed := la) (l := lc) (holds_wld (φ := StP [fNum rS [edA la], fB (edP la), fB (edPub la)]) (hG 11 (hdep 11 (by kernel_rfl))) rfl till_none) (holds_wld (φ := IsR [lc]) (hG 13 (hdep 13 (by kernel_rfl))) rfl till_none) (by simp) (by have := HM.out; omega)).mono ?_); rintro e w1 ⟨r, rfl, hr, hb⟩
      have hk := hK.out _ _ hr hb
      exact hk
    · exact step_runO hs (wants_on 10 rfl rfl (by kernel_rfl) (fun _ => rfl)) rfl fun L u W hJ hG hL hdep => run_convP rfl (holds_wld (φ := IsB (edSig la lc)) (hG 14 (hdep 14 (by kernel_rfl))) rfl till_none)
    · exact step_runP hs (wants_on 10 rfl rfl (by kernel_rfl) (fun _ => rfl)) rfl fun L u W hJ hG hL hdep => run_moveP (.inl rfl) ((IsB (edSig la lc)).st _ _ _ hw12 (hJ.all rfl))
    · exact step_runO hs (wants_on 10 rfl rfl (by kernel_rfl) (fun _ => rfl)) rfl fun L u W hJ hG hL hdep => run_convP rfl (holds_wld (φ := IsB (edSig la lc)) (hG 16 (hdep 16 (by kernel_rfl))) rfl till_none)
    · exact step_pureO hs (wants_on 10 rfl rfl (by kernel_rfl) (fun _ => rfl)) rfl fun L u W hG hdep => ⟨_, run_eqlS rfl (show u 15 = (.string (bs (edSig la lc))) from hG 15 (hdep 15 (by kernel_rfl))) (show u 17 = (.string (bs (edSig la lc))) from hG 17 (hdep 17 (by kernel_rfl))), by simp⟩
    · exact step_pick true hs (wants_none rfl) rfl rfl (fun L u W hG hdep => (show u 10 = .bool true from hG 10 (hdep 10 (by kernel_rfl)))) (fun L u W hG hdep => (show u 18 = .bool true from hG 18 (hdep 18 (by kernel_rfl))))
    · exact step_pureO hs (wants_none rfl) rfl fun L u W hG hdep => ⟨_, run_move rfl, (show u 19 = .bool true from hG 19 (hdep 19 (by kernel_rfl)))⟩
    · exact step_runP hs (wants_on 20 rfl rfl (by kernel_rfl) (fun _ => rfl)) rfl fun L u W hJ hG hL hdep => run_moveP (.inl rfl) ((StP [fNum rS [edA la], fB (edP la), fB (edPub la)]).st _ _ _ hw7 (hJ.all rfl))
    · refine step_callP hs (wants_on 20 rfl rfl (by kernel_rfl) (fun _ => rfl)) rfl fun L u W hJ hG hL hdep K hK => ?_
      go_simp
      go_at_call 18
      (with_reducible refine (gSPublic (s := edA la) (p := edP la) (q := edPub la) (holds_wld (φ := StP [fNum rS [edA la], fB (edP la), fB (edPub la)]) (hG 21 (hdep 21 (by kernel_rfl))) rfl till_none) (by rw [edPub_len]; omega)).mono ?_); rintro e w1 ⟨r, rfl, hr, hb⟩
      have hk := hK.out _ _ hr hb
      exact hk
    · exact step_runO hs (wants_on 20 rfl rfl (by kernel_rfl) (fun _ => rfl)) rfl fun L u W hJ hG hL hdep => run_convP rfl (holds_wld (φ := IsB (edPub la)) (hG 22 (hdep 22 (by kernel_rfl))) rfl till_none)
    · exact step_runP hs (wants_on 20 rfl rfl (by kernel_rfl) (fun _ => rfl)) rfl fun L u W hJ hG hL hdep => run_moveP (.inl rfl) ((IsB (edPub la)).st _ _ _ hw15 (hJ.all rfl))
    · exact step_runO hs (wants_on 20 rfl rfl (by kernel_rfl) (fun _ => rfl)) rfl fun L u W hJ hG hL hdep => run_convP rfl (holds_wld (φ := IsB (edPub la)) (hG 24 (hdep 24 (by kernel_rfl))) rfl till_none)
    · exact step_pureO hs (wants_on 20 rfl rfl (by kernel_rfl) (fun _ => rfl)) rfl fun L u W hG hdep => ⟨_, run_eqlS rfl (show u 23 = (.string (bs (edPub la))) from hG 23 (hdep 23 (by kernel_rfl))) (show u 25 = (.string (bs (edPub la))) from hG 25 (hdep 25 (by kernel_rfl))), by simp⟩
    · exact step_pick true hs (wants_none rfl) rfl rfl (fun L u W hG hdep => (show u 20 = .bool true from hG 20 (hdep 20 (by kernel_rfl)))) (fun L u W hG hdep => (show u 26 = .bool true from hG 26 (hdep 26 (by kernel_rfl))))
    · exact step_pureO hs (wants_none rfl) rfl fun L u W hG hdep => ⟨_, run_move rfl, (show u 27 = .bool true from hG 27 (hdep 27 (by kernel_rfl)))⟩
    · exact step_runP hs (wants_on 28 rfl rfl (by kernel_rfl) (fun _ => rfl)) rfl fun L u W hJ hG hL hdep => run_moveP (.inl rfl) ((IsB (edPub la)).st _ _ _ hw15 (hJ.all rfl))
    · exact step_runP hs (wants_on 28 rfl rfl (by kernel_rfl) (fun _ => rfl)) rfl fun L u W hJ hG hL hdep => run_moveP (.inl rfl) ((IsB (edSig la lc)).st _ _ _ hw12 (hJ.all rfl))
    · exact step_runP hs (wants_on 28 rfl rfl (by kernel_rfl) (fun _ => rfl)) rfl fun L u W hJ hG hL hdep => run_moveP (.inl rfl) ((IsB lc).st _ _ _ hw11 (hJ.all rfl))
    · exact step_runP hs (wants_on 28 rfl rfl (by kernel_rfl) (fun _ => rfl)) rfl fun L u W hJ hG hL hdep => run_rows1 rfl (holds_wld (φ := IsB lc) (hG 31 (hdep 31 (by kernel_rfl))) rfl till_none)
    · refine step_callO hs (wants_on 28 rfl rfl (by kernel_rfl) (fun _ => rfl)) rfl fun L u W hJ hG hL hdep K hK => ?_
      go_simp
      go_at_call 12
      (with_reducible refine (gVerifyC (l := lc) (holds_wld (φ := IsB (edPub la)) (hG 29 (hdep 29 (by kernel_rfl))) rfl till_none) (holds_wld (φ := IsB (edSig la lc)) (hG 30 (hdep 30 (by kernel_rfl))) rfl till_none) (holds_wld (φ := IsR [lc]) (hG 32 (hdep 32 (by kernel_rfl))) rfl till_none) (by simp) (by have := HM.out; omega) (ver_sig la lc)).mono ?_); rintro e w1 ⟨rfl, hb⟩
      have hk := hK.out _ _ rfl hb
      exact hk
    · refine step_pureO hs (wants_on 28 rfl rfl (by kernel_rfl) (fun _ => rfl)) rfl fun L u W hG hdep => ⟨_, ?_, rfl⟩
      have e0 := (show u 33 = .int .i64 0 from hG 33 (hdep 33 (by kernel_rfl)))
      go_simp
      try simp [bne]
    · exact step_pick true hs (wants_none rfl) rfl rfl (fun L u W hG hdep => (show u 28 = .bool true from hG 28 (hdep 28 (by kernel_rfl)))) (fun L u W hG hdep => (show u 34 = .bool true from hG 34 (hdep 34 (by kernel_rfl))))
    · exact step_pureO hs (wants_none rfl) rfl fun L u W hG hdep => ⟨_, run_move rfl, (show u 35 = .bool true from hG 35 (hdep 35 (by kernel_rfl)))⟩
    · refine step_callO hs (wants_on 36 rfl rfl (by kernel_rfl) (fun _ => rfl)) rfl fun L u W hJ hG hL hdep K hK => ?_
      go_simp
      go_at_call 8
      (with_reducible refine (law9awake_any _).mono ?_); rintro e w1 ⟨rfl, hb⟩
      have hk := hK.out _ _ rfl hb
      exact hk
    · exact step_pick true hs (wants_none rfl) rfl rfl (fun L u W hG hdep => (show u 36 = .bool true from hG 36 (hdep 36 (by kernel_rfl)))) (fun L u W hG hdep => (show u 37 = .bool true from hG 37 (hdep 37 (by kernel_rfl))))
    · exact step_pureO hs (wants_none rfl) rfl fun L u W hG hdep => ⟨_, run_assign rfl, (show u 38 = .bool true from hG 38 (hdep 38 (by kernel_rfl)))⟩
  intro L12 u12 W12 hall hJ hG
  have hb := hJ.all rfl
  have hbel := Below.call hbel hb
  have hw7 := (StP [fNum rS [edA la], fB (edP la), fB (edPub la)]).st _ _ _ hw7 hb
  have hw9 := (StP [fNum rS [edA lb], fB (edP lb), fB (edPub lb)]).st _ _ _ hw9 hb
  have hw11 := (IsB lc).st _ _ _ hw11 hb
  have hw12 := (IsB (edSig la lc)).st _ _ _ hw12 hb
  have hw13 := (IsB (edSig la lc)).st _ _ _ hw13 hb
  have hw15 := (IsB (edPub la)).st _ _ _ hw15 hb
  have HC77 := Lib.hid (show u12 2 = .bool true from hG 2 (by simp))
  have HC78 := Lib.hid (show u12 3 = .bool true from hG 3 (by simp))
  have HC83 := Lib.hid (show u12 8 = .bool true from hG 8 (by simp))
  have HC84 := Lib.hid (show u12 9 = .bool true from hG 9 (by simp))
  have HC85 := Lib.hid (show u12 10 = .bool true from hG 10 (by simp))
  have HC93 := Lib.hid (show u12 18 = .bool true from hG 18 (by simp))
  have HC94 := Lib.hid (show u12 19 = .bool true from hG 19 (by simp))
  have HC95 := Lib.hid (show u12 20 = .bool true from hG 20 (by simp))
  have HC101 := Lib.hid (show u12 26 = .bool true from hG 26 (by simp))
  have HC102 := Lib.hid (show u12 27 = .bool true from hG 27 (by simp))
  have HC103 := Lib.hid (show u12 28 = .bool true from hG 28 (by simp))
  have HC109 := Lib.hid (show u12 34 = .bool true from hG 34 (by simp))
  have HC110 := Lib.hid (show u12 35 = .bool true from hG 35 (by simp))
  have HC111 := Lib.hid (show u12 36 = .bool true from hG 36 (by simp))
  have HC112 := Lib.hid (show u12 37 = .bool true from hG 37 (by simp))
  have HC113 := Lib.hid (show u12 38 = .bool true from hG 38 (by simp))
  have HC6 := Lib.hid (show u12 39 = .bool true from hG 39 (by simp))
  have hbel0 := hbel
  clear hJ hG hall hb
  go_wp2
  go_ret
  exact ⟨by rw [HC6.out]; rfl, hbel⟩
set_option maxRecDepth 100000 in
set_option maxHeartbeats 8000000 in
theorem edSigners_no0 {w : World} {va : Value} {la : List UInt8} {vb : Value} {lb : List UInt8} {vc : Value} {lsc : List (List UInt8)} (ha : (IsB la).P va w) (hb : (IsB lb).P vb w) (hc : (IsR lsc).P vc w) (t0 : ¬ la.length = 32) :
    Calls Try.prog 6 #[va, vb, vc] w fun e w' => e = .returned (.bool true) ∧ Below w.heap.size w w' := by
  have T0 := Lib.hid t0; clear t0
  go_enter Try.func6, Try.ntmps6
  have hbel : Below w.heap.size w w := Below.refl _ _
  have hbel0 := hbel
  go_upto_region 0 with fail
  refine wp_region_turn (fun u => (va :: vb :: vc :: undef :: undef :: undef :: u 0 :: undef :: undef :: undef :: undef :: undef :: undef :: undef :: undef :: undef :: undef :: undef :: undef :: undef :: undef :: undef :: undef :: undef :: undef :: undef :: undef :: undef :: undef :: undef :: undef :: undef :: undef :: undef :: undef :: undef :: undef :: undef :: undef :: undef :: undef :: undef :: undef :: undef :: undef :: undef :: undef :: undef :: undef :: undef :: undef :: undef :: undef :: undef :: undef :: undef :: undef :: undef :: undef :: undef :: undef :: undef :: undef :: undef :: undef :: undef :: undef :: undef :: undef :: undef :: undef :: undef :: undef :: undef :: undef :: undef :: undef :: undef :: undef :: undef :: undef :: undef :: undef :: undef :: undef :: undef :: undef :: undef :: undef :: undef :: undef :: undef :: undef :: undef :: undef :: undef :: undef :: undef :: undef :: undef :: undef :: undef :: undef :: undef :: undef :: undef :: undef :: undef :: undef :: undef :: undef :: undef :: undef :: undef :: []).toArray) (Holds [.oth (fun v => v = .bool false)] w) (Keep [.oth (fun v => v = .bool false)] w) (fun _ => undef) ?_ (by rfl) Keep.start (holds_soft (by kernel_rfl)) ?_ ?_
  · intro u i v h
    rcases i with _ | i
    all_goals first | (simp [Act.put, putV]; done) | (exfalso; simp at h; omega)
  · intro hs
    refine ⟨?_, trivial⟩
    · exact step_pureO hs (wants_none rfl) rfl fun L u W hG hdep => ⟨_, run_assign rfl, rfl⟩
  intro L0 u0 W0 hall hJ hG
  have hb := hJ.all rfl
  have hbel := Below.call hbel hb
  have HC6 := Lib.hid (show u0 0 = .bool false from hG 0 (by simp))
  have hbel0 := hbel
  clear hJ hG hall hb
  go_upto_region 1 with fail
  refine wp_region_turn (fun u => (va :: vb :: vc :: undef :: undef :: undef :: u0 0 :: undef :: undef :: undef :: undef :: undef :: undef :: undef :: undef :: undef :: undef :: u 0 :: u 1 :: u 2 :: u 3 :: u 4 :: u 5 :: u 6 :: u 7 :: u 8 :: u 9 :: u 10 :: u 11 :: u 12 :: undef :: undef :: undef :: undef :: undef :: undef :: undef :: undef :: undef :: undef :: undef :: undef :: undef :: undef :: undef :: undef :: undef :: undef :: undef :: undef :: undef :: undef :: undef :: undef :: undef :: undef :: undef :: undef :: undef :: undef :: undef :: undef :: undef :: undef :: undef :: undef :: undef :: undef :: undef :: undef :: undef :: undef :: undef :: undef :: undef :: undef :: undef :: undef :: undef :: undef :: undef :: undef :: undef :: undef :: undef :: undef :: undef :: undef :: undef :: undef :: undef :: undef :: undef :: undef :: undef :: undef :: undef :: undef :: undef :: undef :: undef :: undef :: undef :: undef :: undef :: undef :: undef :: undef :: undef :: undef :: undef :: undef :: undef :: undef :: []).toArray) (Holds [.wld (IsB la) none, .oth (fun v => v = .int .i64 (la.length : Int)), .oth (fun v => v = .bool true), .oth (fun v => v = .bool true), .oth (fun v => v = undef), .oth (fun v => v = undef), .oth (fun v => v = undef), .oth (fun v => v = .bool true), .oth (fun v => v = .bool true), .oth (fun v => v = undef), .oth (fun v => v = undef), .oth (fun v => v = undef), .oth (fun v => v = .bool true)] W0) (Keep [.wld (IsB la) none, .oth (fun v => v = .int .i64 (la.length : Int)), .oth (fun v => v = .bool true), .oth (fun v => v = .bool true), .oth (fun v => v = undef), .oth (fun v => v = undef), .oth (fun v => v = undef), .oth (fun v => v = .bool true), .oth (fun v => v = .bool true), .oth (fun v => v = undef), .oth (fun v => v = undef), .oth (fun v => v = undef), .oth (fun v => v = .bool true)] W0) (fun _ => undef) ?_ (by rfl) Keep.start (holds_soft (by kernel_rfl)) ?_ ?_
  · intro u i v h
    rcases i with _ | _ | _ | _ | _ | _ | _ | _ | _ | _ | _ | _ | _ | i
    all_goals first | (simp [Act.put, putV]; done) | (exfalso; simp at h; omega)
  · intro hs
    refine ⟨?_, ?_, ?_, ?_, ?_, ?_, ?_, ?_, ?_, ?_, ?_, ?_, ?_, trivial⟩
    · exact step_runP hs (wants_none rfl) rfl fun L u W hJ hG hL hdep => run_moveP (.inl rfl) ((IsB la).st _ _ _ ha (Below.call hbel (hJ.all rfl)))
    · exact step_runO hs (wants_none rfl) rfl fun L u W hJ hG hL hdep => run_lenP rfl (holds_wld (φ := IsB la) (hG 0 (hdep 0 (by kernel_rfl))) rfl till_none) (rfl)
    · refine step_pureO hs (wants_none rfl) rfl fun L u W hG hdep => ⟨_, ?_, rfl⟩
      have e0 := (show u 1 = .int .i64 (la.length : Int) from hG 1 (hdep 1 (by kernel_rfl)))
      have e9 := T0.out
      go_simp
      try omega
    · exact step_pureO hs (wants_none rfl) rfl fun L u W hG hdep => ⟨_, run_move rfl, (show u 2 = .bool true from hG 2 (hdep 2 (by kernel_rfl)))⟩
    · exact step_outU hs (wants_off 3 rfl rfl rfl (by kernel_rfl) (fun _ => rfl)) rfl
    · exact step_outU hs (wants_off 3 rfl rfl rfl (by kernel_rfl) (fun _ => rfl)) rfl
    · exact step_outU hs (wants_off 3 rfl rfl rfl (by kernel_rfl) (fun _ => rfl)) rfl
    · exact step_pick true hs (wants_none rfl) rfl rfl (fun L u W hG hdep => (show u 3 = .bool true from hG 3 (hdep 3 (by kernel_rfl)))) (fun L u W hG hdep => rfl)
    · exact step_pureO hs (wants_none rfl) rfl fun L u W hG hdep => ⟨_, run_move rfl, (show u 7 = .bool true from hG 7 (hdep 7 (by kernel_rfl)))⟩
    · exact step_outU hs (wants_off 8 rfl rfl rfl (by kernel_rfl) (fun _ => rfl)) rfl
    · exact step_outU hs (wants_off 8 rfl rfl rfl (by kernel_rfl) (fun _ => rfl)) rfl
    · exact step_outU hs (wants_off 8 rfl rfl rfl (by kernel_rfl) (fun _ => rfl)) rfl
    · exact step_pick true hs (wants_none rfl) rfl rfl (fun L u W hG hdep => (show u 8 = .bool true from hG 8 (hdep 8 (by kernel_rfl)))) (fun L u W hG hdep => rfl)
  intro L1 u1 W1 hall hJ hG
  have hb := hJ.all rfl
  have hbel := Below.call hbel hb
  have HC19 := Lib.hid (show u1 2 = .bool true from hG 2 (by simp))
  have HC20 := Lib.hid (show u1 3 = .bool true from hG 3 (by simp))
  have HC24 := Lib.hid (show u1 7 = .bool true from hG 7 (by simp))
  have HC25 := Lib.hid (show u1 8 = .bool true from hG 8 (by simp))
  have HC29 := Lib.hid (show u1 12 = .bool true from hG 12 (by simp))
  have hbel0 := hbel
  clear hJ hG hall hb
  have hx : u1 12 = .bool true := HC29.out
  go_wp2_with fail
  rw [hx]
  clear hx
  go_upto_region 2 with fail
  refine wp_region_turn (fun u => (va :: vb :: vc :: undef :: undef :: undef :: u 1 :: undef :: undef :: undef :: undef :: undef :: undef :: undef :: undef :: undef :: undef :: u1 0 :: u1 1 :: u1 2 :: u1 3 :: u1 4 :: u1 5 :: u1 6 :: u1 7 :: u1 8 :: u1 9 :: u1 10 :: u1 11 :: .bool true :: u 0 :: undef :: undef :: undef :: undef :: undef :: undef :: undef :: undef :: undef :: undef :: undef :: undef :: undef :: undef :: undef :: undef :: undef :: undef :: undef :: undef :: undef :: undef :: undef :: undef :: undef :: undef :: undef :: undef :: undef :: undef :: undef :: undef :: undef :: undef :: undef :: undef :: undef :: undef :: undef :: undef :: undef :: undef :: undef :: undef :: undef :: undef :: undef :: undef :: undef :: undef :: undef :: undef :: undef :: undef :: undef :: undef :: undef :: undef :: undef :: undef :: undef :: undef :: undef :: undef :: undef :: undef :: undef :: undef :: undef :: undef :: undef :: undef :: undef :: undef :: undef :: undef :: undef :: undef :: undef :: undef :: undef :: undef :: undef :: []).toArray) (Holds [.oth (fun v => v = .bool true), .oth (fun v => v = .bool true)] W1) (Keep [.oth (fun v => v = .bool true), .oth (fun v => v = .bool true)] W1) (fun k => ((undef :: u0 0 :: []) : List Value).getD k undef) ?_ (by rfl) Keep.start (holds_soft (by kernel_rfl)) ?_ ?_
  · intro u i v h
    rcases i with _ | _ | i
    all_goals first | (simp [Act.put, putV]; done) | (exfalso; simp at h; omega)
  · intro hs
    refine ⟨?_, ?_, trivial⟩
    · refine step_callO hs (wants_none rfl) rfl fun L u W hJ hG hL hdep K hK => ?_
      go_simp
      go_at_call 8
      (with_reducible refine (law9awake_any _).mono ?_); rintro e w1 ⟨rfl, hb⟩
      have hk := hK.out _ _ rfl hb
      exact hk
    · exact step_pureO hs (wants_none rfl) rfl fun L u W hG hdep => ⟨_, run_assign rfl, (show u 0 = .bool true from hG 0 (hdep 0 (by kernel_rfl)))⟩
  intro L2 u2 W2 hall hJ hG
  have hb := hJ.all rfl
  have hbel := Below.call hbel hb
  have HC30 := Lib.hid (show u2 0 = .bool true from hG 0 (by simp))
  have HC6 := Lib.hid (show u2 1 = .bool true from hG 1 (by simp))
  have hbel0 := hbel
  clear hJ hG hall hb
  go_wp2
  go_ret
  exact ⟨by rw [HC6.out]; rfl, hbel⟩
set_option maxRecDepth 100000 in
set_option maxHeartbeats 8000000 in
theorem edSigners_no1 {w : World} {va : Value} {la : List UInt8} {vb : Value} {lb : List UInt8} {vc : Value} {lsc : List (List UInt8)} (ha : (IsB la).P va w) (hb : (IsB lb).P vb w) (hc : (IsR lsc).P vc w) (t0 : la.length = 32) (t1 : ¬ lb.length = 32) :
    Calls Try.prog 6 #[va, vb, vc] w fun e w' => e = .returned (.bool true) ∧ Below w.heap.size w w' := by
  have T0 := Lib.hid t0; clear t0
  have T1 := Lib.hid t1; clear t1
  go_enter Try.func6, Try.ntmps6
  have hbel : Below w.heap.size w w := Below.refl _ _
  have hbel0 := hbel
  go_upto_region 0 with fail
  refine wp_region_turn (fun u => (va :: vb :: vc :: undef :: undef :: undef :: u 0 :: undef :: undef :: undef :: undef :: undef :: undef :: undef :: undef :: undef :: undef :: undef :: undef :: undef :: undef :: undef :: undef :: undef :: undef :: undef :: undef :: undef :: undef :: undef :: undef :: undef :: undef :: undef :: undef :: undef :: undef :: undef :: undef :: undef :: undef :: undef :: undef :: undef :: undef :: undef :: undef :: undef :: undef :: undef :: undef :: undef :: undef :: undef :: undef :: undef :: undef :: undef :: undef :: undef :: undef :: undef :: undef :: undef :: undef :: undef :: undef :: undef :: undef :: undef :: undef :: undef :: undef :: undef :: undef :: undef :: undef :: undef :: undef :: undef :: undef :: undef :: undef :: undef :: undef :: undef :: undef :: undef :: undef :: undef :: undef :: undef :: undef :: undef :: undef :: undef :: undef :: undef :: undef :: undef :: undef :: undef :: undef :: undef :: undef :: undef :: undef :: undef :: undef :: undef :: undef :: undef :: undef :: undef :: []).toArray) (Holds [.oth (fun v => v = .bool false)] w) (Keep [.oth (fun v => v = .bool false)] w) (fun _ => undef) ?_ (by rfl) Keep.start (holds_soft (by kernel_rfl)) ?_ ?_
  · intro u i v h
    rcases i with _ | i
    all_goals first | (simp [Act.put, putV]; done) | (exfalso; simp at h; omega)
  · intro hs
    refine ⟨?_, trivial⟩
    · exact step_pureO hs (wants_none rfl) rfl fun L u W hG hdep => ⟨_, run_assign rfl, rfl⟩
  intro L0 u0 W0 hall hJ hG
  have hb := hJ.all rfl
  have hbel := Below.call hbel hb
  have HC6 := Lib.hid (show u0 0 = .bool false from hG 0 (by simp))
  have hbel0 := hbel
  clear hJ hG hall hb
  go_upto_region 1 with fail
  refine wp_region_turn (fun u => (va :: vb :: vc :: undef :: undef :: undef :: u0 0 :: undef :: undef :: undef :: undef :: undef :: undef :: undef :: undef :: undef :: undef :: u 0 :: u 1 :: u 2 :: u 3 :: u 4 :: u 5 :: u 6 :: u 7 :: u 8 :: u 9 :: u 10 :: u 11 :: u 12 :: undef :: undef :: undef :: undef :: undef :: undef :: undef :: undef :: undef :: undef :: undef :: undef :: undef :: undef :: undef :: undef :: undef :: undef :: undef :: undef :: undef :: undef :: undef :: undef :: undef :: undef :: undef :: undef :: undef :: undef :: undef :: undef :: undef :: undef :: undef :: undef :: undef :: undef :: undef :: undef :: undef :: undef :: undef :: undef :: undef :: undef :: undef :: undef :: undef :: undef :: undef :: undef :: undef :: undef :: undef :: undef :: undef :: undef :: undef :: undef :: undef :: undef :: undef :: undef :: undef :: undef :: undef :: undef :: undef :: undef :: undef :: undef :: undef :: undef :: undef :: undef :: undef :: undef :: undef :: undef :: undef :: undef :: undef :: undef :: []).toArray) (Holds [.wld (IsB la) none, .oth (fun v => v = .int .i64 32), .oth (fun v => v = .bool false), .oth (fun v => v = .bool false), .wld (IsB lb) none, .oth (fun v => v = .int .i64 (lb.length : Int)), .oth (fun v => v = .bool true), .oth (fun v => v = .bool true), .oth (fun v => v = .bool true), .oth (fun v => v = undef), .oth (fun v => v = undef), .oth (fun v => v = undef), .oth (fun v => v = .bool true)] W0) (Keep [.wld (IsB la) none, .oth (fun v => v = .int .i64 32), .oth (fun v => v = .bool false), .oth (fun v => v = .bool false), .wld (IsB lb) none, .oth (fun v => v = .int .i64 (lb.length : Int)), .oth (fun v => v = .bool true), .oth (fun v => v = .bool true), .oth (fun v => v = .bool true), .oth (fun v => v = undef), .oth (fun v => v = undef), .oth (fun v => v = undef), .oth (fun v => v = .bool true)] W0) (fun _ => undef) ?_ (by rfl) Keep.start (holds_soft (by kernel_rfl)) ?_ ?_
  · intro u i v h
    rcases i with _ | _ | _ | _ | _ | _ | _ | _ | _ | _ | _ | _ | _ | i
    all_goals first | (simp [Act.put, putV]; done) | (exfalso; simp at h; omega)
  · intro hs
    refine ⟨?_, ?_, ?_, ?_, ?_, ?_, ?_, ?_, ?_, ?_, ?_, ?_, ?_, trivial⟩
    · exact step_runP hs (wants_none rfl) rfl fun L u W hJ hG hL hdep => run_moveP (.inl rfl) ((IsB la).st _ _ _ ha (Below.call hbel (hJ.all rfl)))
    · exact step_runO hs (wants_none rfl) rfl fun L u W hJ hG hL hdep => run_lenP rfl (holds_wld (φ := IsB la) (hG 0 (hdep 0 (by kernel_rfl))) rfl till_none) (by rw [T0.out]; rfl)
    · refine step_pureO hs (wants_none rfl) rfl fun L u W hG hdep => ⟨_, ?_, rfl⟩
      have e0 := (show u 1 = .int .i64 32 from hG 1 (hdep 1 (by kernel_rfl)))
      go_simp
      try simp [bne]
    · exact step_pureO hs (wants_none rfl) rfl fun L u W hG hdep => ⟨_, run_move rfl, (show u 2 = .bool false from hG 2 (hdep 2 (by kernel_rfl)))⟩
    · exact step_runP hs (wants_on 3 rfl rfl (by kernel_rfl) (fun _ => rfl)) rfl fun L u W hJ hG hL hdep => run_moveP (.inl rfl) ((IsB lb).st _ _ _ hb (Below.call hbel (hJ.all rfl)))
    · exact step_runO hs (wants_on 3 rfl rfl (by kernel_rfl) (fun _ => rfl)) rfl fun L u W hJ hG hL hdep => run_lenP rfl (holds_wld (φ := IsB lb) (hG 4 (hdep 4 (by kernel_rfl))) rfl till_none) (rfl)
    · refine step_pureO hs (wants_on 3 rfl rfl (by kernel_rfl) (fun _ => rfl)) rfl fun L u W hG hdep => ⟨_, ?_, rfl⟩
      have e0 := (show u 5 = .int .i64 (lb.length : Int) from hG 5 (hdep 5 (by kernel_rfl)))
      have e9 := T1.out
      go_simp
      try omega
    · exact step_pick false hs (wants_none rfl) rfl rfl (fun L u W hG hdep => (show u 3 = .bool false from hG 3 (hdep 3 (by kernel_rfl)))) (fun L u W hG hdep => (show u 6 = .bool true from hG 6 (hdep 6 (by kernel_rfl))))
    · exact step_pureO hs (wants_none rfl) rfl fun L u W hG hdep => ⟨_, run_move rfl, (show u 7 = .bool true from hG 7 (hdep 7 (by kernel_rfl)))⟩
    · exact step_outU hs (wants_off 8 rfl rfl rfl (by kernel_rfl) (fun _ => rfl)) rfl
    · exact step_outU hs (wants_off 8 rfl rfl rfl (by kernel_rfl) (fun _ => rfl)) rfl
    · exact step_outU hs (wants_off 8 rfl rfl rfl (by kernel_rfl) (fun _ => rfl)) rfl
    · exact step_pick true hs (wants_none rfl) rfl rfl (fun L u W hG hdep => (show u 8 = .bool true from hG 8 (hdep 8 (by kernel_rfl)))) (fun L u W hG hdep => rfl)
  intro L1 u1 W1 hall hJ hG
  have hb := hJ.all rfl
  have hbel := Below.call hbel hb
  have HC19 := Lib.hid (show u1 2 = .bool false from hG 2 (by simp))
  have HC20 := Lib.hid (show u1 3 = .bool false from hG 3 (by simp))
  have HC23 := Lib.hid (show u1 6 = .bool true from hG 6 (by simp))
  have HC24 := Lib.hid (show u1 7 = .bool true from hG 7 (by simp))
  have HC25 := Lib.hid (show u1 8 = .bool true from hG 8 (by simp))
  have HC29 := Lib.hid (show u1 12 = .bool true from hG 12 (by simp))
  have hbel0 := hbel
  clear hJ hG hall hb
  have hx : u1 12 = .bool true := HC29.out
  go_wp2_with fail
  rw [hx]
  clear hx
  go_upto_region 2 with fail
  refine wp_region_turn (fun u => (va :: vb :: vc :: undef :: undef :: undef :: u 1 :: undef :: undef :: undef :: undef :: undef :: undef :: undef :: undef :: undef :: undef :: u1 0 :: u1 1 :: u1 2 :: u1 3 :: u1 4 :: u1 5 :: u1 6 :: u1 7 :: u1 8 :: u1 9 :: u1 10 :: u1 11 :: .bool true :: u 0 :: undef :: undef :: undef :: undef :: undef :: undef :: undef :: undef :: undef :: undef :: undef :: undef :: undef :: undef :: undef :: undef :: undef :: undef :: undef :: undef :: undef :: undef :: undef :: undef :: undef :: undef :: undef :: undef :: undef :: undef :: undef :: undef :: undef :: undef :: undef :: undef :: undef :: undef :: undef :: undef :: undef :: undef :: undef :: undef :: undef :: undef :: undef :: undef :: undef :: undef :: undef :: undef :: undef :: undef :: undef :: undef :: undef :: undef :: undef :: undef :: undef :: undef :: undef :: undef :: undef :: undef :: undef :: undef :: undef :: undef :: undef :: undef :: undef :: undef :: undef :: undef :: undef :: undef :: undef :: undef :: undef :: undef :: undef :: []).toArray) (Holds [.oth (fun v => v = .bool true), .oth (fun v => v = .bool true)] W1) (Keep [.oth (fun v => v = .bool true), .oth (fun v => v = .bool true)] W1) (fun k => ((undef :: u0 0 :: []) : List Value).getD k undef) ?_ (by rfl) Keep.start (holds_soft (by kernel_rfl)) ?_ ?_
  · intro u i v h
    rcases i with _ | _ | i
    all_goals first | (simp [Act.put, putV]; done) | (exfalso; simp at h; omega)
  · intro hs
    refine ⟨?_, ?_, trivial⟩
    · refine step_callO hs (wants_none rfl) rfl fun L u W hJ hG hL hdep K hK => ?_
      go_simp
      go_at_call 8
      (with_reducible refine (law9awake_any _).mono ?_); rintro e w1 ⟨rfl, hb⟩
      have hk := hK.out _ _ rfl hb
      exact hk
    · exact step_pureO hs (wants_none rfl) rfl fun L u W hG hdep => ⟨_, run_assign rfl, (show u 0 = .bool true from hG 0 (hdep 0 (by kernel_rfl)))⟩
  intro L2 u2 W2 hall hJ hG
  have hb := hJ.all rfl
  have hbel := Below.call hbel hb
  have HC30 := Lib.hid (show u2 0 = .bool true from hG 0 (by simp))
  have HC6 := Lib.hid (show u2 1 = .bool true from hG 1 (by simp))
  have hbel0 := hbel
  clear hJ hG hall hb
  go_wp2
  go_ret
  exact ⟨by rw [HC6.out]; rfl, hbel⟩
set_option maxRecDepth 100000 in
set_option maxHeartbeats 8000000 in
theorem edSigners_no2 {w : World} {va : Value} {la : List UInt8} {vb : Value} {lb : List UInt8} {vc : Value} {lsc : List (List UInt8)} (ha : (IsB la).P va w) (hb : (IsB lb).P vb w) (hc : (IsR lsc).P vc w) (t0 : la.length = 32) (t1 : lb.length = 32) (t2 : 300 < allZ lsc) :
    Calls Try.prog 6 #[va, vb, vc] w fun e w' => e = .returned (.bool true) ∧ Below w.heap.size w w' := by
  have T0 := Lib.hid t0; clear t0
  have T1 := Lib.hid t1; clear t1
  have T2 := Lib.hid t2; clear t2
  obtain ⟨z, hz⟩ : ∃ z, allZ lsc = z := ⟨_, rfl⟩
  have HZ := Lib.hid hz; clear hz
  go_enter Try.func6, Try.ntmps6
  have hbel : Below w.heap.size w w := Below.refl _ _
  have hbel0 := hbel
  go_upto_region 0 with fail
  refine wp_region_turn (fun u => (va :: vb :: vc :: undef :: undef :: undef :: u 0 :: undef :: undef :: undef :: undef :: undef :: undef :: undef :: undef :: undef :: undef :: undef :: undef :: undef :: undef :: undef :: undef :: undef :: undef :: undef :: undef :: undef :: undef :: undef :: undef :: undef :: undef :: undef :: undef :: undef :: undef :: undef :: undef :: undef :: undef :: undef :: undef :: undef :: undef :: undef :: undef :: undef :: undef :: undef :: undef :: undef :: undef :: undef :: undef :: undef :: undef :: undef :: undef :: undef :: undef :: undef :: undef :: undef :: undef :: undef :: undef :: undef :: undef :: undef :: undef :: undef :: undef :: undef :: undef :: undef :: undef :: undef :: undef :: undef :: undef :: undef :: undef :: undef :: undef :: undef :: undef :: undef :: undef :: undef :: undef :: undef :: undef :: undef :: undef :: undef :: undef :: undef :: undef :: undef :: undef :: undef :: undef :: undef :: undef :: undef :: undef :: undef :: undef :: undef :: undef :: undef :: undef :: undef :: []).toArray) (Holds [.oth (fun v => v = .bool false)] w) (Keep [.oth (fun v => v = .bool false)] w) (fun _ => undef) ?_ (by rfl) Keep.start (holds_soft (by kernel_rfl)) ?_ ?_
  · intro u i v h
    rcases i with _ | i
    all_goals first | (simp [Act.put, putV]; done) | (exfalso; simp at h; omega)
  · intro hs
    refine ⟨?_, trivial⟩
    · exact step_pureO hs (wants_none rfl) rfl fun L u W hG hdep => ⟨_, run_assign rfl, rfl⟩
  intro L0 u0 W0 hall hJ hG
  have hb := hJ.all rfl
  have hbel := Below.call hbel hb
  have HC6 := Lib.hid (show u0 0 = .bool false from hG 0 (by simp))
  have hbel0 := hbel
  clear hJ hG hall hb
  go_upto_region 1 with fail
  refine wp_region_turn (fun u => (va :: vb :: vc :: undef :: undef :: undef :: u0 0 :: undef :: undef :: undef :: undef :: undef :: undef :: undef :: undef :: undef :: undef :: u 0 :: u 1 :: u 2 :: u 3 :: u 4 :: u 5 :: u 6 :: u 7 :: u 8 :: u 9 :: u 10 :: u 11 :: u 12 :: undef :: undef :: undef :: undef :: undef :: undef :: undef :: undef :: undef :: undef :: undef :: undef :: undef :: undef :: undef :: undef :: undef :: undef :: undef :: undef :: undef :: undef :: undef :: undef :: undef :: undef :: undef :: undef :: undef :: undef :: undef :: undef :: undef :: undef :: undef :: undef :: undef :: undef :: undef :: undef :: undef :: undef :: undef :: undef :: undef :: undef :: undef :: undef :: undef :: undef :: undef :: undef :: undef :: undef :: undef :: undef :: undef :: undef :: undef :: undef :: undef :: undef :: undef :: undef :: undef :: undef :: undef :: undef :: undef :: undef :: undef :: undef :: undef :: undef :: undef :: undef :: undef :: undef :: undef :: undef :: undef :: undef :: undef :: undef :: []).toArray) (Holds [.wld (IsB la) none, .oth (fun v => v = .int .i64 32), .oth (fun v => v = .bool false), .oth (fun v => v = .bool false), .wld (IsB lb) none, .oth (fun v => v = .int .i64 32), .oth (fun v => v = .bool false), .oth (fun v => v = .bool false), .oth (fun v => v = .bool false), .wld (IsR lsc) none, .oth (fun v => v = .int .i64 z), .oth (fun v => v = .bool true), .oth (fun v => v = .bool true)] W0) (Keep [.wld (IsB la) none, .oth (fun v => v = .int .i64 32), .oth (fun v => v = .bool false), .oth (fun v => v = .bool false), .wld (IsB lb) none, .oth (fun v => v = .int .i64 32), .oth (fun v => v = .bool false), .oth (fun v => v = .bool false), .oth (fun v => v = .bool false), .wld (IsR lsc) none, .oth (fun v => v = .int .i64 z), .oth (fun v => v = .bool true), .oth (fun v => v = .bool true)] W0) (fun _ => undef) ?_ (by rfl) Keep.start (holds_soft (by kernel_rfl)) ?_ ?_
  · intro u i v h
    rcases i with _ | _ | _ | _ | _ | _ | _ | _ | _ | _ | _ | _ | _ | i
    all_goals first | (simp [Act.put, putV]; done) | (exfalso; simp at h; omega)
  · intro hs
    refine ⟨?_, ?_, ?_, ?_, ?_, ?_, ?_, ?_, ?_, ?_, ?_, ?_, ?_, trivial⟩
    · exact step_runP hs (wants_none rfl) rfl fun L u W hJ hG hL hdep => run_moveP (.inl rfl) ((IsB la).st _ _ _ ha (Below.call hbel (hJ.all rfl)))
    · exact step_runO hs (wants_none rfl) rfl fun L u W hJ hG hL hdep => run_lenP rfl (holds_wld (φ := IsB la) (hG 0 (hdep 0 (by kernel_rfl))) rfl till_none) (by rw [T0.out]; rfl)
    · refine step_pureO hs (wants_none rfl) rfl fun L u W hG hdep => ⟨_, ?_, rfl⟩
      have e0 := (show u 1 = .int .i64 32 from hG 1 (hdep 1 (by kernel_rfl)))
      go_simp
      try simp [bne]
    · exact step_pureO hs (wants_none rfl) rfl fun L u W hG hdep => ⟨_, run_move rfl, (show u 2 = .bool false from hG 2 (hdep 2 (by kernel_rfl)))⟩
    · exact step_runP hs (wants_on 3 rfl rfl (by kernel_rfl) (fun _ => rfl)) rfl fun L u W hJ hG hL hdep => run_moveP (.inl rfl) ((IsB lb).st _ _ _ hb (Below.call hbel (hJ.all rfl)))
    · exact step_runO hs (wants_on 3 rfl rfl (by kernel_rfl) (fun _ => rfl)) rfl fun L u W hJ hG hL hdep => run_lenP rfl (holds_wld (φ := IsB lb) (hG 4 (hdep 4 (by kernel_rfl))) rfl till_none) (by rw [T1.out]; rfl)
    · refine step_pureO hs (wants_on 3 rfl rfl (by kernel_rfl) (fun _ => rfl)) rfl fun L u W hG hdep => ⟨_, ?_, rfl⟩
      have e0 := (show u 5 = .int .i64 32 from hG 5 (hdep 5 (by kernel_rfl)))
      go_simp
      try simp [bne]
    · exact step_pick false hs (wants_none rfl) rfl rfl (fun L u W hG hdep => (show u 3 = .bool false from hG 3 (hdep 3 (by kernel_rfl)))) (fun L u W hG hdep => (show u 6 = .bool false from hG 6 (hdep 6 (by kernel_rfl))))
    · exact step_pureO hs (wants_none rfl) rfl fun L u W hG hdep => ⟨_, run_move rfl, (show u 7 = .bool false from hG 7 (hdep 7 (by kernel_rfl)))⟩
    · exact step_runP hs (wants_on 8 rfl rfl (by kernel_rfl) (fun _ => rfl)) rfl fun L u W hJ hG hL hdep => run_moveP (.inl rfl) ((IsR lsc).st _ _ _ hc (Below.call hbel (hJ.all rfl)))
    · refine step_callO hs (wants_on 8 rfl rfl (by kernel_rfl) (fun _ => rfl)) rfl fun L u W hJ hG hL hdep K hK => ?_
      go_simp
      go_at_call 7
      (with_reducible refine (gAll (z := z) HZ.out (holds_wld (φ := IsR lsc) (hG 9 (hdep 9 (by kernel_rfl))) rfl till_none)).mono ?_); rintro e w1 ⟨rfl, hb⟩
      have hk := hK.out _ _ rfl hb
      exact hk
    · refine step_pureO hs (wants_on 8 rfl rfl (by kernel_rfl) (fun _ => rfl)) rfl fun L u W hG hdep => ⟨_, ?_, rfl⟩
      have e0 := (show u 10 = .int .i64 z from hG 10 (hdep 10 (by kernel_rfl)))
      have e9 : decide (300 < z) = true := decide_eq_true (by rw [← HZ.out]; exact T2.out)
      go_simp
      try exact e9
    · exact step_pick false hs (wants_none rfl) rfl rfl (fun L u W hG hdep => (show u 8 = .bool false from hG 8 (hdep 8 (by kernel_rfl)))) (fun L u W hG hdep => (show u 11 = .bool true from hG 11 (hdep 11 (by kernel_rfl))))
  intro L1 u1 W1 hall hJ hG
  have hb := hJ.all rfl
  have hbel := Below.call hbel hb
  have HC19 := Lib.hid (show u1 2 = .bool false from hG 2 (by simp))
  have HC20 := Lib.hid (show u1 3 = .bool false from hG 3 (by simp))
  have HC23 := Lib.hid (show u1 6 = .bool false from hG 6 (by simp))
  have HC24 := Lib.hid (show u1 7 = .bool false from hG 7 (by simp))
  have HC25 := Lib.hid (show u1 8 = .bool false from hG 8 (by simp))
  have HC28 := Lib.hid (show u1 11 = .bool true from hG 11 (by simp))
  have HC29 := Lib.hid (show u1 12 = .bool true from hG 12 (by simp))
  have hbel0 := hbel
  clear hJ hG hall hb
  have hx : u1 12 = .bool true := HC29.out
  go_wp2_with fail
  rw [hx]
  clear hx
  go_upto_region 2 with fail
  refine wp_region_turn (fun u => (va :: vb :: vc :: undef :: undef :: undef :: u 1 :: undef :: undef :: undef :: undef :: undef :: undef :: undef :: undef :: undef :: undef :: u1 0 :: u1 1 :: u1 2 :: u1 3 :: u1 4 :: u1 5 :: u1 6 :: u1 7 :: u1 8 :: u1 9 :: u1 10 :: u1 11 :: .bool true :: u 0 :: undef :: undef :: undef :: undef :: undef :: undef :: undef :: undef :: undef :: undef :: undef :: undef :: undef :: undef :: undef :: undef :: undef :: undef :: undef :: undef :: undef :: undef :: undef :: undef :: undef :: undef :: undef :: undef :: undef :: undef :: undef :: undef :: undef :: undef :: undef :: undef :: undef :: undef :: undef :: undef :: undef :: undef :: undef :: undef :: undef :: undef :: undef :: undef :: undef :: undef :: undef :: undef :: undef :: undef :: undef :: undef :: undef :: undef :: undef :: undef :: undef :: undef :: undef :: undef :: undef :: undef :: undef :: undef :: undef :: undef :: undef :: undef :: undef :: undef :: undef :: undef :: undef :: undef :: undef :: undef :: undef :: undef :: undef :: []).toArray) (Holds [.oth (fun v => v = .bool true), .oth (fun v => v = .bool true)] W1) (Keep [.oth (fun v => v = .bool true), .oth (fun v => v = .bool true)] W1) (fun k => ((undef :: u0 0 :: []) : List Value).getD k undef) ?_ (by rfl) Keep.start (holds_soft (by kernel_rfl)) ?_ ?_
  · intro u i v h
    rcases i with _ | _ | i
    all_goals first | (simp [Act.put, putV]; done) | (exfalso; simp at h; omega)
  · intro hs
    refine ⟨?_, ?_, trivial⟩
    · refine step_callO hs (wants_none rfl) rfl fun L u W hJ hG hL hdep K hK => ?_
      go_simp
      go_at_call 8
      (with_reducible refine (law9awake_any _).mono ?_); rintro e w1 ⟨rfl, hb⟩
      have hk := hK.out _ _ rfl hb
      exact hk
    · exact step_pureO hs (wants_none rfl) rfl fun L u W hG hdep => ⟨_, run_assign rfl, (show u 0 = .bool true from hG 0 (hdep 0 (by kernel_rfl)))⟩
  intro L2 u2 W2 hall hJ hG
  have hb := hJ.all rfl
  have hbel := Below.call hbel hb
  have HC30 := Lib.hid (show u2 0 = .bool true from hG 0 (by simp))
  have HC6 := Lib.hid (show u2 1 = .bool true from hG 1 (by simp))
  have hbel0 := hbel
  clear hJ hG hall hb
  go_wp2
  go_ret
  exact ⟨by rw [HC6.out]; rfl, hbel⟩
theorem edSigners_any {a0 : Option Addr} {n0 cap0 : Nat} {la : List UInt8} {a1 : Option Addr} {n1 cap1 : Nat} {lb : List UInt8} {a2 : Option Addr} {n2 cap2 : Nat} {lsc : List (List UInt8)} (w : World) (ha : RdB w a0 n0 cap0 la) (hb : RdB w a1 n1 cap1 lb) (hc : RdRows w a2 n2 cap2 lsc) :
    Calls Try.prog 6 #[.slice a0 n0 cap0, .slice a1 n1 cap1, .slice a2 n2 cap2] w fun e w' => e = .returned (.bool true) ∧ Below w.heap.size w w' := by
  by_cases t0 : la.length = 32
  rotate_left
  · exact edSigners_no0 (IsB.mk ha) (IsB.mk hb) (IsR.mk hc)  (t0)
  by_cases t1 : lb.length = 32
  rotate_left
  · exact edSigners_no1 (IsB.mk ha) (IsB.mk hb) (IsR.mk hc) t0 (t1)
  by_cases t2 : allZ lsc ≤ 300
  rotate_left
  · exact edSigners_no2 (IsB.mk ha) (IsB.mk hb) (IsR.mk hc) t0 t1 (Int.not_le.1 t2)
  exact edSigners_few (IsB.mk ha) (IsB.mk hb) (IsR.mk hc) t0 t1 t2
namespace edSignersDone
theorem own : ownKnob Try.prog.godebug = none := by kernel_rfl
theorem laidOut : laidOutB Try.prog = true := by kernel_rfl
set_option maxRecDepth 100000 in
theorem lifted (os : Os) (started : os.Started) (H : Type) (enc : TypeId × Value → H) :
    ReturnsInHanded {} Try.checked os 6 .any (Rows.edSignersSpec.pre6 enc Try.prog Try.f6 Rows.edSignersRow.domain false) (Rows.edSignersSpec.post enc Try.prog Try.f6 false true false false) := by
  refine returnsInHanded_of_change (C := Try.checked) own started (by kernel_rfl) Try.func6
    (ChangeSpec.witness6 (enc := enc) (C := Try.checked) false ⟨#[], #[.slice none 0 0, .slice none 0 0, .slice none 0 0], []⟩ 8 (by kernel_rfl) (by kernel_rfl) (by kernel_rfl) (by kernel_rfl)) ?_
  intro W base args ds gs before hval0 hW hcnd _
  have hval : ∀ (j : Nat) t v, Try.f6.params[j]? = some t → args[j]? = some v → Value.okWide Try.prog W .any base t v := hval0
  have hW' := hW
  obtain ⟨p, q, hA0, hV, rfl, hfz, hnd⟩ := hW
  have hA : DataW.TrodAll enc Try.prog W 0 (fun _ => true) true Try.f6.params.toList args.toList ds p := hA0
  rw [Try.params6] at hA hval
  obtain ⟨v0, vs0, d0, ds0, p0, q0, hargs, rfl, rfl, h0, r0⟩ := trodAll_cons hA
  obtain ⟨v1, vs1, d1, ds1, p1, q1, rfl, rfl, rfl, h1, r1⟩ := trodAll_cons r0
  obtain ⟨v2, vs2, d2, ds2, p2, q2, rfl, rfl, rfl, h2, r2⟩ := trodAll_cons r1
  obtain ⟨rfl, rfl, rfl⟩ := trodAll_nil r2
  obtain rfl : args = #[v0, v1, v2] := by cases args; simp_all
  obtain ⟨rfl, rfl⟩ := trodVars_none hV
  obtain ⟨a0, len0, cap0, rfl⟩ := okWide_slice Try.underlying22 (hval 0 22 v0 rfl rfl)
  have k0 := h0
  have lt0 : ∀ x ∈ p0, x.block < W.heap.size := by obtain ⟨m, hm⟩ := k0; exact DataW.trod_lt m _ _ _ hm
  obtain ⟨l0, w0⟩ : ∃ l, RdB W a0 len0 cap0 l := by
    obtain ⟨fuel, hf⟩ := h0
    rcases open_ints Try.underlying22 Try.underlying5 (by kernel_rfl) hf with ⟨hcs, _⟩ | ⟨x, l, c, zs, hcs, _, hl, hm, hz, _, hcell, hwz⟩
    · simp [Value.cells] at hcs
      obtain ⟨rfl, rfl, rfl⟩ := hcs
      exact ⟨[], RdB.nil _⟩
    · simp [Value.cells] at hcs
      obtain ⟨rfl, rfl, rfl⟩ := hcs
      exact RdB.of_ints (.inr ⟨_, rfl, hl, hm, by simpa using hz, hcell, hwz⟩)
  obtain ⟨a1, len1, cap1, rfl⟩ := okWide_slice Try.underlying22 (hval 1 22 v1 rfl rfl)
  have k1 := h1
  have lt1 : ∀ x ∈ p1, x.block < W.heap.size := by obtain ⟨m, hm⟩ := k1; exact DataW.trod_lt m _ _ _ hm
  obtain ⟨l1, w1⟩ : ∃ l, RdB W a1 len1 cap1 l := by
    obtain ⟨fuel, hf⟩ := h1
    rcases open_ints Try.underlying22 Try.underlying5 (by kernel_rfl) hf with ⟨hcs, _⟩ | ⟨x, l, c, zs, hcs, _, hl, hm, hz, _, hcell, hwz⟩
    · simp [Value.cells] at hcs
      obtain ⟨rfl, rfl, rfl⟩ := hcs
      exact ⟨[], RdB.nil _⟩
    · simp [Value.cells] at hcs
      obtain ⟨rfl, rfl, rfl⟩ := hcs
      exact RdB.of_ints (.inr ⟨_, rfl, hl, hm, by simpa using hz, hcell, hwz⟩)
  obtain ⟨a2, len2, cap2, rfl⟩ := okWide_slice Try.underlying23 (hval 2 23 v2 rfl rfl)
  have k2 := h2
  have lt2 : ∀ x ∈ p2, x.block < W.heap.size := by obtain ⟨m, hm⟩ := k2; exact DataW.trod_lt m _ _ _ hm
  obtain ⟨l2, w2⟩ : ∃ l, RdRows W a2 len2 cap2 l := by
    obtain ⟨fuel, hf⟩ := h2
    rcases Deep.open_int_rows Try.underlying23 Try.underlying22 Try.underlying5 (by kernel_rfl) (by kernel_rfl) hf with ⟨hcs, _⟩ | ⟨x, l, c, A, L, C, Z, hcs, _, hl, hm, _, hr⟩
    · simp [Value.cells] at hcs
      obtain ⟨rfl, rfl, rfl⟩ := hcs
      exact RdRows.of_rows (.inl ⟨rfl, rfl, rfl⟩)
    · simp [Value.cells] at hcs
      obtain ⟨rfl, rfl, rfl⟩ := hcs
      exact RdRows.of_rows (.inr ⟨x, A, L, C, Z, rfl, hl, hm, fun r hc => ⟨(hr r hc).1, (hr r hc).2.1, (hr r hc).2.2.1, (hr r hc).2.2.2.1, (hr r hc).2.2.2.2.1, (hr r hc).2.2.2.2.2.1, fun a' h => ((hr r hc).2.2.2.2.2.2 a' h).2⟩⟩)
  clear hA0 hval0
  refine (edSigners_any W w0 w1 w2).mono fun e W' ⟨he, bel⟩ => ?_
  subst he
  exact ⟨_, rfl, _, _, _, [], _, [], hW', trodAll_mk1 (shut_bool Try.underlying4 _), (trodAll_cons_mk (Below.trod laidOut (by kernel_rfl) (of_decide_eq_true (by kernel_rfl)) k0 bel lt0) (trodAll_cons_mk (Below.trod laidOut (by kernel_rfl) (of_decide_eq_true (by kernel_rfl)) k1 bel lt1) (trodAll_cons_mk (Below.trod laidOut (by kernel_rfl) (of_decide_eq_true (by kernel_rfl)) k2 bel lt2) trodAll_mk0))), rfl, bel.frame _, fun h => by cases h⟩
theorem over : Rows.edSignersRow.holds Try.pinned (OpenSpec.ofChange Rows.edSignersSpec) :=
  OpenClaim.holds_of_wide 6 Try.f6 rfl rfl rfl rfl rfl rfl rfl ⟨rfl, rfl, rfl, rfl, rfl⟩ rfl rfl rfl rfl rfl (by kernel_rfl) Try.func6 (by kernel_rfl)
    (of_decide_eq_true (by kernel_rfl)) (by unfold Func.isWrapper; first | (rw [if_pos (by decide +kernel)]; kernel_rfl) | (rw [if_neg (by decide +kernel)]; exact ⟨rfl, rfl⟩))
    (fun os started H enc _ => lifted os started H enc)
theorem proved : Rows.EdSignersSaid := over
#print axioms proved
end edSignersDone

end Go.Proofs.Ytielgpefoameiaa
