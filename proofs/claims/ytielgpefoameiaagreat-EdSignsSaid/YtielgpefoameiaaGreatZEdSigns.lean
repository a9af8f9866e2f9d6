/- Of chapter 9, EdSigns: for every input the law returns true, and each argument reads behind the call as it read before. No condition. -/
import Derived.Test.YtielgpefoameiaaGreatZEYE
import Derived.ProofKit
import Derived.ShutString
import Derived.ChangeOld
namespace Go.Proofs.YtielgpefoameiaaGreat
open Go Go.ChangeShapes Go.WideShapes Go.ChangeAt Go.RowKit
open Go.ChangeMaps (open_string shut_string)

set_option maxRecDepth 100000 in
set_option maxHeartbeats 8000000 in
theorem edSigns_few {w : World} {va : Value} {la : List UInt8} {vb : Value} {lsb : List (List UInt8)} (ha : (IsB la).P va w) (hb : (IsR lsb).P vb w) (t0 : la.length ≤ 40) (t1 : allZ lsb ≤ 300) :
  Calls Tryz.prog 3 #[va, vb] w fun e w' => e = .returned (.bool true) ∧ Below w.heap.size w w' := by
 have T0 := Lib.hid t0; clear t0
 have T1 := Lib.hid t1; clear t1
 obtain ⟨z, hz⟩ : ∃ z, allZ lsb = z := ⟨_, rfl⟩
 have HZ := Lib.hid hz; clear hz
 obtain ⟨lb, hlc⟩ : ∃ l, lsb.flatten = l := ⟨_, rfl⟩
 have HM : Hid (lb.length ≤ 300) := Lib.hid (by rw [← hlc]; exact allZ_few T1.out)
 have HLC := Lib.hid hlc; clear hlc
 go_enter Tryz.func3, Tryz.ntmps3
 have hbel : Below w.heap.size w w := Below.refl _ _
 have hbel0 := hbel
 go_upto_region 0 with fail
 by_cases hl9 : la.length = 32
 ·have HL9 := Lib.hid hl9; clear hl9
  refine rgT [(4, 0)] [.oth (fun v => v = .bool false)] ?_ ?_
  ·intro hs
   refine ⟨?_, trivial⟩
   ·exact mvK hs fun _ => rfl
  intro L0 u0y W0y hall hJ hG
  have hb := hJ.all rfl
  have hbel := Below.call hbel hb
  have HC4 := oC (.bool false) hG 0
  have hbel0 := hbel
  clear hJ hG hall hb
  go_upto_region 1 with fail
  refine rgT [(13, 0), (0, 1), (0, 2), (0, 3), (0, 4), (0, 5), (0, 6), (0, 7)] [.wld (IsB la) none, .oth (fun v => v = .int .i64 32), .oth (fun v => v = .bool false), .oth (fun v => v = .bool false), .wld (IsR lsb) none, .oth (fun v => v = .int .i64 z), .oth (fun v => v = .bool false), .oth (fun v => v = .bool false)] ?_ ?_
  ·intro hs
   refine ⟨?_, ?_, ?_, ?_, ?_, ?_, ?_, ?_, trivial⟩
   ·exact step_runP hs Wn rfl fun L u W hJ hG hL hdep => run_moveP (.inl rfl) ((IsB la).st _ _ _ ha (Below.call hbel (hJ.all rfl)))
   ·exact step_runO hs Wn rfl fun L u W hJ hG hL hdep => run_lenP rfl (hW (IsB la) hG hdep 0) (by rw [HL9.out]; rfl)
   ·refine step_pureO hs Wn rfl fun L u W hG hdep => ⟨_, ?_, rfl⟩
    have e0 := (oE (.int .i64 32) hG hdep 1)
    go_simp
    try simp [bne]
   ·exact mvO 2 hs
   ·exact step_runP hs (wants_on 3 rfl rfl (by kernel_rfl) (fun _ => rfl)) rfl fun L u W hJ hG hL hdep => run_moveP (.inl rfl) ((IsR lsb).st _ _ _ hb (Below.call hbel (hJ.all rfl)))
   ·refine step_callO hs (wants_on 3 rfl rfl (by kernel_rfl) (fun _ => rfl)) rfl fun L u W hJ hG hL hdep K hK => ?_
    go_simp
    go_at_call 5
    (with_reducible refine (gAll (z := z) HZ.out (holds_wld (φ := IsR lsb) (hG 4 (hdep 4 (by kernel_rfl))) rfl till_none)).mono ?_); rintro e w1 ⟨rfl, hb⟩
    exact hK.out _ _ rfl hb
   ·refine step_pureO hs (wants_on 3 rfl rfl (by kernel_rfl) (fun _ => rfl)) rfl fun L u W hG hdep => ⟨_, ?_, rfl⟩
    have e0 := (oE (.int .i64 z) hG hdep 5)
    have e9 : decide (300 < z) = false := decide_eq_false (by rw [← HZ.out]; have := T1.out; omega)
    go_simp
    try exact e9
   ·exact step_pick false hs Wn rfl rfl (fun L u W hG hdep => (oE (.bool false) hG hdep 3)) (fun L u W hG hdep => (oE (.bool false) hG hdep 6))
  intro L1 u1y W1y hall hJ hG
  have hb := hJ.all rfl
  have hbel := Below.call hbel hb
  have HC15 := oC (.bool false) hG 2
  have HC16 := oC (.bool false) hG 3
  have HC19 := oC (.bool false) hG 6
  have HC20 := oC (.bool false) hG 7
  have hbel0 := hbel
  clear hJ hG hall hb
  have hx : u1y 7 = .bool false := HC20.out
  go_wp2_with fail
  rw [hx]
  clear hx
  go_upto_region 3 with fail
  refine rgT [(5, 5), (0, 6), (15, 2), (0, 0), (0, 1), (0, 3), (0, 4)] [.wld (IsB la) none, .wld (TwV (IsB (edPub la)) (.int .i64 0)) none, .wld (TwV (IsB (edPub la)) (.int .i64 0)) none, .wld (IsB (edPub la)) none, .oth (fun v => v = .int .i64 0), .wld (IsB (edPub la)) none, .oth (fun v => v = .int .i64 0)] ?_ ?_
  ·intro hs
   refine ⟨?_, ?_, ?_, ?_, ?_, ?_, ?_, trivial⟩
   ·exact step_runP hs Wn rfl fun L u W hJ hG hL hdep => run_moveP (.inl rfl) ((IsB la).st _ _ _ ha (Below.call hbel (hJ.all rfl)))
   ·refine step_callP hs Wn rfl fun L u W hJ hG hL hdep K hK => ?_
    go_simp
    go_at_call 7
    (with_reducible refine (gPublicW (holds_wld (φ := IsB la) (hG 0 (hdep 0 (by kernel_rfl))) rfl till_none) (HL9.out)).mono ?_); rintro e w1 ⟨r, rfl, hr, hb⟩
    exact hK.out _ _ hr hb
   ·exact step_runP hs Wn rfl fun L u W hJ hG hL hdep => run_moveP (.inl rfl) (hW (TwV (IsB (edPub la)) (.int .i64 0)) hG hdep 1)
   ·exact step_runP hs Wn rfl fun L u W hJ hG hL hdep => run_tw0 rfl (hW (TwV (IsB (edPub la)) (.int .i64 0)) hG hdep 2)
   ·exact step_runO hs Wn rfl fun L u W hJ hG hL hdep => run_tw1 rfl (hW (TwV (IsB (edPub la)) (.int .i64 0)) hG hdep 2)
   ·exact step_runP hs Wn rfl fun L u W hJ hG hL hdep => run_moveP (.inr rfl) (hW (IsB (edPub la)) hG hdep 3)
   ·exact mvO 4 hs
  intro L3 u3y W3y hall hJ hG
  have hb := hJ.all rfl
  have hbel := Below.call hbel hb
  have hw5y := oW (IsB (edPub la)) hG 5
  have HC6 := oC (.int .i64 0) hG 6
  have hbel0 := hbel
  clear hJ hG hall hb
  go_upto_region 4 with fail
  refine rgT [(7, 6), (0, 7), (18, 3), (0, 0), (0, 1), (0, 2), (0, 4), (0, 5)] [.wld (IsB la) none, .wld (IsR lsb) none, .wld (TwV (IsB (edSig la lb)) (.int .i64 0)) none, .wld (TwV (IsB (edSig la lb)) (.int .i64 0)) none, .wld (IsB (edSig la lb)) none, .oth (fun v => v = .int .i64 0), .wld (IsB (edSig la lb)) none, .oth (fun v => v = .int .i64 0)] ?_ ?_
  ·intro hs
   refine ⟨?_, ?_, ?_, ?_, ?_, ?_, ?_, ?_, trivial⟩
   ·exact step_runP hs Wn rfl fun L u W hJ hG hL hdep => run_moveP (.inl rfl) ((IsB la).st _ _ _ ha (Below.call hbel (hJ.all rfl)))
   ·exact step_runP hs Wn rfl fun L u W hJ hG hL hdep => run_moveP (.inl rfl) ((IsR lsb).st _ _ _ hb (Below.call hbel (hJ.all rfl)))
   ·refine step_callP hs Wn rfl fun L u W hJ hG hL hdep K hK => ?_
    go_simp
    go_at_call 8
    (with_reducible refine (gSignW (l := lb) (holds_wld (φ := IsB la) (hG 0 (hdep 0 (by kernel_rfl))) rfl till_none) (holds_wld (φ := IsR lsb) (hG 1 (hdep 1 (by kernel_rfl))) rfl till_none) (HLC.out) (by have := HM.out; omega) (HL9.out)).mono ?_); rintro e w1 ⟨r, rfl, hr, hb⟩
    exact hK.out _ _ hr hb
   ·exact step_runP hs Wn rfl fun L u W hJ hG hL hdep => run_moveP (.inl rfl) (hW (TwV (IsB (edSig la lb)) (.int .i64 0)) hG hdep 2)
   ·exact step_runP hs Wn rfl fun L u W hJ hG hL hdep => run_tw0 rfl (hW (TwV (IsB (edSig la lb)) (.int .i64 0)) hG hdep 3)
   ·exact step_runO hs Wn rfl fun L u W hJ hG hL hdep => run_tw1 rfl (hW (TwV (IsB (edSig la lb)) (.int .i64 0)) hG hdep 3)
   ·exact step_runP hs Wn rfl fun L u W hJ hG hL hdep => run_moveP (.inr rfl) (hW (IsB (edSig la lb)) hG hdep 4)
   ·exact mvO 5 hs
  intro L4 u4y W4y hall hJ hG
  have hb := hJ.all rfl
  have hbel := Below.call hbel hb
  have hw5y := (IsB (edPub la)).st _ _ _ hw5y hb
  have hw7y := oW (IsB (edSig la lb)) hG 6
  have HC8 := oC (.int .i64 0) hG 7
  have hbel0 := hbel
  clear hJ hG hall hb
  go_upto_region 5 with fail
  refine rgT [(9, 5), (0, 6), (22, 2), (0, 0), (0, 1), (0, 3), (0, 4)] [.wld (IsB la) none, .wld (TwV (StP [fNum rS [edA la], fB (edP la), fB (edPub la)]) (.int .i64 0)) none, .wld (TwV (StP [fNum rS [edA la], fB (edP la), fB (edPub la)]) (.int .i64 0)) none, .wld (StP [fNum rS [edA la], fB (edP la), fB (edPub la)]) none, .oth (fun v => v = .int .i64 0), .wld (StP [fNum rS [edA la], fB (edP la), fB (edPub la)]) none, .oth (fun v => v = .int .i64 0)] ?_ ?_
  ·intro hs
   refine ⟨?_, ?_, ?_, ?_, ?_, ?_, ?_, trivial⟩
   ·exact step_runP hs Wn rfl fun L u W hJ hG hL hdep => run_moveP (.inl rfl) ((IsB la).st _ _ _ ha (Below.call hbel (hJ.all rfl)))
   ·refine step_callP hs Wn rfl fun L u W hJ hG hL hdep K hK => ?_
    go_simp
    go_at_call 9
    (with_reducible refine (gNewSigner' (holds_wld (φ := IsB la) (hG 0 (hdep 0 (by kernel_rfl))) rfl till_none) (HL9.out)).mono ?_); rintro e w1 ⟨r, rfl, hr, hb⟩
    exact hK.out _ _ hr hb
   ·exact step_runP hs Wn rfl fun L u W hJ hG hL hdep => run_moveP (.inl rfl) (hW (TwV (StP [fNum rS [edA la], fB (edP la), fB (edPub la)]) (.int .i64 0)) hG hdep 1)
   ·exact step_runP hs Wn rfl fun L u W hJ hG hL hdep => run_tw0 rfl (hW (TwV (StP [fNum rS [edA la], fB (edP la), fB (edPub la)]) (.int .i64 0)) hG hdep 2)
   ·exact step_runO hs Wn rfl fun L u W hJ hG hL hdep => run_tw1 rfl (hW (TwV (StP [fNum rS [edA la], fB (edP la), fB (edPub la)]) (.int .i64 0)) hG hdep 2)
   ·exact step_runP hs Wn rfl fun L u W hJ hG hL hdep => run_moveP (.inr rfl) (hW (StP [fNum rS [edA la], fB (edP la), fB (edPub la)]) hG hdep 3)
   ·exact mvO 4 hs
  intro L5 u5y W5y hall hJ hG
  have hb := hJ.all rfl
  have hbel := Below.call hbel hb
  have hw5y := (IsB (edPub la)).st _ _ _ hw5y hb
  have hw7y := (IsB (edSig la lb)).st _ _ _ hw7y hb
  have hw9y := oW (StP [fNum rS [edA la], fB (edP la), fB (edPub la)]) hG 5
  have HC10 := oC (.int .i64 0) hG 6
  have hbel0 := hbel
  clear hJ hG hall hb
  go_upto_region 6 with fail
  refine rgT [(11, 0)] [.oth (fun v => v = .pointer none)] ?_ ?_
  ·intro hs
   refine ⟨?_, trivial⟩
   ·exact mvK hs fun _ => rfl
  intro L6 u6y W6y hall hJ hG
  have hb := hJ.all rfl
  have hbel := Below.call hbel hb
  have hw5y := (IsB (edPub la)).st _ _ _ hw5y hb
  have hw7y := (IsB (edSig la lb)).st _ _ _ hw7y hb
  have hw9y := (StP [fNum rS [edA la], fB (edP la), fB (edPub la)]).st _ _ _ hw9y hb
  have HC11 := oC (.pointer none) hG 0
  have hbel0 := hbel
  clear hJ hG hall hb
  go_upto_region 7 with fail
  refine rgT [(38, 0), (0, 1), (0, 2), (0, 3), (0, 4), (0, 5), (0, 6), (0, 7), (0, 8), (0, 9), (0, 10)] [.oth (fun v => v = .pointer none), .wld (IsR lsb) none, .oth (fun v => v = .slice none 0 0), .oth (fun v => v = .int .i64 0), .oth (fun v => v = .bool false), .oth (fun v => v = .bool false), .oth (fun v => v = .pointer none), .oth (fun v => v = .slice none 0 0), .oth (fun v => v = .int .i64 0), .oth (fun v => v = .bool false), .oth (fun v => v = .bool false)] ?_ ?_
  ·intro hs
   refine ⟨?_, ?_, ?_, ?_, ?_, ?_, ?_, ?_, ?_, ?_, ?_, trivial⟩
   ·exact mvK hs fun _ => HC11.out
   ·exact step_runP hs Wn rfl fun L u W hJ hG hL hdep => run_moveP (.inl rfl) ((IsR lsb).st _ _ _ hb (Below.call hbel (hJ.all rfl)))
   ·refine step_callO hs Wn rfl fun L u W hJ hG hL hdep K hK => ?_
    have x0 := (oE (.pointer none) hG hdep 0)
    go_simp
    go_at_call 10
    (with_reducible refine (sSign_nil _).mono ?_); rintro e w1 ⟨rfl, hb⟩
    have hk := hK.out _ _ rfl hb
    simp only [x0] at hk
    exact hk
   ·refine step_pureO hs Wn rfl fun L u W hG hdep => ⟨_, ?_, rfl⟩
    have e0 := (oE (.slice none 0 0) hG hdep 2)
    go_simp
   ·refine step_pureO hs Wn rfl fun L u W hG hdep => ⟨_, ?_, rfl⟩
    have e0 := (oE (.int .i64 0) hG hdep 3)
    go_simp
    try simp [bne]
   ·exact mvO 4 hs
   ·exact step_pureO hs (wants_on 5 rfl rfl (by kernel_rfl) (fun _ => rfl)) rfl fun L u W hG hdep => ⟨_, run_move rfl, HC11.out⟩
   ·refine step_callO hs (wants_on 5 rfl rfl (by kernel_rfl) (fun _ => rfl)) rfl fun L u W hJ hG hL hdep K hK => ?_
    have x0 := (oE (.pointer none) hG hdep 6)
    go_simp
    go_at_call 11
    (with_reducible refine (sPublic_nilB _).mono ?_); rintro e w1 ⟨rfl, hb⟩
    have hk := hK.out _ _ rfl hb
    simp only [x0] at hk
    exact hk
   ·refine step_pureO hs (wants_on 5 rfl rfl (by kernel_rfl) (fun _ => rfl)) rfl fun L u W hG hdep => ⟨_, ?_, rfl⟩
    have e0 := (oE (.slice none 0 0) hG hdep 7)
    go_simp
   ·refine step_pureO hs (wants_on 5 rfl rfl (by kernel_rfl) (fun _ => rfl)) rfl fun L u W hG hdep => ⟨_, ?_, rfl⟩
    have e0 := (oE (.int .i64 0) hG hdep 8)
    go_simp
    try simp [bne]
   ·exact step_pick false hs Wn rfl rfl (fun L u W hG hdep => (oE (.bool false) hG hdep 5)) (fun L u W hG hdep => (oE (.bool false) hG hdep 9))
  intro L7 u7y W7y hall hJ hG
  have hb := hJ.all rfl
  have hbel := Below.call hbel hb
  have hw5y := (IsB (edPub la)).st _ _ _ hw5y hb
  have hw7y := (IsB (edSig la lb)).st _ _ _ hw7y hb
  have hw9y := (StP [fNum rS [edA la], fB (edP la), fB (edPub la)]).st _ _ _ hw9y hb
  have HC42 := oC (.bool false) hG 4
  have HC43 := oC (.bool false) hG 5
  have HC47 := oC (.bool false) hG 9
  have HC48 := oC (.bool false) hG 10
  have hbel0 := hbel
  clear hJ hG hall hb
  have hx : u7y 10 = .bool false := HC48.out
  go_wp2_with fail
  rw [hx]
  clear hx
  go_upto_region 9 with fail
  refine rgT [(49, 0), (0, 1), (0, 2)] [.wld (IsB la) none, .oth (fun v => v = .int .i64 32), .oth (fun v => v = .bool false)] ?_ ?_
  ·intro hs
   refine ⟨?_, ?_, ?_, trivial⟩
   ·exact step_runP hs Wn rfl fun L u W hJ hG hL hdep => run_moveP (.inl rfl) ((IsB la).st _ _ _ ha (Below.call hbel (hJ.all rfl)))
   ·exact step_runO hs Wn rfl fun L u W hJ hG hL hdep => run_lenP rfl (hW (IsB la) hG hdep 0) (by rw [HL9.out]; rfl)
   ·refine step_pureO hs Wn rfl fun L u W hG hdep => ⟨_, ?_, rfl⟩
    have e0 := (oE (.int .i64 32) hG hdep 1)
    go_simp
    try simp [bne]
  intro L9 u9y W9y hall hJ hG
  have hb := hJ.all rfl
  have hbel := Below.call hbel hb
  have hw5y := (IsB (edPub la)).st _ _ _ hw5y hb
  have hw7y := (IsB (edSig la lb)).st _ _ _ hw7y hb
  have hw9y := (StP [fNum rS [edA la], fB (edP la), fB (edPub la)]).st _ _ _ hw9y hb
  have HC51 := oC (.bool false) hG 2
  have hbel0 := hbel
  clear hJ hG hall hb
  have hx : u9y 2 = .bool false := HC51.out
  go_wp2_with fail
  rw [hx]
  clear hx
  go_upto_region 11 with fail
  refine rgT [(79, 0), (0, 1), (0, 2), (0, 3), (0, 4), (0, 5), (0, 6), (0, 7), (0, 8), (0, 9), (0, 10), (0, 11), (0, 12), (0, 13)] [.oth (fun v => v = .int .i64 0), .oth (fun v => v = .bool false), .oth (fun v => v = .bool false), .oth (fun v => v = .int .i64 0), .oth (fun v => v = .bool false), .oth (fun v => v = .bool false), .oth (fun v => v = .bool false), .oth (fun v => v = .int .i64 0), .oth (fun v => v = .bool false), .oth (fun v => v = .bool false), .oth (fun v => v = .bool false), .wld (StP [fNum rS [edA la], fB (edP la), fB (edPub la)]) none, .oth (fun v => v = .bool false), .oth (fun v => v = .bool false)] ?_ ?_
  ·intro hs
   refine ⟨?_, ?_, ?_, ?_, ?_, ?_, ?_, ?_, ?_, ?_, ?_, ?_, ?_, ?_, trivial⟩
   ·exact mvK hs fun _ => HC6.out
   ·refine step_pureO hs Wn rfl fun L u W hG hdep => ⟨_, ?_, rfl⟩
    have e0 := (oE (.int .i64 0) hG hdep 0)
    go_simp
    try simp [bne]
   ·exact mvO 1 hs
   ·exact step_pureO hs (wants_on 2 rfl rfl (by kernel_rfl) (fun _ => rfl)) rfl fun L u W hG hdep => ⟨_, run_move rfl, HC8.out⟩
   ·refine step_pureO hs (wants_on 2 rfl rfl (by kernel_rfl) (fun _ => rfl)) rfl fun L u W hG hdep => ⟨_, ?_, rfl⟩
    have e0 := (oE (.int .i64 0) hG hdep 3)
    go_simp
    try simp [bne]
   ·exact step_pick false hs Wn rfl rfl (fun L u W hG hdep => (oE (.bool false) hG hdep 2)) (fun L u W hG hdep => (oE (.bool false) hG hdep 4))
   ·exact mvO 5 hs
   ·exact step_pureO hs (wants_on 6 rfl rfl (by kernel_rfl) (fun _ => rfl)) rfl fun L u W hG hdep => ⟨_, run_move rfl, HC10.out⟩
   ·refine step_pureO hs (wants_on 6 rfl rfl (by kernel_rfl) (fun _ => rfl)) rfl fun L u W hG hdep => ⟨_, ?_, rfl⟩
    have e0 := (oE (.int .i64 0) hG hdep 7)
    go_simp
    try simp [bne]
   ·exact step_pick false hs Wn rfl rfl (fun L u W hG hdep => (oE (.bool false) hG hdep 6)) (fun L u W hG hdep => (oE (.bool false) hG hdep 8))
   ·exact mvO 9 hs
   ·exact step_runP hs (wants_on 10 rfl rfl (by kernel_rfl) (fun _ => rfl)) rfl fun L u W hJ hG hL hdep => run_moveP (.inl rfl) ((StP [fNum rS [edA la], fB (edP la), fB (edPub la)]).st _ _ _ hw9y (hJ.all rfl))
   ·exact step_runO hs (wants_on 10 rfl rfl (by kernel_rfl) (fun _ => rfl)) rfl fun L u W hJ hG hL hdep => run_eqlNil Tryz.underlying30 rfl rfl (hW (StP [fNum rS [edA la], fB (edP la), fB (edPub la)]) hG hdep 11)
   ·exact step_pick false hs Wn rfl rfl (fun L u W hG hdep => (oE (.bool false) hG hdep 10)) (fun L u W hG hdep => (oE (.bool false) hG hdep 12))
  intro L11 u11y W11y hall hJ hG
  have hb := hJ.all rfl
  have hbel := Below.call hbel hb
  have hw5y := (IsB (edPub la)).st _ _ _ hw5y hb
  have hw7y := (IsB (edSig la lb)).st _ _ _ hw7y hb
  have hw9y := (StP [fNum rS [edA la], fB (edP la), fB (edPub la)]).st _ _ _ hw9y hb
  have HC80 := oC (.bool false) hG 1
  have HC81 := oC (.bool false) hG 2
  have HC83 := oC (.bool false) hG 4
  have HC84 := oC (.bool false) hG 5
  have HC85 := oC (.bool false) hG 6
  have HC87 := oC (.bool false) hG 8
  have HC88 := oC (.bool false) hG 9
  have HC89 := oC (.bool false) hG 10
  have HC91 := oC (.bool false) hG 12
  have HC92 := oC (.bool false) hG 13
  have hbel0 := hbel
  clear hJ hG hall hb
  have hx : u11y 13 = .bool false := HC92.out
  go_wp2_with fail
  rw [hx]
  clear hx
  go_upto_region 14 with fail
  refine rgM [(4, 36), (90, 0), (0, 1), (0, 2), (0, 3), (0, 4), (0, 5), (0, 6), (0, 7), (0, 8), (0, 9), (0, 10), (0, 11), (0, 12), (0, 13), (0, 14), (0, 15), (0, 16), (0, 17), (0, 18), (0, 19), (0, 20), (0, 21), (0, 22), (0, 23), (0, 24), (0, 25), (0, 26), (0, 27), (0, 28), (0, 29), (0, 30), (0, 31), (0, 32), (0, 33), (0, 34), (0, 35)] [.wld (IsB (edPub la)) none, .oth (fun v => v = (.string (bs (edPub la)))), .wld (IsB la) none, .wld (IsB (edPub la)) none, .oth (fun v => v = (.string (bs (edPub la)))), .oth (fun v => v = .bool true), .oth (fun v => v = .bool true), .wld (IsB (edSig la lb)) none, .oth (fun v => v = (.string (bs (edSig la lb)))), .wld (IsB la) none, .wld (IsR lsb) none, .wld (IsB lb) none, .wld (IsB (edSig la lb)) none, .oth (fun v => v = (.string (bs (edSig la lb)))), .oth (fun v => v = .bool true), .oth (fun v => v = .bool true), .oth (fun v => v = .bool true), .oth (fun v => v = .func (.func 10) #[u5y 5] #[]), .wld (IsR lsb) none, .wld (IsB (edSig la lb)) none, .oth (fun v => v = (.string (bs (edSig la lb)))), .wld (IsB (edSig la lb)) none, .oth (fun v => v = (.string (bs (edSig la lb)))), .oth (fun v => v = .bool true), .oth (fun v => v = .bool true), .oth (fun v => v = .bool true), .wld (StP [fNum rS [edA la], fB (edP la), fB (edPub la)]) none, .wld (IsB (edPub la)) none, .oth (fun v => v = (.string (bs (edPub la)))), .wld (IsB (edPub la)) none, .oth (fun v => v = (.string (bs (edPub la)))), .oth (fun v => v = .bool true), .oth (fun v => v = .bool true), .oth (fun v => v = .bool true), .oth (fun v => v = .bool true), .oth (fun v => v = .bool true), .oth (fun v => v = .bool true)] ?_ ?_
  ·intro hs
   refine ⟨?_, ?_, ?_, ?_, ?_, ?_, ?_, ?_, ?_, ?_, ?_, ?_, ?_, ?_, ?_, ?_, ?_, ?_, ?_, ?_, ?_, ?_, ?_, ?_, ?_, ?_, ?_, ?_, ?_, ?_, ?_, ?_, ?_, ?_, ?_, ?_, ?_, trivial⟩
   ·exact step_runP hs Wn rfl fun L u W hJ hG hL hdep => run_moveP (.inl rfl) ((IsB (edPub la)).st _ _ _ hw5y (hJ.all rfl))
   ·exact step_runO hs Wn rfl fun L u W hJ hG hL hdep => run_convP rfl (hW (IsB (edPub la)) hG hdep 0)
   ·exact step_runP hs Wn rfl fun L u W hJ hG hL hdep => run_moveP (.inl rfl) ((IsB la).st _ _ _ ha (Below.call hbel (hJ.all rfl)))
   ·refine step_callP hs Wn rfl fun L u W hJ hG hL hdep K hK => ?_
    go_simp
    go_at_call 12
    (with_reducible refine (gRPublic (holds_wld (φ := IsB la) (hG 2 (hdep 2 (by kernel_rfl))) rfl till_none) (by have := HL9.out; omega)).mono ?_); rintro e w1 ⟨r, rfl, hr, hb⟩
    exact hK.out _ _ hr hb
   ·exact step_runO hs Wn rfl fun L u W hJ hG hL hdep => run_convP rfl (hW (IsB (edPub la)) hG hdep 3)
   ·exact step_pureO hs Wn rfl fun L u W hG hdep => ⟨_, run_eqlS rfl (oE ((.string (bs (edPub la)))) hG hdep 1) (oE ((.string (bs (edPub la)))) hG hdep 4), by simp⟩
   ·exact mvO 5 hs
   ·exact step_runP hs (wants_on 6 rfl rfl (by kernel_rfl) (fun _ => rfl)) rfl fun L u W hJ hG hL hdep => run_moveP (.inl rfl) ((IsB (edSig la lb)).st _ _ _ hw7y (hJ.all rfl))
   ·exact step_runO hs (wants_on 6 rfl rfl (by kernel_rfl) (fun _ => rfl)) rfl fun L u W hJ hG hL hdep => run_convP rfl (hW (IsB (edSig la lb)) hG hdep 7)
   ·exact step_runP hs (wants_on 6 rfl rfl (by kernel_rfl) (fun _ => rfl)) rfl fun L u W hJ hG hL hdep => run_moveP (.inl rfl) ((IsB la).st _ _ _ ha (Below.call hbel (hJ.all rfl)))
   ·exact step_runP hs (wants_on 6 rfl rfl (by kernel_rfl) (fun _ => rfl)) rfl fun L u W hJ hG hL hdep => run_moveP (.inl rfl) ((IsR lsb).st _ _ _ hb (Below.call hbel (hJ.all rfl)))
   ·refine step_callP hs (wants_on 6 rfl rfl (by kernel_rfl) (fun _ => rfl)) rfl fun L u W hJ hG hL hdep K hK => ?_
    go_simp
    go_at_call 14
    (with_reducible refine (gACat (l := lb) (holds_wld (φ := IsR lsb) (hG 10 (hdep 10 (by kernel_rfl))) rfl till_none) (HLC.out) (by have := HM.out; omega)).mono ?_); rintro e w1 ⟨r, rfl, hr, hb⟩
    exact hK.out _ _ hr hb
   ·refine step_callP hs (wants_on 6 rfl rfl (by kernel_rfl) (fun _ => rfl)) rfl fun L u W hJ hG hL hdep K hK => ?_
    go_simp
    go_at_call 13
    (with_reducible refine (gRSign (holds_wld (φ := IsB la) (hG 9 (hdep 9 (by kernel_rfl))) rfl till_none) (holds_wld (φ := IsB lb) (hG 11 (hdep 11 (by kernel_rfl))) rfl till_none) (by have := HL9.out; omega) (by have := HM.out; omega)).mono ?_); rintro e w1 ⟨r, rfl, hr, hb⟩
    exact hK.out _ _ hr hb
   ·exact step_runO hs (wants_on 6 rfl rfl (by kernel_rfl) (fun _ => rfl)) rfl fun L u W hJ hG hL hdep => run_convP rfl (hW (IsB (edSig la lb)) hG hdep 12)
   ·exact step_pureO hs (wants_on 6 rfl rfl (by kernel_rfl) (fun _ => rfl)) rfl fun L u W hG hdep => ⟨_, run_eqlS rfl (oE ((.string (bs (edSig la lb)))) hG hdep 8) (oE ((.string (bs (edSig la lb)))) hG hdep 13), by simp⟩
   ·exact step_pick true hs Wn rfl rfl (fun L u W hG hdep => (oE (.bool true) hG hdep 6)) (fun L u W hG hdep => (oE (.bool true) hG hdep 14))
   ·exact mvO 15 hs
   ·exact step_pureO hs (wants_on 16 rfl rfl (by kernel_rfl) (fun _ => rfl)) rfl fun L u W hG hdep => ⟨_, run_move rfl, rfl⟩
   ·exact step_runP hs (wants_on 16 rfl rfl (by kernel_rfl) (fun _ => rfl)) rfl fun L u W hJ hG hL hdep => run_moveP (.inl rfl) ((IsR lsb).st _ _ _ hb (Below.call hbel (hJ.all rfl)))
   ·refine step_callP hs (wants_on 16 rfl rfl (by kernel_rfl) (fun _ => rfl)) rfl fun L u W hJ hG hL hdep K hK => ?_
    have x0 := (oE (.func (.func 10) #[u5y 5] #[]) hG hdep 17)
    go_simp
    go_at_call 10
    (with_reducible refine (gSSignW (seed := la) (l := lb) ((StP [fNum rS [edA la], fB (edP la), fB (edPub la)]).st _ _ _ hw9y (hJ.all rfl)) (holds_wld (φ := IsR lsb) (hG 18 (hdep 18 (by kernel_rfl))) rfl till_none) (HLC.out) (by have := HM.out; omega)).mono ?_); rintro e w1 ⟨r, rfl, hr, hb⟩
    have hk := hK.out _ _ hr hb
    simp only [x0] at hk
    exact hk
   ·exact step_runO hs (wants_on 16 rfl rfl (by kernel_rfl) (fun _ => rfl)) rfl fun L u W hJ hG hL hdep => run_convP rfl (hW (IsB (edSig la lb)) hG hdep 19)
   ·exact step_runP hs (wants_on 16 rfl rfl (by kernel_rfl) (fun _ => rfl)) rfl fun L u W hJ hG hL hdep => run_moveP (.inl rfl) ((IsB (edSig la lb)).st _ _ _ hw7y (hJ.all rfl))
   ·exact step_runO hs (wants_on 16 rfl rfl (by kernel_rfl) (fun _ => rfl)) rfl fun L u W hJ hG hL hdep => run_convP rfl (hW (IsB (edSig la lb)) hG hdep 21)
   ·exact step_pureO hs (wants_on 16 rfl rfl (by kernel_rfl) (fun _ => rfl)) rfl fun L u W hG hdep => ⟨_, run_eqlS rfl (oE ((.string (bs (edSig la lb)))) hG hdep 20) (oE ((.string (bs (edSig la lb)))) hG hdep 22), by simp⟩
   ·exact step_pick true hs Wn rfl rfl (fun L u W hG hdep => (oE (.bool true) hG hdep 16)) (fun L u W hG hdep => (oE (.bool true) hG hdep 23))
   ·exact mvO 24 hs
   ·exact step_runP hs (wants_on 25 rfl rfl (by kernel_rfl) (fun _ => rfl)) rfl fun L u W hJ hG hL hdep => run_moveP (.inl rfl) ((StP [fNum rS [edA la], fB (edP la), fB (edPub la)]).st _ _ _ hw9y (hJ.all rfl))
   ·refine step_callP hs (wants_on 25 rfl rfl (by kernel_rfl) (fun _ => rfl)) rfl fun L u W hJ hG hL hdep K hK => ?_
    go_simp
    go_at_call 11
    (with_reducible refine (gSPublic (s := edA la) (p := edP la) (q := edPub la) (holds_wld (φ := StP [fNum rS [edA la], fB (edP la), fB (edPub la)]) (hG 26 (hdep 26 (by kernel_rfl))) rfl till_none) (by rw [edPub_len]; omega)).mono ?_); rintro e w1 ⟨r, rfl, hr, hb⟩
    exact hK.out _ _ hr hb
   ·exact step_runO hs (wants_on 25 rfl rfl (by kernel_rfl) (fun _ => rfl)) rfl fun L u W hJ hG hL hdep => run_convP rfl (hW (IsB (edPub la)) hG hdep 27)
   ·exact step_runP hs (wants_on 25 rfl rfl (by kernel_rfl) (fun _ => rfl)) rfl fun L u W hJ hG hL hdep => run_moveP (.inl rfl) ((IsB (edPub la)).st _ _ _ hw5y (hJ.all rfl))
   ·exact step_runO hs (wants_on 25 rfl rfl (by kernel_rfl) (fun _ => rfl)) rfl fun L u W hJ hG hL hdep => run_convP rfl (hW (IsB (edPub la)) hG hdep 29)
   ·exact step_pureO hs (wants_on 25 rfl rfl (by kernel_rfl) (fun _ => rfl)) rfl fun L u W hG hdep => ⟨_, run_eqlS rfl (oE ((.string (bs (edPub la)))) hG hdep 28) (oE ((.string (bs (edPub la)))) hG hdep 30), by simp⟩
   ·exact step_pick true hs Wn rfl rfl (fun L u W hG hdep => (oE (.bool true) hG hdep 25)) (fun L u W hG hdep => (oE (.bool true) hG hdep 31))
   ·exact mvO 32 hs
   ·refine step_callO hs (wants_on 33 rfl rfl (by kernel_rfl) (fun _ => rfl)) rfl fun L u W hJ hG hL hdep K hK => ?_
    go_simp
    go_at_call 6
    (with_reducible refine (law9awake_any _).mono ?_); rintro e w1 ⟨rfl, hb⟩
    exact hK.out _ _ rfl hb
   ·exact step_pick true hs Wn rfl rfl (fun L u W hG hdep => (oE (.bool true) hG hdep 33)) (fun L u W hG hdep => (oE (.bool true) hG hdep 34))
   ·exact mvO 35 hs
  intro L14 u14y W14y hall hJ hG
  have hb := hJ.all rfl
  have hbel := Below.call hbel hb
  have hw5y := (IsB (edPub la)).st _ _ _ hw5y hb
  have hw7y := (IsB (edSig la lb)).st _ _ _ hw7y hb
  have hw9y := (StP [fNum rS [edA la], fB (edP la), fB (edPub la)]).st _ _ _ hw9y hb
  have HC100 := oC (.bool true) hG 5
  have HC101 := oC (.bool true) hG 6
  have HC109 := oC (.bool true) hG 14
  have HC110 := oC (.bool true) hG 15
  have HC111 := oC (.bool true) hG 16
  have HC118 := oC (.bool true) hG 23
  have HC119 := oC (.bool true) hG 24
  have HC120 := oC (.bool true) hG 25
  have HC126 := oC (.bool true) hG 31
  have HC127 := oC (.bool true) hG 32
  have HC128 := oC (.bool true) hG 33
  have HC129 := oC (.bool true) hG 34
  have HC130 := oC (.bool true) hG 35
  have HC4 := oC (.bool true) hG 36
  have hbel0 := hbel
  clear hJ hG hall hb
  go_wp2
  go_ret
  exact ⟨by rw [HC4.out]; rfl, hbel⟩
 ·have HL9 := Lib.hid hl9; clear hl9
  refine rgT [(4, 0)] [.oth (fun v => v = .bool false)] ?_ ?_
  ·intro hs
   refine ⟨?_, trivial⟩
   ·exact mvK hs fun _ => rfl
  intro L0 u0n W0n hall hJ hG
  have hb := hJ.all rfl
  have hbel := Below.call hbel hb
  have HC4 := oC (.bool false) hG 0
  have hbel0 := hbel
  clear hJ hG hall hb
  go_upto_region 1 with fail
  refine rgT [(13, 0), (0, 1), (0, 2), (0, 3), (0, 4), (0, 5), (0, 6), (0, 7)] [.wld (IsB la) none, .oth (fun v => v = .int .i64 (la.length : Int)), .oth (fun v => v = .bool false), .oth (fun v => v = .bool false), .wld (IsR lsb) none, .oth (fun v => v = .int .i64 z), .oth (fun v => v = .bool false), .oth (fun v => v = .bool false)] ?_ ?_
  ·intro hs
   refine ⟨?_, ?_, ?_, ?_, ?_, ?_, ?_, ?_, trivial⟩
   ·exact step_runP hs Wn rfl fun L u W hJ hG hL hdep => run_moveP (.inl rfl) ((IsB la).st _ _ _ ha (Below.call hbel (hJ.all rfl)))
   ·exact step_runO hs Wn rfl fun L u W hJ hG hL hdep => run_lenP rfl (hW (IsB la) hG hdep 0) (rfl)
   ·refine step_pureO hs Wn rfl fun L u W hG hdep => ⟨_, ?_, rfl⟩
    have e0 := (oE (.int .i64 (la.length : Int)) hG hdep 1)
    have e9 := T0.out
    go_simp
    try omega
   ·exact mvO 2 hs
   ·exact step_runP hs (wants_on 3 rfl rfl (by kernel_rfl) (fun _ => rfl)) rfl fun L u W hJ hG hL hdep => run_moveP (.inl rfl) ((IsR lsb).st _ _ _ hb (Below.call hbel (hJ.all rfl)))
   ·refine step_callO hs (wants_on 3 rfl rfl (by kernel_rfl) (fun _ => rfl)) rfl fun L u W hJ hG hL hdep K hK => ?_
    go_simp
    go_at_call 5
    (with_reducible refine (gAll (z := z) HZ.out (holds_wld (φ := IsR lsb) (hG 4 (hdep 4 (by kernel_rfl))) rfl till_none)).mono ?_); rintro e w1 ⟨rfl, hb⟩
    exact hK.out _ _ rfl hb
   ·refine step_pureO hs (wants_on 3 rfl rfl (by kernel_rfl) (fun _ => rfl)) rfl fun L u W hG hdep => ⟨_, ?_, rfl⟩
    have e0 := (oE (.int .i64 z) hG hdep 5)
    have e9 : decide (300 < z) = false := decide_eq_false (by rw [← HZ.out]; have := T1.out; omega)
    go_simp
    try exact e9
   ·exact step_pick false hs Wn rfl rfl (fun L u W hG hdep => (oE (.bool false) hG hdep 3)) (fun L u W hG hdep => (oE (.bool false) hG hdep 6))
  intro L1 u1n W1n hall hJ hG
  have hb := hJ.all rfl
  have hbel := Below.call hbel hb
  have HC15 := oC (.bool false) hG 2
  have HC16 := oC (.bool false) hG 3
  have HC19 := oC (.bool false) hG 6
  have HC20 := oC (.bool false) hG 7
  have hbel0 := hbel
  clear hJ hG hall hb
  have hx : u1n 7 = .bool false := HC20.out
  go_wp2_with fail
  rw [hx]
  clear hx
  go_upto_region 3 with fail
  refine rgT [(5, 5), (0, 6), (15, 2), (0, 0), (0, 1), (0, 3), (0, 4)] [.wld (IsB la) none, .oth (fun v => v = .tuple #[.slice none 0 0, .int .i64 1]), .oth (fun v => v = .tuple #[.slice none 0 0, .int .i64 1]), .oth (fun v => v = .slice none 0 0), .oth (fun v => v = .int .i64 1), .oth (fun v => v = .slice none 0 0), .oth (fun v => v = .int .i64 1)] ?_ ?_
  ·intro hs
   refine ⟨?_, ?_, ?_, ?_, ?_, ?_, ?_, trivial⟩
   ·exact step_runP hs Wn rfl fun L u W hJ hG hL hdep => run_moveP (.inl rfl) ((IsB la).st _ _ _ ha (Below.call hbel (hJ.all rfl)))
   ·refine step_callO hs Wn rfl fun L u W hJ hG hL hdep K hK => ?_
    go_simp
    go_at_call 7
    (with_reducible refine (gPublic_no (holds_wld (φ := IsB la) (hG 0 (hdep 0 (by kernel_rfl))) rfl till_none) rfl HL9.out).mono ?_); rintro e w1 ⟨rfl, hb⟩
    exact hK.out _ _ rfl hb
   ·exact mvO 1 hs
   ·refine step_pureO hs Wn rfl fun L u W hG hdep => ⟨_, ?_, rfl⟩
    have e0 := (oE (.tuple #[.slice none 0 0, .int .i64 1]) hG hdep 2)
    unfold execOp
    go_simp
   ·refine step_pureO hs Wn rfl fun L u W hG hdep => ⟨_, ?_, rfl⟩
    have e0 := (oE (.tuple #[.slice none 0 0, .int .i64 1]) hG hdep 2)
    unfold execOp
    go_simp
   ·exact mvO 3 hs
   ·exact mvO 4 hs
  intro L3 u3n W3n hall hJ hG
  have hb := hJ.all rfl
  have hbel := Below.call hbel hb
  have HC5 := oC (.slice none 0 0) hG 5
  have HC6 := oC (.int .i64 1) hG 6
  have hbel0 := hbel
  clear hJ hG hall hb
  go_upto_region 4 with fail
  refine rgT [(7, 6), (0, 7), (18, 3), (0, 0), (0, 1), (0, 2), (0, 4), (0, 5)] [.wld (IsB la) none, .wld (IsR lsb) none, .oth (fun v => v = .tuple #[.slice none 0 0, .int .i64 1]), .oth (fun v => v = .tuple #[.slice none 0 0, .int .i64 1]), .oth (fun v => v = .slice none 0 0), .oth (fun v => v = .int .i64 1), .oth (fun v => v = .slice none 0 0), .oth (fun v => v = .int .i64 1)] ?_ ?_
  ·intro hs
   refine ⟨?_, ?_, ?_, ?_, ?_, ?_, ?_, ?_, trivial⟩
   ·exact step_runP hs Wn rfl fun L u W hJ hG hL hdep => run_moveP (.inl rfl) ((IsB la).st _ _ _ ha (Below.call hbel (hJ.all rfl)))
   ·exact step_runP hs Wn rfl fun L u W hJ hG hL hdep => run_moveP (.inl rfl) ((IsR lsb).st _ _ _ hb (Below.call hbel (hJ.all rfl)))
   ·refine step_callO hs Wn rfl fun L u W hJ hG hL hdep K hK => ?_
    go_simp
    go_at_call 8
    (with_reducible refine (gSign_no (l := lb) (holds_wld (φ := IsB la) (hG 0 (hdep 0 (by kernel_rfl))) rfl till_none) (holds_wld (φ := IsR lsb) (hG 1 (hdep 1 (by kernel_rfl))) rfl till_none) (HLC.out) (by have := HM.out; omega) rfl HL9.out).mono ?_); rintro e w1 ⟨rfl, hb⟩
    exact hK.out _ _ rfl hb
   ·exact mvO 2 hs
   ·refine step_pureO hs Wn rfl fun L u W hG hdep => ⟨_, ?_, rfl⟩
    have e0 := (oE (.tuple #[.slice none 0 0, .int .i64 1]) hG hdep 3)
    unfold execOp
    go_simp
   ·refine step_pureO hs Wn rfl fun L u W hG hdep => ⟨_, ?_, rfl⟩
    have e0 := (oE (.tuple #[.slice none 0 0, .int .i64 1]) hG hdep 3)
    unfold execOp
    go_simp
   ·exact mvO 4 hs
   ·exact mvO 5 hs
  intro L4 u4n W4n hall hJ hG
  have hb := hJ.all rfl
  have hbel := Below.call hbel hb
  have HC7 := oC (.slice none 0 0) hG 6
  have HC8 := oC (.int .i64 1) hG 7
  have hbel0 := hbel
  clear hJ hG hall hb
  go_upto_region 5 with fail
  refine rgT [(9, 5), (0, 6), (22, 2), (0, 0), (0, 1), (0, 3), (0, 4)] [.wld (IsB la) none, .oth (fun v => v = .tuple #[.pointer none, .int .i64 1]), .oth (fun v => v = .tuple #[.pointer none, .int .i64 1]), .oth (fun v => v = .pointer none), .oth (fun v => v = .int .i64 1), .oth (fun v => v = .pointer none), .oth (fun v => v = .int .i64 1)] ?_ ?_
  ·intro hs
   refine ⟨?_, ?_, ?_, ?_, ?_, ?_, ?_, trivial⟩
   ·exact step_runP hs Wn rfl fun L u W hJ hG hL hdep => run_moveP (.inl rfl) ((IsB la).st _ _ _ ha (Below.call hbel (hJ.all rfl)))
   ·refine step_callO hs Wn rfl fun L u W hJ hG hL hdep K hK => ?_
    go_simp
    go_at_call 9
    (with_reducible refine (newSigner_no (holds_wld (φ := IsB la) (hG 0 (hdep 0 (by kernel_rfl))) rfl till_none) rfl HL9.out).mono ?_); rintro e w1 ⟨rfl, hb⟩
    exact hK.out _ _ rfl hb
   ·exact mvO 1 hs
   ·refine step_pureO hs Wn rfl fun L u W hG hdep => ⟨_, ?_, rfl⟩
    have e0 := (oE (.tuple #[.pointer none, .int .i64 1]) hG hdep 2)
    unfold execOp
    go_simp
   ·refine step_pureO hs Wn rfl fun L u W hG hdep => ⟨_, ?_, rfl⟩
    have e0 := (oE (.tuple #[.pointer none, .int .i64 1]) hG hdep 2)
    unfold execOp
    go_simp
   ·exact mvO 3 hs
   ·exact mvO 4 hs
  intro L5 u5n W5n hall hJ hG
  have hb := hJ.all rfl
  have hbel := Below.call hbel hb
  have HC9 := oC (.pointer none) hG 5
  have HC10 := oC (.int .i64 1) hG 6
  have hbel0 := hbel
  clear hJ hG hall hb
  go_upto_region 6 with fail
  refine rgT [(11, 0)] [.oth (fun v => v = .pointer none)] ?_ ?_
  ·intro hs
   refine ⟨?_, trivial⟩
   ·exact mvK hs fun _ => rfl
  intro L6 u6n W6n hall hJ hG
  have hb := hJ.all rfl
  have hbel := Below.call hbel hb
  have HC11 := oC (.pointer none) hG 0
  have hbel0 := hbel
  clear hJ hG hall hb
  go_upto_region 7 with fail
  refine rgT [(38, 0), (0, 1), (0, 2), (0, 3), (0, 4), (0, 5), (0, 6), (0, 7), (0, 8), (0, 9), (0, 10)] [.oth (fun v => v = .pointer none), .wld (IsR lsb) none, .oth (fun v => v = .slice none 0 0), .oth (fun v => v = .int .i64 0), .oth (fun v => v = .bool false), .oth (fun v => v = .bool false), .oth (fun v => v = .pointer none), .oth (fun v => v = .slice none 0 0), .oth (fun v => v = .int .i64 0), .oth (fun v => v = .bool false), .oth (fun v => v = .bool false)] ?_ ?_
  ·intro hs
   refine ⟨?_, ?_, ?_, ?_, ?_, ?_, ?_, ?_, ?_, ?_, ?_, trivial⟩
   ·exact mvK hs fun _ => HC11.out
   ·exact step_runP hs Wn rfl fun L u W hJ hG hL hdep => run_moveP (.inl rfl) ((IsR lsb).st _ _ _ hb (Below.call hbel (hJ.all rfl)))
   ·refine step_callO hs Wn rfl fun L u W hJ hG hL hdep K hK => ?_
    have x0 := (oE (.pointer none) hG hdep 0)
    go_simp
    go_at_call 10
    (with_reducible refine (sSign_nil _).mono ?_); rintro e w1 ⟨rfl, hb⟩
    have hk := hK.out _ _ rfl hb
    simp only [x0] at hk
    exact hk
   ·refine step_pureO hs Wn rfl fun L u W hG hdep => ⟨_, ?_, rfl⟩
    have e0 := (oE (.slice none 0 0) hG hdep 2)
    go_simp
   ·refine step_pureO hs Wn rfl fun L u W hG hdep => ⟨_, ?_, rfl⟩
    have e0 := (oE (.int .i64 0) hG hdep 3)
    go_simp
    try simp [bne]
   ·exact mvO 4 hs
   ·exact step_pureO hs (wants_on 5 rfl rfl (by kernel_rfl) (fun _ => rfl)) rfl fun L u W hG hdep => ⟨_, run_move rfl, HC11.out⟩
   ·refine step_callO hs (wants_on 5 rfl rfl (by kernel_rfl) (fun _ => rfl)) rfl fun L u W hJ hG hL hdep K hK => ?_
    have x0 := (oE (.pointer none) hG hdep 6)
    go_simp
    go_at_call 11
    (with_reducible refine (sPublic_nilB _).mono ?_); rintro e w1 ⟨rfl, hb⟩
    have hk := hK.out _ _ rfl hb
    simp only [x0] at hk
    exact hk
   ·refine step_pureO hs (wants_on 5 rfl rfl (by kernel_rfl) (fun _ => rfl)) rfl fun L u W hG hdep => ⟨_, ?_, rfl⟩
    have e0 := (oE (.slice none 0 0) hG hdep 7)
    go_simp
   ·refine step_pureO hs (wants_on 5 rfl rfl (by kernel_rfl) (fun _ => rfl)) rfl fun L u W hG hdep => ⟨_, ?_, rfl⟩
    have e0 := (oE (.int .i64 0) hG hdep 8)
    go_simp
    try simp [bne]
   ·exact step_pick false hs Wn rfl rfl (fun L u W hG hdep => (oE (.bool false) hG hdep 5)) (fun L u W hG hdep => (oE (.bool false) hG hdep 9))
  intro L7 u7n W7n hall hJ hG
  have hb := hJ.all rfl
  have hbel := Below.call hbel hb
  have HC42 := oC (.bool false) hG 4
  have HC43 := oC (.bool false) hG 5
  have HC47 := oC (.bool false) hG 9
  have HC48 := oC (.bool false) hG 10
  have hbel0 := hbel
  clear hJ hG hall hb
  have hx : u7n 10 = .bool false := HC48.out
  go_wp2_with fail
  rw [hx]
  clear hx
  go_upto_region 9 with fail
  refine rgT [(49, 0), (0, 1), (0, 2)] [.wld (IsB la) none, .oth (fun v => v = .int .i64 (la.length : Int)), .oth (fun v => v = .bool true)] ?_ ?_
  ·intro hs
   refine ⟨?_, ?_, ?_, trivial⟩
   ·exact step_runP hs Wn rfl fun L u W hJ hG hL hdep => run_moveP (.inl rfl) ((IsB la).st _ _ _ ha (Below.call hbel (hJ.all rfl)))
   ·exact step_runO hs Wn rfl fun L u W hJ hG hL hdep => run_lenP rfl (hW (IsB la) hG hdep 0) (rfl)
   ·refine step_pureO hs Wn rfl fun L u W hG hdep => ⟨_, ?_, rfl⟩
    have e0 := (oE (.int .i64 (la.length : Int)) hG hdep 1)
    have e9 := HL9.out
    go_simp
    try omega
  intro L9 u9n W9n hall hJ hG
  have hb := hJ.all rfl
  have hbel := Below.call hbel hb
  have HC51 := oC (.bool true) hG 2
  have hbel0 := hbel
  clear hJ hG hall hb
  have hx : u9n 2 = .bool true := HC51.out
  go_wp2_with fail
  rw [hx]
  clear hx
  go_upto_region 10 with fail
  refine rgT [(4, 27), (47, 0), (0, 1), (0, 2), (0, 3), (0, 4), (0, 5), (0, 6), (0, 7), (0, 8), (0, 9), (0, 10), (0, 11), (0, 12), (0, 13), (0, 14), (0, 15), (0, 16), (0, 17), (0, 18), (0, 19), (0, 20), (0, 21), (0, 22), (0, 23), (0, 24), (0, 25), (0, 26)] [.oth (fun v => v = .int .i64 1), .oth (fun v => v = .bool true), .oth (fun v => v = .bool true), .oth (fun v => v = .int .i64 1), .oth (fun v => v = .bool true), .oth (fun v => v = .bool true), .oth (fun v => v = .bool true), .oth (fun v => v = .int .i64 1), .oth (fun v => v = .bool true), .oth (fun v => v = .bool true), .oth (fun v => v = .bool true), .oth (fun v => v = .slice none 0 0), .oth (fun v => v = .int .i64 0), .oth (fun v => v = .bool true), .oth (fun v => v = .bool true), .oth (fun v => v = .bool true), .oth (fun v => v = .slice none 0 0), .oth (fun v => v = .int .i64 0), .oth (fun v => v = .bool true), .oth (fun v => v = .bool true), .oth (fun v => v = .bool true), .oth (fun v => v = .pointer none), .oth (fun v => v = .bool true), .oth (fun v => v = .bool true), .oth (fun v => v = .bool true), .oth (fun v => v = .bool true), .oth (fun v => v = .bool true), .oth (fun v => v = .bool true)] ?_ ?_
  ·intro hs
   refine ⟨?_, ?_, ?_, ?_, ?_, ?_, ?_, ?_, ?_, ?_, ?_, ?_, ?_, ?_, ?_, ?_, ?_, ?_, ?_, ?_, ?_, ?_, ?_, ?_, ?_, ?_, ?_, ?_, trivial⟩
   ·exact mvK hs fun _ => HC6.out
   ·refine step_pureO hs Wn rfl fun L u W hG hdep => ⟨_, ?_, rfl⟩
    have e0 := (oE (.int .i64 1) hG hdep 0)
    go_simp
    try simp
   ·exact mvO 1 hs
   ·exact step_pureO hs (wants_on 2 rfl rfl (by kernel_rfl) (fun _ => rfl)) rfl fun L u W hG hdep => ⟨_, run_move rfl, HC8.out⟩
   ·refine step_pureO hs (wants_on 2 rfl rfl (by kernel_rfl) (fun _ => rfl)) rfl fun L u W hG hdep => ⟨_, ?_, rfl⟩
    have e0 := (oE (.int .i64 1) hG hdep 3)
    go_simp
    try simp
   ·exact step_pick true hs Wn rfl rfl (fun L u W hG hdep => (oE (.bool true) hG hdep 2)) (fun L u W hG hdep => (oE (.bool true) hG hdep 4))
   ·exact mvO 5 hs
   ·exact step_pureO hs (wants_on 6 rfl rfl (by kernel_rfl) (fun _ => rfl)) rfl fun L u W hG hdep => ⟨_, run_move rfl, HC10.out⟩
   ·refine step_pureO hs (wants_on 6 rfl rfl (by kernel_rfl) (fun _ => rfl)) rfl fun L u W hG hdep => ⟨_, ?_, rfl⟩
    have e0 := (oE (.int .i64 1) hG hdep 7)
    go_simp
    try simp
   ·exact step_pick true hs Wn rfl rfl (fun L u W hG hdep => (oE (.bool true) hG hdep 6)) (fun L u W hG hdep => (oE (.bool true) hG hdep 8))
   ·exact mvO 9 hs
   ·exact step_pureO hs (wants_on 10 rfl rfl (by kernel_rfl) (fun _ => rfl)) rfl fun L u W hG hdep => ⟨_, run_move rfl, HC5.out⟩
   ·refine step_pureO hs (wants_on 10 rfl rfl (by kernel_rfl) (fun _ => rfl)) rfl fun L u W hG hdep => ⟨_, ?_, rfl⟩
    have e0 := (oE (.slice none 0 0) hG hdep 11)
    go_simp
   ·refine step_pureO hs (wants_on 10 rfl rfl (by kernel_rfl) (fun _ => rfl)) rfl fun L u W hG hdep => ⟨_, ?_, rfl⟩
    have e0 := (oE (.int .i64 0) hG hdep 12)
    go_simp
    try simp
   ·exact step_pick true hs Wn rfl rfl (fun L u W hG hdep => (oE (.bool true) hG hdep 10)) (fun L u W hG hdep => (oE (.bool true) hG hdep 13))
   ·exact mvO 14 hs
   ·exact step_pureO hs (wants_on 15 rfl rfl (by kernel_rfl) (fun _ => rfl)) rfl fun L u W hG hdep => ⟨_, run_move rfl, HC7.out⟩
   ·refine step_pureO hs (wants_on 15 rfl rfl (by kernel_rfl) (fun _ => rfl)) rfl fun L u W hG hdep => ⟨_, ?_, rfl⟩
    have e0 := (oE (.slice none 0 0) hG hdep 16)
    go_simp
   ·refine step_pureO hs (wants_on 15 rfl rfl (by kernel_rfl) (fun _ => rfl)) rfl fun L u W hG hdep => ⟨_, ?_, rfl⟩
    have e0 := (oE (.int .i64 0) hG hdep 17)
    go_simp
    try simp
   ·exact step_pick true hs Wn rfl rfl (fun L u W hG hdep => (oE (.bool true) hG hdep 15)) (fun L u W hG hdep => (oE (.bool true) hG hdep 18))
   ·exact mvO 19 hs
   ·exact step_pureO hs (wants_on 20 rfl rfl (by kernel_rfl) (fun _ => rfl)) rfl fun L u W hG hdep => ⟨_, run_move rfl, HC9.out⟩
   ·refine step_pureO hs (wants_on 20 rfl rfl (by kernel_rfl) (fun _ => rfl)) rfl fun L u W hG hdep => ⟨_, ?_, rfl⟩
    have e0 := (oE (.pointer none) hG hdep 21)
    go_simp
    try simp
   ·exact step_pick true hs Wn rfl rfl (fun L u W hG hdep => (oE (.bool true) hG hdep 20)) (fun L u W hG hdep => (oE (.bool true) hG hdep 22))
   ·exact mvO 23 hs
   ·refine step_callO hs (wants_on 24 rfl rfl (by kernel_rfl) (fun _ => rfl)) rfl fun L u W hJ hG hL hdep K hK => ?_
    go_simp
    go_at_call 6
    (with_reducible refine (law9awake_any _).mono ?_); rintro e w1 ⟨rfl, hb⟩
    exact hK.out _ _ rfl hb
   ·exact step_pick true hs Wn rfl rfl (fun L u W hG hdep => (oE (.bool true) hG hdep 24)) (fun L u W hG hdep => (oE (.bool true) hG hdep 25))
   ·exact mvO 26 hs
  intro L10 u10n W10n hall hJ hG
  have hb := hJ.all rfl
  have hbel := Below.call hbel hb
  have HC53 := oC (.bool true) hG 1
  have HC54 := oC (.bool true) hG 2
  have HC56 := oC (.bool true) hG 4
  have HC57 := oC (.bool true) hG 5
  have HC58 := oC (.bool true) hG 6
  have HC60 := oC (.bool true) hG 8
  have HC61 := oC (.bool true) hG 9
  have HC62 := oC (.bool true) hG 10
  have HC65 := oC (.bool true) hG 13
  have HC66 := oC (.bool true) hG 14
  have HC67 := oC (.bool true) hG 15
  have HC70 := oC (.bool true) hG 18
  have HC71 := oC (.bool true) hG 19
  have HC72 := oC (.bool true) hG 20
  have HC74 := oC (.bool true) hG 22
  have HC75 := oC (.bool true) hG 23
  have HC76 := oC (.bool true) hG 24
  have HC77 := oC (.bool true) hG 25
  have HC78 := oC (.bool true) hG 26
  have HC4 := oC (.bool true) hG 27
  have hbel0 := hbel
  clear hJ hG hall hb
  go_wp2
  go_ret
  exact ⟨by rw [HC4.out]; rfl, hbel⟩
set_option maxRecDepth 100000 in
set_option maxHeartbeats 8000000 in
theorem edSigns_no0 {w : World} {va : Value} {la : List UInt8} {vb : Value} {lsb : List (List UInt8)} (ha : (IsB la).P va w) (hb : (IsR lsb).P vb w) (t0 : 40 < la.length) :
  Calls Tryz.prog 3 #[va, vb] w fun e w' => e = .returned (.bool true) ∧ Below w.heap.size w w' := by
 have T0 := Lib.hid t0; clear t0
 have _ua := ha
 have _ub := hb
 clear _ua _ub
 go_enter Tryz.func3, Tryz.ntmps3
 have hbel : Below w.heap.size w w := Below.refl _ _
 have hbel0 := hbel
 go_upto_region 0 with fail
 refine rgT [(4, 0)] [.oth (fun v => v = .bool false)] ?_ ?_
 ·intro hs
  refine ⟨?_, trivial⟩
  ·exact mvK hs fun _ => rfl
 intro L0 u0 W0 hall hJ hG
 have hb := hJ.all rfl
 have hbel := Below.call hbel hb
 have HC4 := oC (.bool false) hG 0
 have hbel0 := hbel
 clear hJ hG hall hb
 go_upto_region 1 with fail
 refine rgT [(13, 0), (0, 1), (0, 2), (0, 3), (0, 4), (0, 5), (0, 6), (0, 7)] [.wld (IsB la) none, .oth (fun v => v = .int .i64 (la.length : Int)), .oth (fun v => v = .bool true), .oth (fun v => v = .bool true), .oth (fun v => v = undef), .oth (fun v => v = undef), .oth (fun v => v = undef), .oth (fun v => v = .bool true)] ?_ ?_
 ·intro hs
  refine ⟨?_, ?_, ?_, ?_, ?_, ?_, ?_, ?_, trivial⟩
  ·exact step_runP hs Wn rfl fun L u W hJ hG hL hdep => run_moveP (.inl rfl) ((IsB la).st _ _ _ ha (Below.call hbel (hJ.all rfl)))
  ·exact step_runO hs Wn rfl fun L u W hJ hG hL hdep => run_lenP rfl (hW (IsB la) hG hdep 0) (rfl)
  ·refine step_pureO hs Wn rfl fun L u W hG hdep => ⟨_, ?_, rfl⟩
   have e0 := (oE (.int .i64 (la.length : Int)) hG hdep 1)
   have e9 := T0.out
   go_simp
   try omega
  ·exact mvO 2 hs
  ·exact step_outU hs (wants_off 3 rfl rfl rfl (by kernel_rfl) (fun _ => rfl)) rfl
  ·exact step_outU hs (wants_off 3 rfl rfl rfl (by kernel_rfl) (fun _ => rfl)) rfl
  ·exact step_outU hs (wants_off 3 rfl rfl rfl (by kernel_rfl) (fun _ => rfl)) rfl
  ·exact step_pick true hs Wn rfl rfl (fun L u W hG hdep => (oE (.bool true) hG hdep 3)) (fun L u W hG hdep => rfl)
 intro L1 u1 W1 hall hJ hG
 have hb := hJ.all rfl
 have hbel := Below.call hbel hb
 have HC15 := oC (.bool true) hG 2
 have HC16 := oC (.bool true) hG 3
 have HC20 := oC (.bool true) hG 7
 have hbel0 := hbel
 clear hJ hG hall hb
 have hx : u1 7 = .bool true := HC20.out
 go_wp2_with fail
 rw [hx]
 clear hx
 go_upto_region 2 with fail
 refine rgT [(4, 1), (16, 0)] [.oth (fun v => v = .bool true), .oth (fun v => v = .bool true)] ?_ ?_
 ·intro hs
  refine ⟨?_, ?_, trivial⟩
  ·refine step_callO hs Wn rfl fun L u W hJ hG hL hdep K hK => ?_
   go_simp
   go_at_call 6
   (with_reducible refine (law9awake_any _).mono ?_); rintro e w1 ⟨rfl, hb⟩
   exact hK.out _ _ rfl hb
  ·exact mvO 0 hs
 intro L2 u2 W2 hall hJ hG
 have hb := hJ.all rfl
 have hbel := Below.call hbel hb
 have HC21 := oC (.bool true) hG 0
 have HC4 := oC (.bool true) hG 1
 have hbel0 := hbel
 clear hJ hG hall hb
 go_wp2
 go_ret
 exact ⟨by rw [HC4.out]; rfl, hbel⟩
set_option maxRecDepth 100000 in
set_option maxHeartbeats 8000000 in
theorem edSigns_no1 {w : World} {va : Value} {la : List UInt8} {vb : Value} {lsb : List (List UInt8)} (ha : (IsB la).P va w) (hb : (IsR lsb).P vb w) (t0 : la.length ≤ 40) (t1 : 300 < allZ lsb) :
  Calls Tryz.prog 3 #[va, vb] w fun e w' => e = .returned (.bool true) ∧ Below w.heap.size w w' := by
 have T0 := Lib.hid t0; clear t0
 have T1 := Lib.hid t1; clear t1
 have _ua := ha
 have _ub := hb
 clear _ua _ub
 obtain ⟨z, hz⟩ : ∃ z, allZ lsb = z := ⟨_, rfl⟩
 have HZ := Lib.hid hz; clear hz
 go_enter Tryz.func3, Tryz.ntmps3
 have hbel : Below w.heap.size w w := Below.refl _ _
 have hbel0 := hbel
 go_upto_region 0 with fail
 refine rgT [(4, 0)] [.oth (fun v => v = .bool false)] ?_ ?_
 ·intro hs
  refine ⟨?_, trivial⟩
  ·exact mvK hs fun _ => rfl
 intro L0 u0 W0 hall hJ hG
 have hb := hJ.all rfl
 have hbel := Below.call hbel hb
 have HC4 := oC (.bool false) hG 0
 have hbel0 := hbel
 clear hJ hG hall hb
 go_upto_region 1 with fail
 refine rgT [(13, 0), (0, 1), (0, 2), (0, 3), (0, 4), (0, 5), (0, 6), (0, 7)] [.wld (IsB la) none, .oth (fun v => v = .int .i64 (la.length : Int)), .oth (fun v => v = .bool false), .oth (fun v => v = .bool false), .wld (IsR lsb) none, .oth (fun v => v = .int .i64 z), .oth (fun v => v = .bool true), .oth (fun v => v = .bool true)] ?_ ?_
 ·intro hs
  refine ⟨?_, ?_, ?_, ?_, ?_, ?_, ?_, ?_, trivial⟩
  ·exact step_runP hs Wn rfl fun L u W hJ hG hL hdep => run_moveP (.inl rfl) ((IsB la).st _ _ _ ha (Below.call hbel (hJ.all rfl)))
  ·exact step_runO hs Wn rfl fun L u W hJ hG hL hdep => run_lenP rfl (hW (IsB la) hG hdep 0) (rfl)
  ·refine step_pureO hs Wn rfl fun L u W hG hdep => ⟨_, ?_, rfl⟩
   have e0 := (oE (.int .i64 (la.length : Int)) hG hdep 1)
   have e9 := T0.out
   go_simp
   try omega
  ·exact mvO 2 hs
  ·exact step_runP hs (wants_on 3 rfl rfl (by kernel_rfl) (fun _ => rfl)) rfl fun L u W hJ hG hL hdep => run_moveP (.inl rfl) ((IsR lsb).st _ _ _ hb (Below.call hbel (hJ.all rfl)))
  ·refine step_callO hs (wants_on 3 rfl rfl (by kernel_rfl) (fun _ => rfl)) rfl fun L u W hJ hG hL hdep K hK => ?_
   go_simp
   go_at_call 5
   (with_reducible refine (gAll (z := z) HZ.out (holds_wld (φ := IsR lsb) (hG 4 (hdep 4 (by kernel_rfl))) rfl till_none)).mono ?_); rintro e w1 ⟨rfl, hb⟩
   exact hK.out _ _ rfl hb
  ·refine step_pureO hs (wants_on 3 rfl rfl (by kernel_rfl) (fun _ => rfl)) rfl fun L u W hG hdep => ⟨_, ?_, rfl⟩
   have e0 := (oE (.int .i64 z) hG hdep 5)
   have e9 : decide (300 < z) = true := decide_eq_true (by rw [← HZ.out]; exact T1.out)
   go_simp
   try exact e9
  ·exact step_pick false hs Wn rfl rfl (fun L u W hG hdep => (oE (.bool false) hG hdep 3)) (fun L u W hG hdep => (oE (.bool true) hG hdep 6))
 intro L1 u1 W1 hall hJ hG
 have hb := hJ.all rfl
 have hbel := Below.call hbel hb
 have HC15 := oC (.bool false) hG 2
 have HC16 := oC (.bool false) hG 3
 have HC19 := oC (.bool true) hG 6
 have HC20 := oC (.bool true) hG 7
 have hbel0 := hbel
 clear hJ hG hall hb
 have hx : u1 7 = .bool true := HC20.out
 go_wp2_with fail
 rw [hx]
 clear hx
 go_upto_region 2 with fail
 refine rgT [(4, 1), (16, 0)] [.oth (fun v => v = .bool true), .oth (fun v => v = .bool true)] ?_ ?_
 ·intro hs
  refine ⟨?_, ?_, trivial⟩
  ·refine step_callO hs Wn rfl fun L u W hJ hG hL hdep K hK => ?_
   go_simp
   go_at_call 6
   (with_reducible refine (law9awake_any _).mono ?_); rintro e w1 ⟨rfl, hb⟩
   exact hK.out _ _ rfl hb
  ·exact mvO 0 hs
 intro L2 u2 W2 hall hJ hG
 have hb := hJ.all rfl
 have hbel := Below.call hbel hb
 have HC21 := oC (.bool true) hG 0
 have HC4 := oC (.bool true) hG 1
 have hbel0 := hbel
 clear hJ hG hall hb
 go_wp2
 go_ret
 exact ⟨by rw [HC4.out]; rfl, hbel⟩
theorem edSigns_any {a0 : Option Addr} {n0 cap0 : Nat} {la : List UInt8} {a1 : Option Addr} {n1 cap1 : Nat} {lsb : List (List UInt8)} (w : World) (ha : RdB w a0 n0 cap0 la) (hb : RdRows w a1 n1 cap1 lsb) :
  Calls Tryz.prog 3 #[.slice a0 n0 cap0, .slice a1 n1 cap1] w fun e w' => e = .returned (.bool true) ∧ Below w.heap.size w w' := by
 by_cases t0 : la.length ≤ 40
 rotate_left
 ·exact edSigns_no0 (IsB.mk ha) (IsR.mk hb)  (Nat.lt_of_not_le t0)
 by_cases t1 : allZ lsb ≤ 300
 rotate_left
 ·exact edSigns_no1 (IsB.mk ha) (IsR.mk hb) t0 (Int.not_le.1 t1)
 exact edSigns_few (IsB.mk ha) (IsR.mk hb) t0 t1
namespace edSignsDone
theorem own : ownKnob Tryz.prog.godebug = none := by kernel_rfl
theorem laidOut : laidOutB Tryz.prog = true := by kernel_rfl
set_option maxRecDepth 100000 in
theorem lifted (os : Os) (started : os.Started) (H : Type) (enc : TypeId × Value → H) :
  ReturnsInHanded {} Tryz.checked os 3 .any (Rows.edSignsSpec.pre6 enc Tryz.prog Tryz.f3 Rows.edSignsRow.domain false) (Rows.edSignsSpec.post enc Tryz.prog Tryz.f3 false true false false) := by
 refine returnsInHanded_of_change (C := Tryz.checked) own started (by kernel_rfl) Tryz.func3
  (ChangeSpec.witness6 (enc := enc) (C := Tryz.checked) false ⟨#[], #[.slice none 0 0, .slice none 0 0], []⟩ 8 (by kernel_rfl) (by kernel_rfl) (by kernel_rfl) (by kernel_rfl)) ?_
 intro W base args ds gs before hval0 hW hcnd _
 have hval : ∀ (j : Nat) t v, Tryz.f3.params[j]? = some t → args[j]? = some v → Value.okWide Tryz.prog W .any base t v := hval0
 have hW' := hW
 obtain ⟨p, q, hA0, hV, rfl, hfz, hnd⟩ := hW
 have hA : DataW.TrodAll enc Tryz.prog W 0 (fun _ => true) true Tryz.f3.params.toList args.toList ds p := hA0
 rw [Tryz.params3] at hA hval
 obtain ⟨v0, vs0, d0, ds0, p0, q0, hargs, rfl, rfl, h0, r0⟩ := trodAll_cons hA
 obtain ⟨v1, vs1, d1, ds1, p1, q1, rfl, rfl, rfl, h1, r1⟩ := trodAll_cons r0
 obtain ⟨rfl, rfl, rfl⟩ := trodAll_nil r1
 obtain rfl : args = #[v0, v1] := by cases args; simp_all
 obtain ⟨rfl, rfl⟩ := trodVars_none hV
 obtain ⟨a0, len0, cap0, rfl⟩ := okWide_slice Tryz.underlying22 (hval 0 22 v0 rfl rfl)
 have k0 := h0
 have lt0 : ∀ x ∈ p0, x.block < W.heap.size := by obtain ⟨m, hm⟩ := k0; exact DataW.trod_lt m _ _ _ hm
 obtain ⟨l0, w0⟩ : ∃ l, RdB W a0 len0 cap0 l := by
  obtain ⟨fuel, hf⟩ := h0
  rcases open_ints Tryz.underlying22 Tryz.underlying5 (by kernel_rfl) hf with ⟨hcs, _⟩ | ⟨x, l, c, zs, hcs, _, hl, hm, hz, _, hcell, hwz⟩
  ·simp [Value.cells] at hcs
   obtain ⟨rfl, rfl, rfl⟩ := hcs
   exact ⟨[], RdB.nil _⟩
  ·simp [Value.cells] at hcs
   obtain ⟨rfl, rfl, rfl⟩ := hcs
   exact RdB.of_ints (.inr ⟨_, rfl, hl, hm, by simpa using hz, hcell, hwz⟩)
 obtain ⟨a1, len1, cap1, rfl⟩ := okWide_slice Tryz.underlying23 (hval 1 23 v1 rfl rfl)
 have k1 := h1
 have lt1 : ∀ x ∈ p1, x.block < W.heap.size := by obtain ⟨m, hm⟩ := k1; exact DataW.trod_lt m _ _ _ hm
 obtain ⟨l1, w1⟩ : ∃ l, RdRows W a1 len1 cap1 l := by
  obtain ⟨fuel, hf⟩ := h1
  rcases Deep.open_int_rows Tryz.underlying23 Tryz.underlying22 Tryz.underlying5 (by kernel_rfl) (by kernel_rfl) hf with ⟨hcs, _⟩ | ⟨x, l, c, A, L, C, Z, hcs, _, hl, hm, _, hr⟩
  ·simp [Value.cells] at hcs
   obtain ⟨rfl, rfl, rfl⟩ := hcs
   exact RdRows.of_rows (.inl ⟨rfl, rfl, rfl⟩)
  ·simp [Value.cells] at hcs
   obtain ⟨rfl, rfl, rfl⟩ := hcs
   exact RdRows.of_rows (.inr ⟨x, A, L, C, Z, rfl, hl, hm, fun r hc => ⟨(hr r hc).1, (hr r hc).2.1, (hr r hc).2.2.1, (hr r hc).2.2.2.1, (hr r hc).2.2.2.2.1, (hr r hc).2.2.2.2.2.1, fun a' h => ((hr r hc).2.2.2.2.2.2 a' h).2⟩⟩)
 clear hA0 hval0
 refine (edSigns_any W w0 w1).mono fun e W' ⟨he, bel⟩ => ?_
 subst he
 exact ⟨_, rfl, _, _, _, [], _, [], hW', trodAll_mk1 (shut_bool Tryz.underlying4 _), (trodAll_cons_mk (Below.trod laidOut (by kernel_rfl) (of_decide_eq_true (by kernel_rfl)) k0 bel lt0) (trodAll_cons_mk (Below.trod laidOut (by kernel_rfl) (of_decide_eq_true (by kernel_rfl)) k1 bel lt1) trodAll_mk0)), rfl, bel.frame _, fun h => by cases h⟩
theorem over : Rows.edSignsRow.holds Tryz.pinned (OpenSpec.ofChange Rows.edSignsSpec) :=
 OpenClaim.holds_of_wide 3 Tryz.f3 rfl rfl rfl rfl rfl rfl rfl ⟨rfl, rfl, rfl, rfl, rfl⟩ rfl rfl rfl rfl rfl (by kernel_rfl) Tryz.func3 (by kernel_rfl)
  (of_decide_eq_true (by kernel_rfl)) (by unfold Func.isWrapper; first | (rw [if_pos (by decide +kernel)]; kernel_rfl) | (rw [if_neg (by decide +kernel)]; exact ⟨rfl, rfl⟩))
  (fun os started H enc _ => lifted os started H enc)
theorem proved : Rows.EdSignsSaid := over
#print axioms proved
end edSignsDone

end Go.Proofs.YtielgpefoameiaaGreat
