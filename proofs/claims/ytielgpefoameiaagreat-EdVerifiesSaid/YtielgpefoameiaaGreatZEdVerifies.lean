/- Of chapter 9, EdVerifies: for every input the law returns true, and each argument reads behind the call as it read before. No condition. -/
import Derived.Test.YtielgpefoameiaaGreatZEVF
import Derived.ProofKit
import Derived.ShutString
import Derived.ChangeOld
namespace Go.Proofs.YtielgpefoameiaaGreat
open Go Go.ChangeShapes Go.WideShapes Go.ChangeAt Go.RowKit
open Go.ChangeMaps (open_string shut_string)

set_option maxRecDepth 100000 in
set_option maxHeartbeats 8000000 in
theorem edVerifies_few {w : World} {va : Value} {la : List UInt8} {vb : Value} {lb : List UInt8} {vc : Value} {lsc : List (List UInt8)} (ha : (IsB la).P va w) (hb : (IsB lb).P vb w) (hc : (IsR lsc).P vc w) (t0 : la.length ≤ 100) (t1 : lb.length ≤ 100) (t2 : allZ lsc ≤ 300) :
  Calls Tryz.prog 4 #[va, vb, vc] w fun e w' => e = .returned (.bool true) ∧ Below w.heap.size w w' := by
 have T0 := Lib.hid t0; clear t0
 have T1 := Lib.hid t1; clear t1
 have T2 := Lib.hid t2; clear t2
 obtain ⟨z, hz⟩ : ∃ z, allZ lsc = z := ⟨_, rfl⟩
 have HZ := Lib.hid hz; clear hz
 obtain ⟨lc, hlc⟩ : ∃ l, lsc.flatten = l := ⟨_, rfl⟩
 have HM : Hid (lc.length ≤ 300) := Lib.hid (by rw [← hlc]; exact allZ_few T2.out)
 have HLC := Lib.hid hlc; clear hlc
 go_enter Tryz.func4, Tryz.ntmps4
 have hbel : Below w.heap.size w w := Below.refl _ _
 have hbel0 := hbel
 go_upto_region 0 with fail
 refine rgT [(6, 0)] [.oth (fun v => v = .bool false)] ?_ ?_
 ·intro hs
  refine ⟨?_, trivial⟩
  ·exact mvK hs fun _ => rfl
 intro L0 u0 W0 hall hJ hG
 have hb := hJ.all rfl
 have hbel := Below.call hbel hb
 have HC6 := oC (.bool false) hG 0
 have hbel0 := hbel
 clear hJ hG hall hb
 go_upto_region 1 with fail
 refine rgT [(7, 0), (0, 1), (0, 2), (0, 3), (0, 4), (0, 5), (0, 6), (0, 7), (0, 8), (0, 9), (0, 10), (0, 11), (0, 12)] [.wld (IsB la) none, .oth (fun v => v = .int .i64 (la.length : Int)), .oth (fun v => v = .bool false), .oth (fun v => v = .bool false), .wld (IsB lb) none, .oth (fun v => v = .int .i64 (lb.length : Int)), .oth (fun v => v = .bool false), .oth (fun v => v = .bool false), .oth (fun v => v = .bool false), .wld (IsR lsc) none, .oth (fun v => v = .int .i64 z), .oth (fun v => v = .bool false), .oth (fun v => v = .bool false)] ?_ ?_
 ·intro hs
  refine ⟨?_, ?_, ?_, ?_, ?_, ?_, ?_, ?_, ?_, ?_, ?_, ?_, ?_, trivial⟩
  ·exact step_runP hs Wn rfl fun L u W hJ hG hL hdep => run_moveP (.inl rfl) ((IsB la).st _ _ _ ha (Below.call hbel (hJ.all rfl)))
  ·exact step_runO hs Wn rfl fun L u W hJ hG hL hdep => run_lenP rfl (hW (IsB la) hG hdep 0) (rfl)
  ·refine step_pureO hs Wn rfl fun L u W hG hdep => ⟨_, ?_, rfl⟩
   have e0 := (oE (.int .i64 (la.length : Int)) hG hdep 1)
   have e9 := T0.out
   go_simp
   try omega
  ·exact mvO 2 hs
  ·exact step_runP hs (wants_on 3 rfl rfl (by kernel_rfl) (fun _ => rfl)) rfl fun L u W hJ hG hL hdep => run_moveP (.inl rfl) ((IsB lb).st _ _ _ hb (Below.call hbel (hJ.all rfl)))
  ·exact step_runO hs (wants_on 3 rfl rfl (by kernel_rfl) (fun _ => rfl)) rfl fun L u W hJ hG hL hdep => run_lenP rfl (hW (IsB lb) hG hdep 4) (rfl)
  ·refine step_pureO hs (wants_on 3 rfl rfl (by kernel_rfl) (fun _ => rfl)) rfl fun L u W hG hdep => ⟨_, ?_, rfl⟩
   have e0 := (oE (.int .i64 (lb.length : Int)) hG hdep 5)
   have e9 := T1.out
   go_simp
   try omega
  ·exact step_pick false hs Wn rfl rfl (fun L u W hG hdep => (oE (.bool false) hG hdep 3)) (fun L u W hG hdep => (oE (.bool false) hG hdep 6))
  ·exact mvO 7 hs
  ·exact step_runP hs (wants_on 8 rfl rfl (by kernel_rfl) (fun _ => rfl)) rfl fun L u W hJ hG hL hdep => run_moveP (.inl rfl) ((IsR lsc).st _ _ _ hc (Below.call hbel (hJ.all rfl)))
  ·refine step_callO hs (wants_on 8 rfl rfl (by kernel_rfl) (fun _ => rfl)) rfl fun L u W hJ hG hL hdep K hK => ?_
   go_simp
   go_at_call 5
   (with_reducible refine (gAll (z := z) HZ.out (holds_wld (φ := IsR lsc) (hG 9 (hdep 9 (by kernel_rfl))) rfl till_none)).mono ?_); rintro e w1 ⟨rfl, hb⟩
   exact hK.out _ _ rfl hb
  ·refine step_pureO hs (wants_on 8 rfl rfl (by kernel_rfl) (fun _ => rfl)) rfl fun L u W hG hdep => ⟨_, ?_, rfl⟩
   have e0 := (oE (.int .i64 z) hG hdep 10)
   have e9 : decide (300 < z) = false := decide_eq_false (by rw [← HZ.out]; have := T2.out; omega)
   go_simp
   try exact e9
  ·exact step_pick false hs Wn rfl rfl (fun L u W hG hdep => (oE (.bool false) hG hdep 8)) (fun L u W hG hdep => (oE (.bool false) hG hdep 11))
 intro L1 u1 W1 hall hJ hG
 have hb := hJ.all rfl
 have hbel := Below.call hbel hb
 have HC9 := oC (.bool false) hG 2
 have HC10 := oC (.bool false) hG 3
 have HC13 := oC (.bool false) hG 6
 have HC14 := oC (.bool false) hG 7
 have HC15 := oC (.bool false) hG 8
 have HC18 := oC (.bool false) hG 11
 have HC19 := oC (.bool false) hG 12
 have hbel0 := hbel
 clear hJ hG hall hb
 have hx : u1 12 = .bool false := HC19.out
 go_wp2_with fail
 rw [hx]
 clear hx
 obtain ⟨C9, hv⟩ : ∃ c, verC la lb lc = c := ⟨_, rfl⟩
 have HV := Lib.hid hv; clear hv
 go_upto_region 3 with fail
 refine rgT [(6, 13), (14, 0), (0, 1), (0, 2), (0, 3), (0, 4), (0, 5), (0, 6), (0, 7), (0, 8), (0, 9), (0, 10), (0, 11), (0, 12)] [.wld (IsB la) none, .wld (IsB lb) none, .wld (IsR lsc) none, .oth (fun v => v = .int .i64 C9), .wld (IsB la) none, .wld (IsB lb) none, .wld (IsR lsc) none, .wld (IsB lc) none, .oth (fun v => v = .int .i64 C9), .oth (fun v => v = .bool true), .oth (fun v => v = .bool true), .oth (fun v => v = .bool true), .oth (fun v => v = .bool true), .oth (fun v => v = .bool true)] ?_ ?_
 ·intro hs
  refine ⟨?_, ?_, ?_, ?_, ?_, ?_, ?_, ?_, ?_, ?_, ?_, ?_, ?_, ?_, trivial⟩
  ·exact step_runP hs Wn rfl fun L u W hJ hG hL hdep => run_moveP (.inl rfl) ((IsB la).st _ _ _ ha (Below.call hbel (hJ.all rfl)))
  ·exact step_runP hs Wn rfl fun L u W hJ hG hL hdep => run_moveP (.inl rfl) ((IsB lb).st _ _ _ hb (Below.call hbel (hJ.all rfl)))
  ·exact step_runP hs Wn rfl fun L u W hJ hG hL hdep => run_moveP (.inl rfl) ((IsR lsc).st _ _ _ hc (Below.call hbel (hJ.all rfl)))
  ·refine step_callO hs Wn rfl fun L u W hJ hG hL hdep K hK => ?_
   go_simp
   go_at_call 15
   (with_reducible refine (gVerifyC (l := lc) (holds_wld (φ := IsB la) (hG 0 (hdep 0 (by kernel_rfl))) rfl till_none) (holds_wld (φ := IsB lb) (hG 1 (hdep 1 (by kernel_rfl))) rfl till_none) (holds_wld (φ := IsR lsc) (hG 2 (hdep 2 (by kernel_rfl))) rfl till_none) (HLC.out) (by have := HM.out; omega) (HV.out)).mono ?_); rintro e w1 ⟨rfl, hb⟩
   exact hK.out _ _ rfl hb
  ·exact step_runP hs Wn rfl fun L u W hJ hG hL hdep => run_moveP (.inl rfl) ((IsB la).st _ _ _ ha (Below.call hbel (hJ.all rfl)))
  ·exact step_runP hs Wn rfl fun L u W hJ hG hL hdep => run_moveP (.inl rfl) ((IsB lb).st _ _ _ hb (Below.call hbel (hJ.all rfl)))
  ·exact step_runP hs Wn rfl fun L u W hJ hG hL hdep => run_moveP (.inl rfl) ((IsR lsc).st _ _ _ hc (Below.call hbel (hJ.all rfl)))
  ·refine step_callP hs Wn rfl fun L u W hJ hG hL hdep K hK => ?_
   go_simp
   go_at_call 14
   (with_reducible refine (gACat (l := lc) (holds_wld (φ := IsR lsc) (hG 6 (hdep 6 (by kernel_rfl))) rfl till_none) (HLC.out) (by have := HM.out; omega)).mono ?_); rintro e w1 ⟨r, rfl, hr, hb⟩
   exact hK.out _ _ hr hb
  ·refine step_callO hs Wn rfl fun L u W hJ hG hL hdep K hK => ?_
   go_simp
   go_at_call 16
   (with_reducible refine (gRVerifyC (holds_wld (φ := IsB la) (hG 4 (hdep 4 (by kernel_rfl))) rfl till_none) (holds_wld (φ := IsB lb) (hG 5 (hdep 5 (by kernel_rfl))) rfl till_none) (holds_wld (φ := IsB lc) (hG 7 (hdep 7 (by kernel_rfl))) rfl till_none) (by have := HM.out; omega) (HV.out)).mono ?_); rintro e w1 ⟨rfl, hb⟩
   exact hK.out _ _ rfl hb
  ·refine step_pureO hs Wn rfl fun L u W hG hdep => ⟨_, ?_, rfl⟩
   have e0 := (oE (.int .i64 C9) hG hdep 3)
   have e1 := (oE (.int .i64 C9) hG hdep 8)
   go_simp
   try simp
  ·exact mvO 9 hs
  ·refine step_callO hs (wants_on 10 rfl rfl (by kernel_rfl) (fun _ => rfl)) rfl fun L u W hJ hG hL hdep K hK => ?_
   go_simp
   go_at_call 6
   (with_reducible refine (law9awake_any _).mono ?_); rintro e w1 ⟨rfl, hb⟩
   exact hK.out _ _ rfl hb
  ·exact step_pick true hs Wn rfl rfl (fun L u W hG hdep => (oE (.bool true) hG hdep 10)) (fun L u W hG hdep => (oE (.bool true) hG hdep 11))
  ·exact mvO 12 hs
 intro L3 u3 W3 hall hJ hG
 have hb := hJ.all rfl
 have hbel := Below.call hbel hb
 have HC30 := oC (.bool true) hG 9
 have HC31 := oC (.bool true) hG 10
 have HC32 := oC (.bool true) hG 11
 have HC33 := oC (.bool true) hG 12
 have HC6 := oC (.bool true) hG 13
 have hbel0 := hbel
 clear hJ hG hall hb
 go_wp2
 go_ret
 exact ⟨by rw [HC6.out]; rfl, hbel⟩
set_option maxRecDepth 100000 in
set_option maxHeartbeats 8000000 in
theorem edVerifies_no0 {w : World} {va : Value} {la : List UInt8} {vb : Value} {lb : List UInt8} {vc : Value} {lsc : List (List UInt8)} (ha : (IsB la).P va w) (hb : (IsB lb).P vb w) (hc : (IsR lsc).P vc w) (t0 : 100 < la.length) :
  Calls Tryz.prog 4 #[va, vb, vc] w fun e w' => e = .returned (.bool true) ∧ Below w.heap.size w w' := by
 have T0 := Lib.hid t0; clear t0
 have _ua := ha
 have _ub := hb
 have _uc := hc
 clear _ua _ub _uc
 go_enter Tryz.func4, Tryz.ntmps4
 have hbel : Below w.heap.size w w := Below.refl _ _
 have hbel0 := hbel
 go_upto_region 0 with fail
 refine rgT [(6, 0)] [.oth (fun v => v = .bool false)] ?_ ?_
 ·intro hs
  refine ⟨?_, trivial⟩
  ·exact mvK hs fun _ => rfl
 intro L0 u0 W0 hall hJ hG
 have hb := hJ.all rfl
 have hbel := Below.call hbel hb
 have HC6 := oC (.bool false) hG 0
 have hbel0 := hbel
 clear hJ hG hall hb
 go_upto_region 1 with fail
 refine rgT [(7, 0), (0, 1), (0, 2), (0, 3), (0, 4), (0, 5), (0, 6), (0, 7), (0, 8), (0, 9), (0, 10), (0, 11), (0, 12)] [.wld (IsB la) none, .oth (fun v => v = .int .i64 (la.length : Int)), .oth (fun v => v = .bool true), .oth (fun v => v = .bool true), .oth (fun v => v = undef), .oth (fun v => v = undef), .oth (fun v => v = undef), .oth (fun v => v = .bool true), .oth (fun v => v = .bool true), .oth (fun v => v = undef), .oth (fun v => v = undef), .oth (fun v => v = undef), .oth (fun v => v = .bool true)] ?_ ?_
 ·intro hs
  refine ⟨?_, ?_, ?_, ?_, ?_, ?_, ?_, ?_, ?_, ?_, ?_, ?_, ?_, trivial⟩
  ·exact step_runP hs Wn rfl fun L u W hJ hG hL hdep => run_moveP (.inl rfl) ((IsB la).st _ _ _ ha (Below.call hbel (hJ.all rfl)))
  ·exact step_runO hs Wn rfl fun L u W hJ hG hL hdep => run_lenP rfl (hW (IsB la) hG hdep 0) (rfl)
  ·refine step_pureO hs Wn rfl fun L u W hG hdep => ⟨_, ?_, rfl⟩
   have e0 := (oE (.int .i64 (la.length : Int)) hG hdep 1)
   have e9 := T0.out
   go_simp
   try omega
  ·exact mvO 2 hs
  ·exact step_outU hs (wants_off 3 rfl rfl rfl (by kernel_rfl) (fun _ => rfl)) rfl
  ·exact step_outU hs (wants_off 3 rfl rfl rfl (by kernel_rfl) (fun _ => rfl)) rfl
  ·exact step_outU hs (wants_off 3 rfl rfl rfl (by kernel_rfl) (fun _ => rfl)) rfl
  ·exact step_pick true hs Wn rfl rfl (fun L u W hG hdep => (oE (.bool true) hG hdep 3)) (fun L u W hG hdep => rfl)
  ·exact mvO 7 hs
  ·exact step_outU hs (wants_off 8 rfl rfl rfl (by kernel_rfl) (fun _ => rfl)) rfl
  ·exact step_outU hs (wants_off 8 rfl rfl rfl (by kernel_rfl) (fun _ => rfl)) rfl
  ·exact step_outU hs (wants_off 8 rfl rfl rfl (by kernel_rfl) (fun _ => rfl)) rfl
  ·exact step_pick true hs Wn rfl rfl (fun L u W hG hdep => (oE (.bool true) hG hdep 8)) (fun L u W hG hdep => rfl)
 intro L1 u1 W1 hall hJ hG
 have hb := hJ.all rfl
 have hbel := Below.call hbel hb
 have HC9 := oC (.bool true) hG 2
 have HC10 := oC (.bool true) hG 3
 have HC14 := oC (.bool true) hG 7
 have HC15 := oC (.bool true) hG 8
 have HC19 := oC (.bool true) hG 12
 have hbel0 := hbel
 clear hJ hG hall hb
 have hx : u1 12 = .bool true := HC19.out
 go_wp2_with fail
 rw [hx]
 clear hx
 go_upto_region 2 with fail
 refine rgT [(6, 1), (13, 0)] [.oth (fun v => v = .bool true), .oth (fun v => v = .bool true)] ?_ ?_
 ·intro hs
  refine ⟨?_, ?_, trivial⟩
  ·refine step_callO hs Wn rfl fun L u W hJ hG hL hdep K hK => ?_
   go_simp
   go_at_call 6
   (with_reducible refine (law9awake_any _).mono ?_); rintro e w1 ⟨rfl, hb⟩
   exact hK.out _ _ rfl hb
  ·exact mvO 0 hs
 intro L2 u2 W2 hall hJ hG
 have hb := hJ.all rfl
 have hbel := Below.call hbel hb
 have HC20 := oC (.bool true) hG 0
 have HC6 := oC (.bool true) hG 1
 have hbel0 := hbel
 clear hJ hG hall hb
 go_wp2
 go_ret
 exact ⟨by rw [HC6.out]; rfl, hbel⟩
set_option maxRecDepth 100000 in
set_option maxHeartbeats 8000000 in
theorem edVerifies_no1 {w : World} {va : Value} {la : List UInt8} {vb : Value} {lb : List UInt8} {vc : Value} {lsc : List (List UInt8)} (ha : (IsB la).P va w) (hb : (IsB lb).P vb w) (hc : (IsR lsc).P vc w) (t0 : la.length ≤ 100) (t1 : 100 < lb.length) :
  Calls Tryz.prog 4 #[va, vb, vc] w fun e w' => e = .returned (.bool true) ∧ Below w.heap.size w w' := by
 have T0 := Lib.hid t0; clear t0
 have T1 := Lib.hid t1; clear t1
 have _ua := ha
 have _ub := hb
 have _uc := hc
 clear _ua _ub _uc
 go_enter Tryz.func4, Tryz.ntmps4
 have hbel : Below w.heap.size w w := Below.refl _ _
 have hbel0 := hbel
 go_upto_region 0 with fail
 refine rgT [(6, 0)] [.oth (fun v => v = .bool false)] ?_ ?_
 ·intro hs
  refine ⟨?_, trivial⟩
  ·exact mvK hs fun _ => rfl
 intro L0 u0 W0 hall hJ hG
 have hb := hJ.all rfl
 have hbel := Below.call hbel hb
 have HC6 := oC (.bool false) hG 0
 have hbel0 := hbel
 clear hJ hG hall hb
 go_upto_region 1 with fail
 refine rgT [(7, 0), (0, 1), (0, 2), (0, 3), (0, 4), (0, 5), (0, 6), (0, 7), (0, 8), (0, 9), (0, 10), (0, 11), (0, 12)] [.wld (IsB la) none, .oth (fun v => v = .int .i64 (la.length : Int)), .oth (fun v => v = .bool false), .oth (fun v => v = .bool false), .wld (IsB lb) none, .oth (fun v => v = .int .i64 (lb.length : Int)), .oth (fun v => v = .bool true), .oth (fun v => v = .bool true), .oth (fun v => v = .bool true), .oth (fun v => v = undef), .oth (fun v => v = undef), .oth (fun v => v = undef), .oth (fun v => v = .bool true)] ?_ ?_
 ·intro hs
  refine ⟨?_, ?_, ?_, ?_, ?_, ?_, ?_, ?_, ?_, ?_, ?_, ?_, ?_, trivial⟩
  ·exact step_runP hs Wn rfl fun L u W hJ hG hL hdep => run_moveP (.inl rfl) ((IsB la).st _ _ _ ha (Below.call hbel (hJ.all rfl)))
  ·exact step_runO hs Wn rfl fun L u W hJ hG hL hdep => run_lenP rfl (hW (IsB la) hG hdep 0) (rfl)
  ·refine step_pureO hs Wn rfl fun L u W hG hdep => ⟨_, ?_, rfl⟩
   have e0 := (oE (.int .i64 (la.length : Int)) hG hdep 1)
   have e9 := T0.out
   go_simp
   try omega
  ·exact mvO 2 hs
  ·exact step_runP hs (wants_on 3 rfl rfl (by kernel_rfl) (fun _ => rfl)) rfl fun L u W hJ hG hL hdep => run_moveP (.inl rfl) ((IsB lb).st _ _ _ hb (Below.call hbel (hJ.all rfl)))
  ·exact step_runO hs (wants_on 3 rfl rfl (by kernel_rfl) (fun _ => rfl)) rfl fun L u W hJ hG hL hdep => run_lenP rfl (hW (IsB lb) hG hdep 4) (rfl)
  ·refine step_pureO hs (wants_on 3 rfl rfl (by kernel_rfl) (fun _ => rfl)) rfl fun L u W hG hdep => ⟨_, ?_, rfl⟩
   have e0 := (oE (.int .i64 (lb.length : Int)) hG hdep 5)
   have e9 := T1.out
   go_simp
   try omega
  ·exact step_pick false hs Wn rfl rfl (fun L u W hG hdep => (oE (.bool false) hG hdep 3)) (fun L u W hG hdep => (oE (.bool true) hG hdep 6))
  ·exact mvO 7 hs
  ·exact step_outU hs (wants_off 8 rfl rfl rfl (by kernel_rfl) (fun _ => rfl)) rfl
  ·exact step_outU hs (wants_off 8 rfl rfl rfl (by kernel_rfl) (fun _ => rfl)) rfl
  ·exact step_outU hs (wants_off 8 rfl rfl rfl (by kernel_rfl) (fun _ => rfl)) rfl
  ·exact step_pick true hs Wn rfl rfl (fun L u W hG hdep => (oE (.bool true) hG hdep 8)) (fun L u W hG hdep => rfl)
 intro L1 u1 W1 hall hJ hG
 have hb := hJ.all rfl
 have hbel := Below.call hbel hb
 have HC9 := oC (.bool false) hG 2
 have HC10 := oC (.bool false) hG 3
 have HC13 := oC (.bool true) hG 6
 have HC14 := oC (.bool true) hG 7
 have HC15 := oC (.bool true) hG 8
 have HC19 := oC (.bool true) hG 12
 have hbel0 := hbel
 clear hJ hG hall hb
 have hx : u1 12 = .bool true := HC19.out
 go_wp2_with fail
 rw [hx]
 clear hx
 go_upto_region 2 with fail
 refine rgT [(6, 1), (13, 0)] [.oth (fun v => v = .bool true), .oth (fun v => v = .bool true)] ?_ ?_
 ·intro hs
  refine ⟨?_, ?_, trivial⟩
  ·refine step_callO hs Wn rfl fun L u W hJ hG hL hdep K hK => ?_
   go_simp
   go_at_call 6
   (with_reducible refine (law9awake_any _).mono ?_); rintro e w1 ⟨rfl, hb⟩
   exact hK.out _ _ rfl hb
  ·exact mvO 0 hs
 intro L2 u2 W2 hall hJ hG
 have hb := hJ.all rfl
 have hbel := Below.call hbel hb
 have HC20 := oC (.bool true) hG 0
 have HC6 := oC (.bool true) hG 1
 have hbel0 := hbel
 clear hJ hG hall hb
 go_wp2
 go_ret
 exact ⟨by rw [HC6.out]; rfl, hbel⟩
set_option maxRecDepth 100000 in
set_option maxHeartbeats 8000000 in
theorem edVerifies_no2 {w : World} {va : Value} {la : List UInt8} {vb : Value} {lb : List UInt8} {vc : Value} {lsc : List (List UInt8)} (ha : (IsB la).P va w) (hb : (IsB lb).P vb w) (hc : (IsR lsc).P vc w) (t0 : la.length ≤ 100) (t1 : lb.length ≤ 100) (t2 : 300 < allZ lsc) :
  Calls Tryz.prog 4 #[va, vb, vc] w fun e w' => e = .returned (.bool true) ∧ Below w.heap.size w w' := by
 have T0 := Lib.hid t0; clear t0
 have T1 := Lib.hid t1; clear t1
 have T2 := Lib.hid t2; clear t2
 have _ua := ha
 have _ub := hb
 have _uc := hc
 clear _ua _ub _uc
 obtain ⟨z, hz⟩ : ∃ z, allZ lsc = z := ⟨_, rfl⟩
 have HZ := Lib.hid hz; clear hz
 go_enter Tryz.func4, Tryz.ntmps4
 have hbel : Below w.heap.size w w := Below.refl _ _
 have hbel0 := hbel
 go_upto_region 0 with fail
 refine rgT [(6, 0)] [.oth (fun v => v = .bool false)] ?_ ?_
 ·intro hs
  refine ⟨?_, trivial⟩
  ·exact mvK hs fun _ => rfl
 intro L0 u0 W0 hall hJ hG
 have hb := hJ.all rfl
 have hbel := Below.call hbel hb
 have HC6 := oC (.bool false) hG 0
 have hbel0 := hbel
 clear hJ hG hall hb
 go_upto_region 1 with fail
 refine rgT [(7, 0), (0, 1), (0, 2), (0, 3), (0, 4), (0, 5), (0, 6), (0, 7), (0, 8), (0, 9), (0, 10), (0, 11), (0, 12)] [.wld (IsB la) none, .oth (fun v => v = .int .i64 (la.length : Int)), .oth (fun v => v = .bool false), .oth (fun v => v = .bool false), .wld (IsB lb) none, .oth (fun v => v = .int .i64 (lb.length : Int)), .oth (fun v => v = .bool false), .oth (fun v => v = .bool false), .oth (fun v => v = .bool false), .wld (IsR lsc) none, .oth (fun v => v = .int .i64 z), .oth (fun v => v = .bool true), .oth (fun v => v = .bool true)] ?_ ?_
 ·intro hs
  refine ⟨?_, ?_, ?_, ?_, ?_, ?_, ?_, ?_, ?_, ?_, ?_, ?_, ?_, trivial⟩
  ·exact step_runP hs Wn rfl fun L u W hJ hG hL hdep => run_moveP (.inl rfl) ((IsB la).st _ _ _ ha (Below.call hbel (hJ.all rfl)))
  ·exact step_runO hs Wn rfl fun L u W hJ hG hL hdep => run_lenP rfl (hW (IsB la) hG hdep 0) (rfl)
  ·refine step_pureO hs Wn rfl fun L u W hG hdep => ⟨_, ?_, rfl⟩
   have e0 := (oE (.int .i64 (la.length : Int)) hG hdep 1)
   have e9 := T0.out
   go_simp
   try omega
  ·exact mvO 2 hs
  ·exact step_runP hs (wants_on 3 rfl rfl (by kernel_rfl) (fun _ => rfl)) rfl fun L u W hJ hG hL hdep => run_moveP (.inl rfl) ((IsB lb).st _ _ _ hb (Below.call hbel (hJ.all rfl)))
  ·exact step_runO hs (wants_on 3 rfl rfl (by kernel_rfl) (fun _ => rfl)) rfl fun L u W hJ hG hL hdep => run_lenP rfl (hW (IsB lb) hG hdep 4) (rfl)
  ·refine step_pureO hs (wants_on 3 rfl rfl (by kernel_rfl) (fun _ => rfl)) rfl fun L u W hG hdep => ⟨_, ?_, rfl⟩
   have e0 := (oE (.int .i64 (lb.length : Int)) hG hdep 5)
   have e9 := T1.out
   go_simp
   try omega
  ·exact step_pick false hs Wn rfl rfl (fun L u W hG hdep => (oE (.bool false) hG hdep 3)) (fun L u W hG hdep => (oE (.bool false) hG hdep 6))
  ·exact mvO 7 hs
  ·exact step_runP hs (wants_on 8 rfl rfl (by kernel_rfl) (fun _ => rfl)) rfl fun L u W hJ hG hL hdep => run_moveP (.inl rfl) ((IsR lsc).st _ _ _ hc (Below.call hbel (hJ.all rfl)))
  ·refine step_callO hs (wants_on 8 rfl rfl (by kernel_rfl) (fun _ => rfl)) rfl fun L u W hJ hG hL hdep K hK => ?_
   go_simp
   go_at_call 5
   (with_reducible refine (gAll (z := z) HZ.out (holds_wld (φ := IsR lsc) (hG 9 (hdep 9 (by kernel_rfl))) rfl till_none)).mono ?_); rintro e w1 ⟨rfl, hb⟩
   exact hK.out _ _ rfl hb
  ·refine step_pureO hs (wants_on 8 rfl rfl (by kernel_rfl) (fun _ => rfl)) rfl fun L u W hG hdep => ⟨_, ?_, rfl⟩
   have e0 := (oE (.int .i64 z) hG hdep 10)
   have e9 : decide (300 < z) = true := decide_eq_true (by rw [← HZ.out]; exact T2.out)
   go_simp
   try exact e9
  ·exact step_pick false hs Wn rfl rfl (fun L u W hG hdep => (oE (.bool false) hG hdep 8)) (fun L u W hG hdep => (oE (.bool true) hG hdep 11))
 intro L1 u1 W1 hall hJ hG
 have hb := hJ.all rfl
 have hbel := Below.call hbel hb
 have HC9 := oC (.bool false) hG 2
 have HC10 := oC (.bool false) hG 3
 have HC13 := oC (.bool false) hG 6
 have HC14 := oC (.bool false) hG 7
 have HC15 := oC (.bool false) hG 8
 have HC18 := oC (.bool true) hG 11
 have HC19 := oC (.bool true) hG 12
 have hbel0 := hbel
 clear hJ hG hall hb
 have hx : u1 12 = .bool true := HC19.out
 go_wp2_with fail
 rw [hx]
 clear hx
 go_upto_region 2 with fail
 refine rgT [(6, 1), (13, 0)] [.oth (fun v => v = .bool true), .oth (fun v => v = .bool true)] ?_ ?_
 ·intro hs
  refine ⟨?_, ?_, trivial⟩
  ·refine step_callO hs Wn rfl fun L u W hJ hG hL hdep K hK => ?_
   go_simp
   go_at_call 6
   (with_reducible refine (law9awake_any _).mono ?_); rintro e w1 ⟨rfl, hb⟩
   exact hK.out _ _ rfl hb
  ·exact mvO 0 hs
 intro L2 u2 W2 hall hJ hG
 have hb := hJ.all rfl
 have hbel := Below.call hbel hb
 have HC20 := oC (.bool true) hG 0
 have HC6 := oC (.bool true) hG 1
 have hbel0 := hbel
 clear hJ hG hall hb
 go_wp2
 go_ret
 exact ⟨by rw [HC6.out]; rfl, hbel⟩
theorem edVerifies_any {a0 : Option Addr} {n0 cap0 : Nat} {la : List UInt8} {a1 : Option Addr} {n1 cap1 : Nat} {lb : List UInt8} {a2 : Option Addr} {n2 cap2 : Nat} {lsc : List (List UInt8)} (w : World) (ha : RdB w a0 n0 cap0 la) (hb : RdB w a1 n1 cap1 lb) (hc : RdRows w a2 n2 cap2 lsc) :
  Calls Tryz.prog 4 #[.slice a0 n0 cap0, .slice a1 n1 cap1, .slice a2 n2 cap2] w fun e w' => e = .returned (.bool true) ∧ Below w.heap.size w w' := by
 by_cases t0 : la.length ≤ 100
 rotate_left
 ·exact edVerifies_no0 (IsB.mk ha) (IsB.mk hb) (IsR.mk hc)  (Nat.lt_of_not_le t0)
 by_cases t1 : lb.length ≤ 100
 rotate_left
 ·exact edVerifies_no1 (IsB.mk ha) (IsB.mk hb) (IsR.mk hc) t0 (Nat.lt_of_not_le t1)
 by_cases t2 : allZ lsc ≤ 300
 rotate_left
 ·exact edVerifies_no2 (IsB.mk ha) (IsB.mk hb) (IsR.mk hc) t0 t1 (Int.not_le.1 t2)
 exact edVerifies_few (IsB.mk ha) (IsB.mk hb) (IsR.mk hc) t0 t1 t2
namespace edVerifiesDone
theorem own : ownKnob Tryz.prog.godebug = none := by kernel_rfl
theorem laidOut : laidOutB Tryz.prog = true := by kernel_rfl
set_option maxRecDepth 100000 in
theorem lifted (os : Os) (started : os.Started) (H : Type) (enc : TypeId × Value → H) :
  ReturnsInHanded {} Tryz.checked os 4 .any (Rows.edVerifiesSpec.pre6 enc Tryz.prog Tryz.f4 Rows.edVerifiesRow.domain false) (Rows.edVerifiesSpec.post enc Tryz.prog Tryz.f4 false true false false) := by
 refine returnsInHanded_of_change (C := Tryz.checked) own started (by kernel_rfl) Tryz.func4
  (ChangeSpec.witness6 (enc := enc) (C := Tryz.checked) false ⟨#[], #[.slice none 0 0, .slice none 0 0, .slice none 0 0], []⟩ 8 (by kernel_rfl) (by kernel_rfl) (by kernel_rfl) (by kernel_rfl)) ?_
 intro W base args ds gs before hval0 hW hcnd _
 have hval : ∀ (j : Nat) t v, Tryz.f4.params[j]? = some t → args[j]? = some v → Value.okWide Tryz.prog W .any base t v := hval0
 have hW' := hW
 obtain ⟨p, q, hA0, hV, rfl, hfz, hnd⟩ := hW
 have hA : DataW.TrodAll enc Tryz.prog W 0 (fun _ => true) true Tryz.f4.params.toList args.toList ds p := hA0
 rw [Tryz.params4] at hA hval
 obtain ⟨v0, vs0, d0, ds0, p0, q0, hargs, rfl, rfl, h0, r0⟩ := trodAll_cons hA
 obtain ⟨v1, vs1, d1, ds1, p1, q1, rfl, rfl, rfl, h1, r1⟩ := trodAll_cons r0
 obtain ⟨v2, vs2, d2, ds2, p2, q2, rfl, rfl, rfl, h2, r2⟩ := trodAll_cons r1
 obtain ⟨rfl, rfl, rfl⟩ := trodAll_nil r2
 obtain rfl : args = #[v0, v1, v2] := by cases args; simp_all
 obtain ⟨rfl, rfl⟩ := trodVars_none hV
 obtain ⟨a0, len0, cap0, rfl⟩ := okWide_slice Tryz.underlying22 (hval 0 22 v0 rfl rfl)
 have k0 := h0
 have lt0 : ∀ x ∈ p0, x.block < W.heap.size := by obtain ⟨m, hm⟩ := k0; exact DataW.trod_lt m _ _ _ hm
 obtain ⟨l0, w0⟩ : ∃ l, RdB W a0 len0 cap0 l := by
  obtain ⟨fuel, hf⟩ := h0
  rcases open_ints Tryz.underlying22 Tryz.underlying5 (by kernel_rfl) hf with ⟨hcs, _⟩ | ⟨x, l, c, zs, hcs, _, hl, hm, hz, _, hcell, hwz⟩
  ·simp [Value.cells] at hcs
   obtain ⟨rfl, rfl, rfl⟩ := hcs
   exact ⟨[], RdB.nil _⟩
  ·simp [Value.cells] at hcs
   obtain ⟨rfl, rfl, rfl⟩ := hcs
   exact RdB.of_ints (.inr ⟨_, rfl, hl, hm, by simpa using hz, hcell, hwz⟩)
 obtain ⟨a1, len1, cap1, rfl⟩ := okWide_slice Tryz.underlying22 (hval 1 22 v1 rfl rfl)
 have k1 := h1
 have lt1 : ∀ x ∈ p1, x.block < W.heap.size := by obtain ⟨m, hm⟩ := k1; exact DataW.trod_lt m _ _ _ hm
 obtain ⟨l1, w1⟩ : ∃ l, RdB W a1 len1 cap1 l := by
  obtain ⟨fuel, hf⟩ := h1
  rcases open_ints Tryz.underlying22 Tryz.underlying5 (by kernel_rfl) hf with ⟨hcs, _⟩ | ⟨x, l, c, zs, hcs, _, hl, hm, hz, _, hcell, hwz⟩
  ·simp [Value.cells] at hcs
   obtain ⟨rfl, rfl, rfl⟩ := hcs
   exact ⟨[], RdB.nil _⟩
  ·simp [Value.cells] at hcs
   obtain ⟨rfl, rfl, rfl⟩ := hcs
   exact RdB.of_ints (.inr ⟨_, rfl, hl, hm, by simpa using hz, hcell, hwz⟩)
 obtain ⟨a2, len2, cap2, rfl⟩ := okWide_slice Tryz.underlying23 (hval 2 23 v2 rfl rfl)
 have k2 := h2
 have lt2 : ∀ x ∈ p2, x.block < W.heap.size := by obtain ⟨m, hm⟩ := k2; exact DataW.trod_lt m _ _ _ hm
 obtain ⟨l2, w2⟩ : ∃ l, RdRows W a2 len2 cap2 l := by
  obtain ⟨fuel, hf⟩ := h2
  rcases Deep.open_int_rows Tryz.underlying23 Tryz.underlying22 Tryz.underlying5 (by kernel_rfl) (by kernel_rfl) hf with ⟨hcs, _⟩ | ⟨x, l, c, A, L, C, Z, hcs, _, hl, hm, _, hr⟩
  ·simp [Value.cells] at hcs
   obtain ⟨rfl, rfl, rfl⟩ := hcs
   exact RdRows.of_rows (.inl ⟨rfl, rfl, rfl⟩)
  ·simp [Value.cells] at hcs
   obtain ⟨rfl, rfl, rfl⟩ := hcs
   exact RdRows.of_rows (.inr ⟨x, A, L, C, Z, rfl, hl, hm, fun r hc => ⟨(hr r hc).1, (hr r hc).2.1, (hr r hc).2.2.1, (hr r hc).2.2.2.1, (hr r hc).2.2.2.2.1, (hr r hc).2.2.2.2.2.1, fun a' h => ((hr r hc).2.2.2.2.2.2 a' h).2⟩⟩)
 clear hA0 hval0
 refine (edVerifies_any W w0 w1 w2).mono fun e W' ⟨he, bel⟩ => ?_
 subst he
 exact ⟨_, rfl, _, _, _, [], _, [], hW', trodAll_mk1 (shut_bool Tryz.underlying4 _), (trodAll_cons_mk (Below.trod laidOut (by kernel_rfl) (of_decide_eq_true (by kernel_rfl)) k0 bel lt0) (trodAll_cons_mk (Below.trod laidOut (by kernel_rfl) (of_decide_eq_true (by kernel_rfl)) k1 bel lt1) (trodAll_cons_mk (Below.trod laidOut (by kernel_rfl) (of_decide_eq_true (by kernel_rfl)) k2 bel lt2) trodAll_mk0))), rfl, bel.frame _, fun h => by cases h⟩
theorem over : Rows.edVerifiesRow.holds Tryz.pinned (OpenSpec.ofChange Rows.edVerifiesSpec) :=
 OpenClaim.holds_of_wide 4 Tryz.f4 rfl rfl rfl rfl rfl rfl rfl ⟨rfl, rfl, rfl, rfl, rfl⟩ rfl rfl rfl rfl rfl (by kernel_rfl) Tryz.func4 (by kernel_rfl)
  (of_decide_eq_true (by kernel_rfl)) (by unfold Func.isWrapper; first | (rw [if_pos (by decide +kernel)]; kernel_rfl) | (rw [if_neg (by decide +kernel)]; exact ⟨rfl, rfl⟩))
  (fun os started H enc _ => lifted os started H enc)
theorem proved : Rows.EdVerifiesSaid := over
#print axioms proved
end edVerifiesDone

end Go.Proofs.YtielgpefoameiaaGreat
