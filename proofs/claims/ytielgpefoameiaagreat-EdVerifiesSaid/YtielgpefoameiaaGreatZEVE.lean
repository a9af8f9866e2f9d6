/- What EV rests on, part 5 of 6: my own texts, put together (merge.py). -/
import Derived.Deep.RegionHeld3
import Derived.WalkKit
import Derived.ProofKit
import Derived.Lib.Hide
import Derived.OpenShut
import Derived.Deep.MidRow
import Derived.Test.YtielgpefoameiaaGreatRows
import Derived.WalkSpells
import Derived.StillTactics
import Derived.Laws.Pointers
import Derived.Laws.CopyOwn
import Derived.Laws.AppendOwnNone
import Derived.RowKit3
import Derived.BigQuiet
import Derived.Deep.QuietTactic
import Derived.Deep.LoopGhost
import Derived.Deep.DeepFit
import Derived.WalkLawsBesides
import Derived.Shelf.Spec.BitsCarry
import Derived.Laws.IdiomStrings
import Derived.Deep.WholeRow
import Derived.Laws.Rows
import Derived.Deep.DeepCutAuto
import Derived.Lib.AppendZerosOnto
import Derived.Lib.SliceRun
import Derived.Deep.Matrix
import Derived.Deep.AppendLies
import Derived.ShutString
import Derived.ChangeOld
import Derived.Test.YtielgpefoameiaaGreatZEVD
set_option maxRecDepth 100000
namespace Go.Proofs.YtielgpefoameiaaGreat
open Go Go.RowKit
theorem ss_no {l : List UInt8} (h : ¬ ssC l = 0) : ssC l = 2 := by
 unfold ssC at *
 split
 ·rename_i h1; rw [if_pos h1] at h; exact absurd rfl h
 ·rfl
set_option maxHeartbeats 1000000 in
theorem ver_pt {w : World} {v0 v1 v2 : Value} {pub sig l : List UInt8} {ls : List (List UInt8)} (hp : (IsB pub).P v0 w) (hsg : (IsB sig).P v1 w) (h1 : (IsR ls).P v2 w) (hl : ls.flatten = l) (hm : l.length ≤ 100000) {A : EP} (ka : decV pub = A) (kc : decC pub = 12) :
  Calls Tryz.prog 15 #[v0, v1, v2] w fun e w' => e = .returned (.int .i64 12) ∧ Below w.heap.size w w' := by
 have _u1 := hsg; have _u2 := h1; have _u3 := hl; have _u4 := hm
 clear _u1 _u2 _u3 _u4 hsg h1 hl hm
 have KA := Lib.hid ka; clear ka
 have KC := Lib.hid kc; clear kc
 go_enter Tryz.func15, Tryz.ntmps15
 have hbel : Below w.heap.size w w := Below.refl _ _
 have hbel0 := hbel
 go_upto_region 0 with fail
 refine rgT [(6, 0)] [.oth (fun v => v = .int .i64 0)] ?_ ?_
 ·intro hs
  refine ⟨?_, trivial⟩
  ·exact mvK hs fun _ => rfl
 intro L0 u0 W0 hall hJ hG
 have hb := hJ.all rfl
 have hbel := Below.call hbel hb
 have HC6 := oC (.int .i64 0) hG 0
 have hbel0 := hbel
 clear hJ hG hall hb
 go_upto_region 1 with fail
 refine rgT [(7, 5), (0, 7), (3, 2), (0, 0), (0, 1), (0, 3), (0, 4)] [.wld (IsB pub) (some 1), .oth (fun v => IsTV rP v [A] (.int .i64 12)), .oth (fun v => IsTV rP v [A] (.int .i64 12)), .val rP [A], .oth (fun v => v = .int .i64 12), .new 20, .st 5 rP [A], .oth (fun v => v = .int .i64 12)] ?_ ?_
 ·intro hs
  refine ⟨?_, ?_, ?_, ?_, ?_, ?_, ?_, ?_, trivial⟩
  ·exact step_runP hs Wn rfl fun L u W hJ hG hL hdep => run_moveP (.inl rfl) ((IsB pub).st _ _ _ hp (Below.call hbel (hJ.all rfl)))
  ·refine step_callO hs Wn rfl fun L u W hJ hG hL hdep K hK => ?_
   go_simp
   go_at_call 41
   (with_reducible refine (gDecode KA.out KC.out (holds_wld (φ := IsB pub) (hG 0 (hdep 0 (by kernel_rfl))) rfl (till_some hL))).mono ?_); rintro e w1 ⟨r, rfl, hr, hb⟩
   exact hK.out _ _ ⟨r, rfl, hr⟩ hb
  ·exact step_pureO hs Wn rfl fun L u W hG hdep => ⟨_, run_move rfl, (show IsTV rP (u 1) [A] (.int .i64 12) from hG 1 (hdep 1 (by kernel_rfl)))⟩
  ·exact step_pure hs Wn rfl fun L u W hG hdep => run_extractV0 rfl (show IsTV rP (u 2) [A] (.int .i64 12) from hG 2 (hdep 2 (by kernel_rfl)))
  ·exact step_pureO hs Wn rfl fun L u W hG hdep => run_extractV1 rfl (show IsTV rP (u 2) [A] (.int .i64 12) from hG 2 (hdep 2 (by kernel_rfl)))
  ·exact step_alloc hs Wn rfl rfl (by omega) rfl allocP
  ·exact step_store 5 hs (by kernel_rfl) Wn rfl rfl rfl (by kernel_rfl) (by kernel_rfl) (by kernel_rfl) (by kernel_rfl) (fun _ => rfl) (gO 3) tyP rfl
  ·exact mvO 4 hs
 intro L1 u1 W1 hall hJ hG
 obtain ⟨q7, e7, hq7, _, ht7⟩ := oN 20 hG 5
 have hm7 := oS rP [A] hG 6 e7
 have hq7 : w.heap.size ≤ q7 := by have := hbel0.size; omega
 have E7 := Lib.hid e7; clear e7
 have hb := hJ.all rfl
 have hbel := Below.call hbel hb
 have HC8 := oC (.int .i64 12) hG 7
 have hbel0 := hbel
 clear hJ hG hall hb
 go_upto_region 2 with fail
 refine rgT [(17, 0), (0, 1), (0, 2), (0, 3), (0, 4), (0, 5)] [.oth (fun v => v = .int .i64 12), .oth (fun v => v = .bool true), .oth (fun v => v = .bool true), .oth (fun v => v = undef), .oth (fun v => v = undef), .oth (fun v => v = .bool true)] ?_ ?_
 ·intro hs
  refine ⟨?_, ?_, ?_, ?_, ?_, ?_, trivial⟩
  ·exact mvK hs fun _ => HC8.out
  ·refine step_pureO hs Wn rfl fun L u W hG hdep => ⟨_, ?_, rfl⟩
   have e0 := (oE (.int .i64 12) hG hdep 0)
   go_simp
   try simp [bne]
  ·exact mvO 1 hs
  ·exact step_outU hs (wants_off 2 rfl rfl rfl (by kernel_rfl) (fun _ => rfl)) rfl
  ·exact step_outU hs (wants_off 2 rfl rfl rfl (by kernel_rfl) (fun _ => rfl)) rfl
  ·exact step_pick true hs Wn rfl rfl (fun L u W hG hdep => (oE (.bool true) hG hdep 2)) (fun L u W hG hdep => rfl)
 intro L2 u2 W2 hall hJ hG
 have hb := hJ.all rfl
 have hbel := Below.call hbel hb
 have HC18 := oC (.bool true) hG 1
 have HC19 := oC (.bool true) hG 2
 have HC22 := oC (.bool true) hG 5
 have hbel0 := hbel
 clear hJ hG hall hb
 have hx : u2 5 = .bool true := HC22.out
 go_wp2_with fail
 rw [hx]
 clear hx
 go_upto_region 3 with fail
 refine rgT [(6, 0)] [.oth (fun v => v = .int .i64 12)] ?_ ?_
 ·intro hs
  refine ⟨?_, trivial⟩
  ·exact mvK hs fun _ => rfl
 intro L3 u3 W3 hall hJ hG
 have hb := hJ.all rfl
 have hbel := Below.call hbel hb
 have HC6 := oC (.int .i64 12) hG 0
 have hbel0 := hbel
 clear hJ hG hall hb
 go_wp2
 go_ret
 exact ⟨by rw [HC6.out]; rfl, hbel⟩
set_option maxHeartbeats 1000000 in
theorem ver_small {w : World} {v0 v1 v2 : Value} {pub sig l : List UInt8} {ls : List (List UInt8)} (hp : (IsB pub).P v0 w) (hsg : (IsB sig).P v1 w) (h1 : (IsR ls).P v2 w) (hl : ls.flatten = l) (hm : l.length ≤ 100000) {A : EP} (ka : decV pub = A) (kc : decC pub = 0) (km : decide (Cp.mul 8 A = Cp.zero) = true) :
  Calls Tryz.prog 15 #[v0, v1, v2] w fun e w' => e = .returned (.int .i64 12) ∧ Below w.heap.size w w' := by
 have _u1 := hsg; have _u2 := h1; have _u3 := hl; have _u4 := hm
 clear _u1 _u2 _u3 _u4 hsg h1 hl hm
 have KA := Lib.hid ka; clear ka
 have KC := Lib.hid kc; clear kc
 have KM := Lib.hid km; clear km
 go_enter Tryz.func15, Tryz.ntmps15
 have hbel : Below w.heap.size w w := Below.refl _ _
 have hbel0 := hbel
 go_upto_region 0 with fail
 refine rgT [(6, 0)] [.oth (fun v => v = .int .i64 0)] ?_ ?_
 ·intro hs
  refine ⟨?_, trivial⟩
  ·exact mvK hs fun _ => rfl
 intro L0 u0 W0 hall hJ hG
 have hb := hJ.all rfl
 have hbel := Below.call hbel hb
 have HC6 := oC (.int .i64 0) hG 0
 have hbel0 := hbel
 clear hJ hG hall hb
 go_upto_region 1 with fail
 refine rgT [(7, 5), (0, 7), (3, 2), (0, 0), (0, 1), (0, 3), (0, 4)] [.wld (IsB pub) (some 1), .oth (fun v => IsTV rP v [A] (.int .i64 0)), .oth (fun v => IsTV rP v [A] (.int .i64 0)), .val rP [A], .oth (fun v => v = .int .i64 0), .new 20, .st 5 rP [A], .oth (fun v => v = .int .i64 0)] ?_ ?_
 ·intro hs
  refine ⟨?_, ?_, ?_, ?_, ?_, ?_, ?_, ?_, trivial⟩
  ·exact step_runP hs Wn rfl fun L u W hJ hG hL hdep => run_moveP (.inl rfl) ((IsB pub).st _ _ _ hp (Below.call hbel (hJ.all rfl)))
  ·refine step_callO hs Wn rfl fun L u W hJ hG hL hdep K hK => ?_
   go_simp
   go_at_call 41
   (with_reducible refine (gDecode KA.out KC.out (holds_wld (φ := IsB pub) (hG 0 (hdep 0 (by kernel_rfl))) rfl (till_some hL))).mono ?_); rintro e w1 ⟨r, rfl, hr, hb⟩
   exact hK.out _ _ ⟨r, rfl, hr⟩ hb
  ·exact step_pureO hs Wn rfl fun L u W hG hdep => ⟨_, run_move rfl, (show IsTV rP (u 1) [A] (.int .i64 0) from hG 1 (hdep 1 (by kernel_rfl)))⟩
  ·exact step_pure hs Wn rfl fun L u W hG hdep => run_extractV0 rfl (show IsTV rP (u 2) [A] (.int .i64 0) from hG 2 (hdep 2 (by kernel_rfl)))
  ·exact step_pureO hs Wn rfl fun L u W hG hdep => run_extractV1 rfl (show IsTV rP (u 2) [A] (.int .i64 0) from hG 2 (hdep 2 (by kernel_rfl)))
  ·exact step_alloc hs Wn rfl rfl (by omega) rfl allocP
  ·exact step_store 5 hs (by kernel_rfl) Wn rfl rfl rfl (by kernel_rfl) (by kernel_rfl) (by kernel_rfl) (by kernel_rfl) (fun _ => rfl) (gO 3) tyP rfl
  ·exact mvO 4 hs
 intro L1 u1 W1 hall hJ hG
 obtain ⟨q7, e7, hq7, _, ht7⟩ := oN 20 hG 5
 have hm7 := oS rP [A] hG 6 e7
 have hq7 : w.heap.size ≤ q7 := by have := hbel0.size; omega
 have E7 := Lib.hid e7; clear e7
 have hb := hJ.all rfl
 have hbel := Below.call hbel hb
 have HC8 := oC (.int .i64 0) hG 7
 have hbel0 := hbel
 clear hJ hG hall hb
 go_upto_region 2 with fail
 refine rgT [(17, 0), (0, 1), (0, 2), (0, 3), (0, 4), (0, 5)] [.oth (fun v => v = .int .i64 0), .oth (fun v => v = .bool false), .oth (fun v => v = .bool false), .val rP [A], .oth (fun v => v = .bool true), .oth (fun v => v = .bool true)] ?_ ?_
 ·intro hs
  refine ⟨?_, ?_, ?_, ?_, ?_, ?_, trivial⟩
  ·exact mvK hs fun _ => HC8.out
  ·refine step_pureO hs Wn rfl fun L u W hG hdep => ⟨_, ?_, rfl⟩
   have e0 := (oE (.int .i64 0) hG hdep 0)
   go_simp
   try simp [bne]
  ·exact mvO 1 hs
  ·exact step_load q7 0 hs (wants_on 2 rfl rfl (by kernel_rfl) (fun _ => rfl)) rfl rfl tyP (fun _ => E7.out) hm7.lt hm7 Na
  ·refine step_callO hs (wants_on 2 rfl rfl (by kernel_rfl) (fun _ => rfl)) rfl fun L u W hJ hG hL hdep K hK => ?_
   have a0 := (vE rP [A] hG hdep 3)
   go_simp
   go_at_call 42
   (with_reducible refine (cPSmall (b := true) (KM.out) a0 _).mono ?_); rintro e w1 ⟨rfl, hb⟩
   exact hK.out _ _ rfl hb
  ·exact step_pick false hs Wn rfl rfl (fun L u W hG hdep => (oE (.bool false) hG hdep 2)) (fun L u W hG hdep => (oE (.bool true) hG hdep 4))
 intro L2 u2 W2 hall hJ hG
 have hb := hJ.all rfl
 have hbel := Below.call hbel hb
 have HC18 := oC (.bool false) hG 1
 have HC19 := oC (.bool false) hG 2
 have HC21 := oC (.bool true) hG 4
 have HC22 := oC (.bool true) hG 5
 have hbel0 := hbel
 clear hJ hG hall hb
 have hx : u2 5 = .bool true := HC22.out
 go_wp2_with fail
 rw [hx]
 clear hx
 go_upto_region 3 with fail
 refine rgT [(6, 0)] [.oth (fun v => v = .int .i64 12)] ?_ ?_
 ·intro hs
  refine ⟨?_, trivial⟩
  ·exact mvK hs fun _ => rfl
 intro L3 u3 W3 hall hJ hG
 have hb := hJ.all rfl
 have hbel := Below.call hbel hb
 have HC6 := oC (.int .i64 12) hG 0
 have hbel0 := hbel
 clear hJ hG hall hb
 go_wp2
 go_ret
 exact ⟨by rw [HC6.out]; rfl, hbel⟩
set_option maxHeartbeats 1000000 in
theorem ver_len {w : World} {v0 v1 v2 : Value} {pub sig l : List UInt8} {ls : List (List UInt8)} (hp : (IsB pub).P v0 w) (hsg : (IsB sig).P v1 w) (h1 : (IsR ls).P v2 w) (hl : ls.flatten = l) (hm : l.length ≤ 100000) {A : EP} (ka : decV pub = A) (kc : decC pub = 0) (km : decide (Cp.mul 8 A = Cp.zero) = false) {N : Nat} (kn : sig.length = N) (kx : (!((N : Int) == 64)) = true) :
  Calls Tryz.prog 15 #[v0, v1, v2] w fun e w' => e = .returned (.int .i64 3) ∧ Below w.heap.size w w' := by
 have _u2 := h1; have _u3 := hl; have _u4 := hm
 clear _u2 _u3 _u4 h1 hl hm
 have KA := Lib.hid ka; clear ka
 have KC := Lib.hid kc; clear kc
 have KM := Lib.hid km; clear km
 have KN := Lib.hid kn; clear kn
 have KX := Lib.hid kx; clear kx
 go_enter Tryz.func15, Tryz.ntmps15
 have hbel : Below w.heap.size w w := Below.refl _ _
 have hbel0 := hbel
 go_upto_region 0 with fail
 refine rgT [(6, 0)] [.oth (fun v => v = .int .i64 0)] ?_ ?_
 ·intro hs
  refine ⟨?_, trivial⟩
  ·exact mvK hs fun _ => rfl
 intro L0 u0 W0 hall hJ hG
 have hb := hJ.all rfl
 have hbel := Below.call hbel hb
 have HC6 := oC (.int .i64 0) hG 0
 have hbel0 := hbel
 clear hJ hG hall hb
 go_upto_region 1 with fail
 refine rgT [(7, 5), (0, 7), (3, 2), (0, 0), (0, 1), (0, 3), (0, 4)] [.wld (IsB pub) (some 1), .oth (fun v => IsTV rP v [A] (.int .i64 0)), .oth (fun v => IsTV rP v [A] (.int .i64 0)), .val rP [A], .oth (fun v => v = .int .i64 0), .new 20, .st 5 rP [A], .oth (fun v => v = .int .i64 0)] ?_ ?_
 ·intro hs
  refine ⟨?_, ?_, ?_, ?_, ?_, ?_, ?_, ?_, trivial⟩
  ·exact step_runP hs Wn rfl fun L u W hJ hG hL hdep => run_moveP (.inl rfl) ((IsB pub).st _ _ _ hp (Below.call hbel (hJ.all rfl)))
  ·refine step_callO hs Wn rfl fun L u W hJ hG hL hdep K hK => ?_
   go_simp
   go_at_call 41
   (with_reducible refine (gDecode KA.out KC.out (holds_wld (φ := IsB pub) (hG 0 (hdep 0 (by kernel_rfl))) rfl (till_some hL))).mono ?_); rintro e w1 ⟨r, rfl, hr, hb⟩
   exact hK.out _ _ ⟨r, rfl, hr⟩ hb
  ·exact step_pureO hs Wn rfl fun L u W hG hdep => ⟨_, run_move rfl, (show IsTV rP (u 1) [A] (.int .i64 0) from hG 1 (hdep 1 (by kernel_rfl)))⟩
  ·exact step_pure hs Wn rfl fun L u W hG hdep => run_extractV0 rfl (show IsTV rP (u 2) [A] (.int .i64 0) from hG 2 (hdep 2 (by kernel_rfl)))
  ·exact step_pureO hs Wn rfl fun L u W hG hdep => run_extractV1 rfl (show IsTV rP (u 2) [A] (.int .i64 0) from hG 2 (hdep 2 (by kernel_rfl)))
  ·exact step_alloc hs Wn rfl rfl (by omega) rfl allocP
  ·exact step_store 5 hs (by kernel_rfl) Wn rfl rfl rfl (by kernel_rfl) (by kernel_rfl) (by kernel_rfl) (by kernel_rfl) (fun _ => rfl) (gO 3) tyP rfl
  ·exact mvO 4 hs
 intro L1 u1 W1 hall hJ hG
 obtain ⟨q7, e7, hq7, _, ht7⟩ := oN 20 hG 5
 have hm7 := oS rP [A] hG 6 e7
 have hq7 : w.heap.size ≤ q7 := by have := hbel0.size; omega
 have E7 := Lib.hid e7; clear e7
 have hb := hJ.all rfl
 have hbel := Below.call hbel hb
 have HC8 := oC (.int .i64 0) hG 7
 have hbel0 := hbel
 clear hJ hG hall hb
 go_upto_region 2 with fail
 refine rgT [(17, 0), (0, 1), (0, 2), (0, 3), (0, 4), (0, 5)] [.oth (fun v => v = .int .i64 0), .oth (fun v => v = .bool false), .oth (fun v => v = .bool false), .val rP [A], .oth (fun v => v = .bool false), .oth (fun v => v = .bool false)] ?_ ?_
 ·intro hs
  refine ⟨?_, ?_, ?_, ?_, ?_, ?_, trivial⟩
  ·exact mvK hs fun _ => HC8.out
  ·refine step_pureO hs Wn rfl fun L u W hG hdep => ⟨_, ?_, rfl⟩
   have e0 := (oE (.int .i64 0) hG hdep 0)
   go_simp
   try simp [bne]
  ·exact mvO 1 hs
  ·exact step_load q7 0 hs (wants_on 2 rfl rfl (by kernel_rfl) (fun _ => rfl)) rfl rfl tyP (fun _ => E7.out) hm7.lt hm7 Na
  ·refine step_callO hs (wants_on 2 rfl rfl (by kernel_rfl) (fun _ => rfl)) rfl fun L u W hJ hG hL hdep K hK => ?_
   have a0 := (vE rP [A] hG hdep 3)
   go_simp
   go_at_call 42
   (with_reducible refine (cPSmall (b := false) (KM.out) a0 _).mono ?_); rintro e w1 ⟨rfl, hb⟩
   exact hK.out _ _ rfl hb
  ·exact step_pick false hs Wn rfl rfl (fun L u W hG hdep => (oE (.bool false) hG hdep 2)) (fun L u W hG hdep => (oE (.bool false) hG hdep 4))
 intro L2 u2 W2 hall hJ hG
 have hb := hJ.all rfl
 have hbel := Below.call hbel hb
 have HC18 := oC (.bool false) hG 1
 have HC19 := oC (.bool false) hG 2
 have HC21 := oC (.bool false) hG 4
 have HC22 := oC (.bool false) hG 5
 have hbel0 := hbel
 clear hJ hG hall hb
 have hx : u2 5 = .bool false := HC22.out
 go_wp2_with fail
 rw [hx]
 clear hx
 go_upto_region 4 with fail
 refine rgT [(23, 0), (0, 1), (0, 2)] [.wld (IsB sig) none, .oth (fun v => v = .int .i64 (N : Int)), .oth (fun v => v = .bool true)] ?_ ?_
 ·intro hs
  refine ⟨?_, ?_, ?_, trivial⟩
  ·exact step_runP hs Wn rfl fun L u W hJ hG hL hdep => run_moveP (.inl rfl) ((IsB sig).st _ _ _ hsg (Below.call hbel (hJ.all rfl)))
  ·exact step_runO hs Wn rfl fun L u W hJ hG hL hdep => run_lenP rfl (hW (IsB sig) hG hdep 0) (by rw [KN.out])
  ·refine step_pureO hs Wn rfl fun L u W hG hdep => ⟨_, ?_, rfl⟩
   have e0 := (oE (.int .i64 (N : Int)) hG hdep 1)
   have e9 := KX.out
   go_simp
   try exact e9
   try simpa using e9
 intro L4 u4 W4 hall hJ hG
 have hb := hJ.all rfl
 have hbel := Below.call hbel hb
 have HC25 := oC (.bool true) hG 2
 have hbel0 := hbel
 clear hJ hG hall hb
 have hx : u4 2 = .bool true := HC25.out
 go_wp2_with fail
 rw [hx]
 clear hx
 go_upto_region 5 with fail
 refine rgT [(6, 0)] [.oth (fun v => v = .int .i64 3)] ?_ ?_
 ·intro hs
  refine ⟨?_, trivial⟩
  ·exact mvK hs fun _ => rfl
 intro L5 u5 W5 hall hJ hG
 have hb := hJ.all rfl
 have hbel := Below.call hbel hb
 have HC6 := oC (.int .i64 3) hG 0
 have hbel0 := hbel
 clear hJ hG hall hb
 go_wp2
 go_ret
 exact ⟨by rw [HC6.out]; rfl, hbel⟩
set_option maxHeartbeats 1000000 in
theorem ver_R {w : World} {v0 v1 v2 : Value} {pub sig l : List UInt8} {ls : List (List UInt8)} (hp : (IsB pub).P v0 w) (hsg : (IsB sig).P v1 w) (h1 : (IsR ls).P v2 w) (hl : ls.flatten = l) (hm : l.length ≤ 100000) {A : EP} (ka : decV pub = A) (kc : decC pub = 0) (km : decide (Cp.mul 8 A = Cp.zero) = false) (kn : sig.length = 64) {Rp : EP} (kr : decV (sig.take 32) = Rp) (krc : decC (sig.take 32) = 12) :
  Calls Tryz.prog 15 #[v0, v1, v2] w fun e w' => e = .returned (.int .i64 3) ∧ Below w.heap.size w w' := by
 have _u2 := h1; have _u3 := hl; have _u4 := hm
 clear _u2 _u3 _u4 h1 hl hm
 have KA := Lib.hid ka; clear ka
 have KC := Lib.hid kc; clear kc
 have KM := Lib.hid km; clear km
 have KN := Lib.hid kn; clear kn
 have KR := Lib.hid kr; clear kr
 have KRC := Lib.hid krc; clear krc
 go_enter Tryz.func15, Tryz.ntmps15
 have hbel : Below w.heap.size w w := Below.refl _ _
 have hbel0 := hbel
 go_upto_region 0 with fail
 refine rgT [(6, 0)] [.oth (fun v => v = .int .i64 0)] ?_ ?_
 ·intro hs
  refine ⟨?_, trivial⟩
  ·exact mvK hs fun _ => rfl
 intro L0 u0 W0 hall hJ hG
 have hb := hJ.all rfl
 have hbel := Below.call hbel hb
 have HC6 := oC (.int .i64 0) hG 0
 have hbel0 := hbel
 clear hJ hG hall hb
 go_upto_region 1 with fail
 refine rgT [(7, 5), (0, 7), (3, 2), (0, 0), (0, 1), (0, 3), (0, 4)] [.wld (IsB pub) (some 1), .oth (fun v => IsTV rP v [A] (.int .i64 0)), .oth (fun v => IsTV rP v [A] (.int .i64 0)), .val rP [A], .oth (fun v => v = .int .i64 0), .new 20, .st 5 rP [A], .oth (fun v => v = .int .i64 0)] ?_ ?_
 ·intro hs
  refine ⟨?_, ?_, ?_, ?_, ?_, ?_, ?_, ?_, trivial⟩
  ·exact step_runP hs Wn rfl fun L u W hJ hG hL hdep => run_moveP (.inl rfl) ((IsB pub).st _ _ _ hp (Below.call hbel (hJ.all rfl)))
  ·refine step_callO hs Wn rfl fun L u W hJ hG hL hdep K hK => ?_
   go_simp
   go_at_call 41
   (with_reducible refine (gDecode KA.out KC.out (holds_wld (φ := IsB pub) (hG 0 (hdep 0 (by kernel_rfl))) rfl (till_some hL))).mono ?_); rintro e w1 ⟨r, rfl, hr, hb⟩
   exact hK.out _ _ ⟨r, rfl, hr⟩ hb
  ·exact step_pureO hs Wn rfl fun L u W hG hdep => ⟨_, run_move rfl, (show IsTV rP (u 1) [A] (.int .i64 0) from hG 1 (hdep 1 (by kernel_rfl)))⟩
  ·exact step_pure hs Wn rfl fun L u W hG hdep => run_extractV0 rfl (show IsTV rP (u 2) [A] (.int .i64 0) from hG 2 (hdep 2 (by kernel_rfl)))
  ·exact step_pureO hs Wn rfl fun L u W hG hdep => run_extractV1 rfl (show IsTV rP (u 2) [A] (.int .i64 0) from hG 2 (hdep 2 (by kernel_rfl)))
  ·exact step_alloc hs Wn rfl rfl (by omega) rfl allocP
  ·exact step_store 5 hs (by kernel_rfl) Wn rfl rfl rfl (by kernel_rfl) (by kernel_rfl) (by kernel_rfl) (by kernel_rfl) (fun _ => rfl) (gO 3) tyP rfl
  ·exact mvO 4 hs
 intro L1 u1 W1 hall hJ hG
 obtain ⟨q7, e7, hq7, _, ht7⟩ := oN 20 hG 5
 have hm7 := oS rP [A] hG 6 e7
 have hq7 : w.heap.size ≤ q7 := by have := hbel0.size; omega
 have E7 := Lib.hid e7; clear e7
 have hb := hJ.all rfl
 have hbel := Below.call hbel hb
 have HC8 := oC (.int .i64 0) hG 7
 have hbel0 := hbel
 clear hJ hG hall hb
 go_upto_region 2 with fail
 refine rgT [(17, 0), (0, 1), (0, 2), (0, 3), (0, 4), (0, 5)] [.oth (fun v => v = .int .i64 0), .oth (fun v => v = .bool false), .oth (fun v => v = .bool false), .val rP [A], .oth (fun v => v = .bool false), .oth (fun v => v = .bool false)] ?_ ?_
 ·intro hs
  refine ⟨?_, ?_, ?_, ?_, ?_, ?_, trivial⟩
  ·exact mvK hs fun _ => HC8.out
  ·refine step_pureO hs Wn rfl fun L u W hG hdep => ⟨_, ?_, rfl⟩
   have e0 := (oE (.int .i64 0) hG hdep 0)
   go_simp
   try simp [bne]
  ·exact mvO 1 hs
  ·exact step_load q7 0 hs (wants_on 2 rfl rfl (by kernel_rfl) (fun _ => rfl)) rfl rfl tyP (fun _ => E7.out) hm7.lt hm7 Na
  ·refine step_callO hs (wants_on 2 rfl rfl (by kernel_rfl) (fun _ => rfl)) rfl fun L u W hJ hG hL hdep K hK => ?_
   have a0 := (vE rP [A] hG hdep 3)
   go_simp
   go_at_call 42
   (with_reducible refine (cPSmall (b := false) (KM.out) a0 _).mono ?_); rintro e w1 ⟨rfl, hb⟩
   exact hK.out _ _ rfl hb
  ·exact step_pick false hs Wn rfl rfl (fun L u W hG hdep => (oE (.bool false) hG hdep 2)) (fun L u W hG hdep => (oE (.bool false) hG hdep 4))
 intro L2 u2 W2 hall hJ hG
 have hb := hJ.all rfl
 have hbel := Below.call hbel hb
 have ht7 := there_later ht7 hb
 have HC18 := oC (.bool false) hG 1
 have HC19 := oC (.bool false) hG 2
 have HC21 := oC (.bool false) hG 4
 have HC22 := oC (.bool false) hG 5
 have hbel0 := hbel
 clear hJ hG hall hb
 have hx : u2 5 = .bool false := HC22.out
 go_wp2_with fail
 rw [hx]
 clear hx
 go_upto_region 4 with fail
 refine rgT [(23, 0), (0, 1), (0, 2)] [.wld (IsB sig) none, .oth (fun v => v = .int .i64 64), .oth (fun v => v = .bool false)] ?_ ?_
 ·intro hs
  refine ⟨?_, ?_, ?_, trivial⟩
  ·exact step_runP hs Wn rfl fun L u W hJ hG hL hdep => run_moveP (.inl rfl) ((IsB sig).st _ _ _ hsg (Below.call hbel (hJ.all rfl)))
  ·exact step_runO hs Wn rfl fun L u W hJ hG hL hdep => run_lenP rfl (hW (IsB sig) hG hdep 0) (by rw [KN.out]; rfl)
  ·refine step_pureO hs Wn rfl fun L u W hG hdep => ⟨_, ?_, rfl⟩
   have e0 := (oE (.int .i64 64) hG hdep 1)
   go_simp
   try simp [bne]
 intro L4 u4 W4 hall hJ hG
 have hb := hJ.all rfl
 have hbel := Below.call hbel hb
 have ht7 := there_later ht7 hb
 have HC25 := oC (.bool false) hG 2
 have hbel0 := hbel
 clear hJ hG hall hb
 have hx : u4 2 = .bool false := HC25.out
 go_wp2_with fail
 rw [hx]
 clear hx
 go_upto_region 6 with fail
 refine rgT [(8, 8), (0, 6), (16, 3), (0, 0), (0, 1), (0, 2), (0, 4), (0, 5)] [.wld (IsB sig) (some 1), .wld (IsB (sig.take 32)) (some 2), .oth (fun v => IsTV rP v [Rp] (.int .i64 12)), .oth (fun v => IsTV rP v [Rp] (.int .i64 12)), .val rP [Rp], .oth (fun v => v = .int .i64 12), .new 20, .st 6 rP [Rp], .oth (fun v => v = .int .i64 12)] ?_ ?_
 ·intro hs
  refine ⟨?_, ?_, ?_, ?_, ?_, ?_, ?_, ?_, ?_, trivial⟩
  ·exact step_runP hs Wn rfl fun L u W hJ hG hL hdep => run_moveP (.inl rfl) ((IsB sig).st _ _ _ hsg (Below.call hbel (hJ.all rfl)))
  ·exact step_runP hs Wn rfl fun L u W hJ hG hL hdep => run_toP (k := 32) rfl rfl (hV (IsB sig) hG hdep hL 0) (by rw [KN.out]; omega)
  ·refine step_callO hs Wn rfl fun L u W hJ hG hL hdep K hK => ?_
   go_simp
   go_at_call 41
   (with_reducible refine (gDecode KR.out KRC.out (holds_wld (φ := IsB (sig.take 32)) (hG 1 (hdep 1 (by kernel_rfl))) rfl (till_some hL))).mono ?_); rintro e w1 ⟨r, rfl, hr, hb⟩
   exact hK.out _ _ ⟨r, rfl, hr⟩ hb
  ·exact step_pureO hs Wn rfl fun L u W hG hdep => ⟨_, run_move rfl, (show IsTV rP (u 2) [Rp] (.int .i64 12) from hG 2 (hdep 2 (by kernel_rfl)))⟩
  ·exact step_pure hs Wn rfl fun L u W hG hdep => run_extractV0 rfl (show IsTV rP (u 3) [Rp] (.int .i64 12) from hG 3 (hdep 3 (by kernel_rfl)))
  ·exact step_pureO hs Wn rfl fun L u W hG hdep => run_extractV1 rfl (show IsTV rP (u 3) [Rp] (.int .i64 12) from hG 3 (hdep 3 (by kernel_rfl)))
  ·exact step_alloc hs Wn rfl rfl (by omega) rfl allocP
  ·exact step_store 6 hs (by kernel_rfl) Wn rfl rfl rfl (by kernel_rfl) (by kernel_rfl) (by kernel_rfl) (by kernel_rfl) (fun _ => rfl) (gO 4) tyP rfl
  ·exact mvO 5 hs
 intro L6 u6 W6 hall hJ hG
 obtain ⟨q9, e9, hq9, _, ht9⟩ := oN 20 hG 6
 have hm9 := oS rP [Rp] hG 7 e9
 have HD9_q7 := Lib.hid (show q7 ≠ q9 by have := there_lt ht7 (by omega); omega)
 have hq9 : w.heap.size ≤ q9 := by have := hbel0.size; omega
 have E9 := Lib.hid e9; clear e9
 have hb := hJ.all rfl
 have hbel := Below.call hbel hb
 have HC8 := oC (.int .i64 12) hG 8
 have hbel0 := hbel
 clear hJ hG hall hb
 go_upto_region 7 with fail
 refine rgT [(32, 0), (0, 1)] [.oth (fun v => v = .int .i64 12), .oth (fun v => v = .bool true)] ?_ ?_
 ·intro hs
  refine ⟨?_, ?_, trivial⟩
  ·exact mvK hs fun _ => HC8.out
  ·refine step_pureO hs Wn rfl fun L u W hG hdep => ⟨_, ?_, rfl⟩
   have e0 := (oE (.int .i64 12) hG hdep 0)
   go_simp
   try simp [bne]
 intro L7 u7 W7 hall hJ hG
 have hb := hJ.all rfl
 have hbel := Below.call hbel hb
 have HC33 := oC (.bool true) hG 1
 have hbel0 := hbel
 clear hJ hG hall hb
 have hx : u7 1 = .bool true := HC33.out
 go_wp2_with fail
 rw [hx]
 clear hx
 go_upto_region 8 with fail
 refine rgT [(6, 0)] [.oth (fun v => v = .int .i64 3)] ?_ ?_
 ·intro hs
  refine ⟨?_, trivial⟩
  ·exact mvK hs fun _ => rfl
 intro L8 u8 W8 hall hJ hG
 have hb := hJ.all rfl
 have hbel := Below.call hbel hb
 have HC6 := oC (.int .i64 3) hG 0
 have hbel0 := hbel
 clear hJ hG hall hb
 go_wp2
 go_ret
 exact ⟨by rw [HC6.out]; rfl, hbel⟩
set_option maxHeartbeats 1000000 in
theorem ver_S {w : World} {v0 v1 v2 : Value} {pub sig l : List UInt8} {ls : List (List UInt8)} (hp : (IsB pub).P v0 w) (hsg : (IsB sig).P v1 w) (h1 : (IsR ls).P v2 w) (hl : ls.flatten = l) (hm : l.length ≤ 100000) {A : EP} (ka : decV pub = A) (kc : decC pub = 0) (km : decide (Cp.mul 8 A = Cp.zero) = false) (kn : sig.length = 64) {Rp : EP} (kr : decV (sig.take 32) = Rp) (krc : decC (sig.take 32) = 0) {s : F} (ks : ssV (sig.drop 32) = s) (ksc : ssC (sig.drop 32) = 2) :
  Calls Tryz.prog 15 #[v0, v1, v2] w fun e w' => e = .returned (.int .i64 3) ∧ Below w.heap.size w w' := by
 have _u2 := h1; have _u3 := hl; have _u4 := hm
 clear _u2 _u3 _u4 h1 hl hm
 have KA := Lib.hid ka; clear ka
 have KC := Lib.hid kc; clear kc
 have KM := Lib.hid km; clear km
 have KN := Lib.hid kn; clear kn
 have KR := Lib.hid kr; clear kr
 have KRC := Lib.hid krc; clear krc
 have KS := Lib.hid ks; clear ks
 have KSC := Lib.hid ksc; clear ksc
 go_enter Tryz.func15, Tryz.ntmps15
 have hbel : Below w.heap.size w w := Below.refl _ _
 have hbel0 := hbel
 go_upto_region 0 with fail
 refine rgT [(6, 0)] [.oth (fun v => v = .int .i64 0)] ?_ ?_
 ·intro hs
  refine ⟨?_, trivial⟩
  ·exact mvK hs fun _ => rfl
 intro L0 u0 W0 hall hJ hG
 have hb := hJ.all rfl
 have hbel := Below.call hbel hb
 have HC6 := oC (.int .i64 0) hG 0
 have hbel0 := hbel
 clear hJ hG hall hb
 go_upto_region 1 with fail
 refine rgT [(7, 5), (0, 7), (3, 2), (0, 0), (0, 1), (0, 3), (0, 4)] [.wld (IsB pub) (some 1), .oth (fun v => IsTV rP v [A] (.int .i64 0)), .oth (fun v => IsTV rP v [A] (.int .i64 0)), .val rP [A], .oth (fun v => v = .int .i64 0), .new 20, .st 5 rP [A], .oth (fun v => v = .int .i64 0)] ?_ ?_
 ·intro hs
  refine ⟨?_, ?_, ?_, ?_, ?_, ?_, ?_, ?_, trivial⟩
  ·exact step_runP hs Wn rfl fun L u W hJ hG hL hdep => run_moveP (.inl rfl) ((IsB pub).st _ _ _ hp (Below.call hbel (hJ.all rfl)))
  ·refine step_callO hs Wn rfl fun L u W hJ hG hL hdep K hK => ?_
   go_simp
   go_at_call 41
   (with_reducible refine (gDecode KA.out KC.out (holds_wld (φ := IsB pub) (hG 0 (hdep 0 (by kernel_rfl))) rfl (till_some hL))).mono ?_); rintro e w1 ⟨r, rfl, hr, hb⟩
   exact hK.out _ _ ⟨r, rfl, hr⟩ hb
  ·exact step_pureO hs Wn rfl fun L u W hG hdep => ⟨_, run_move rfl, (show IsTV rP (u 1) [A] (.int .i64 0) from hG 1 (hdep 1 (by kernel_rfl)))⟩
  ·exact step_pure hs Wn rfl fun L u W hG hdep => run_extractV0 rfl (show IsTV rP (u 2) [A] (.int .i64 0) from hG 2 (hdep 2 (by kernel_rfl)))
  ·exact step_pureO hs Wn rfl fun L u W hG hdep => run_extractV1 rfl (show IsTV rP (u 2) [A] (.int .i64 0) from hG 2 (hdep 2 (by kernel_rfl)))
  ·exact step_alloc hs Wn rfl rfl (by omega) rfl allocP
  ·exact step_store 5 hs (by kernel_rfl) Wn rfl rfl rfl (by kernel_rfl) (by kernel_rfl) (by kernel_rfl) (by kernel_rfl) (fun _ => rfl) (gO 3) tyP rfl
  ·exact mvO 4 hs
 intro L1 u1 W1 hall hJ hG
 obtain ⟨q7, e7, hq7, _, ht7⟩ := oN 20 hG 5
 have hm7 := oS rP [A] hG 6 e7
 have hq7 : w.heap.size ≤ q7 := by have := hbel0.size; omega
 have E7 := Lib.hid e7; clear e7
 have hb := hJ.all rfl
 have hbel := Below.call hbel hb
 have HC8 := oC (.int .i64 0) hG 7
 have hbel0 := hbel
 clear hJ hG hall hb
 go_upto_region 2 with fail
 refine rgT [(17, 0), (0, 1), (0, 2), (0, 3), (0, 4), (0, 5)] [.oth (fun v => v = .int .i64 0), .oth (fun v => v = .bool false), .oth (fun v => v = .bool false), .val rP [A], .oth (fun v => v = .bool false), .oth (fun v => v = .bool false)] ?_ ?_
 ·intro hs
  refine ⟨?_, ?_, ?_, ?_, ?_, ?_, trivial⟩
  ·exact mvK hs fun _ => HC8.out
  ·refine step_pureO hs Wn rfl fun L u W hG hdep => ⟨_, ?_, rfl⟩
   have e0 := (oE (.int .i64 0) hG hdep 0)
   go_simp
   try simp [bne]
  ·exact mvO 1 hs
  ·exact step_load q7 0 hs (wants_on 2 rfl rfl (by kernel_rfl) (fun _ => rfl)) rfl rfl tyP (fun _ => E7.out) hm7.lt hm7 Na
  ·refine step_callO hs (wants_on 2 rfl rfl (by kernel_rfl) (fun _ => rfl)) rfl fun L u W hJ hG hL hdep K hK => ?_
   have a0 := (vE rP [A] hG hdep 3)
   go_simp
   go_at_call 42
   (with_reducible refine (cPSmall (b := false) (KM.out) a0 _).mono ?_); rintro e w1 ⟨rfl, hb⟩
   exact hK.out _ _ rfl hb
  ·exact step_pick false hs Wn rfl rfl (fun L u W hG hdep => (oE (.bool false) hG hdep 2)) (fun L u W hG hdep => (oE (.bool false) hG hdep 4))
 intro L2 u2 W2 hall hJ hG
 have hb := hJ.all rfl
 have hbel := Below.call hbel hb
 have ht7 := there_later ht7 hb
 have HC18 := oC (.bool false) hG 1
 have HC19 := oC (.bool false) hG 2
 have HC21 := oC (.bool false) hG 4
 have HC22 := oC (.bool false) hG 5
 have hbel0 := hbel
 clear hJ hG hall hb
 have hx : u2 5 = .bool false := HC22.out
 go_wp2_with fail
 rw [hx]
 clear hx
 go_upto_region 4 with fail
 refine rgT [(23, 0), (0, 1), (0, 2)] [.wld (IsB sig) none, .oth (fun v => v = .int .i64 64), .oth (fun v => v = .bool false)] ?_ ?_
 ·intro hs
  refine ⟨?_, ?_, ?_, trivial⟩
  ·exact step_runP hs Wn rfl fun L u W hJ hG hL hdep => run_moveP (.inl rfl) ((IsB sig).st _ _ _ hsg (Below.call hbel (hJ.all rfl)))
  ·exact step_runO hs Wn rfl fun L u W hJ hG hL hdep => run_lenP rfl (hW (IsB sig) hG hdep 0) (by rw [KN.out]; rfl)
  ·refine step_pureO hs Wn rfl fun L u W hG hdep => ⟨_, ?_, rfl⟩
   have e0 := (oE (.int .i64 64) hG hdep 1)
   go_simp
   try simp [bne]
 intro L4 u4 W4 hall hJ hG
 have hb := hJ.all rfl
 have hbel := Below.call hbel hb
 have ht7 := there_later ht7 hb
 have HC25 := oC (.bool false) hG 2
 have hbel0 := hbel
 clear hJ hG hall hb
 have hx : u4 2 = .bool false := HC25.out
 go_wp2_with fail
 rw [hx]
 clear hx
 go_upto_region 6 with fail
 refine rgT [(8, 8), (0, 6), (16, 3), (0, 0), (0, 1), (0, 2), (0, 4), (0, 5)] [.wld (IsB sig) (some 1), .wld (IsB (sig.take 32)) (some 2), .oth (fun v => IsTV rP v [Rp] (.int .i64 0)), .oth (fun v => IsTV rP v [Rp] (.int .i64 0)), .val rP [Rp], .oth (fun v => v = .int .i64 0), .new 20, .st 6 rP [Rp], .oth (fun v => v = .int .i64 0)] ?_ ?_
 ·intro hs
  refine ⟨?_, ?_, ?_, ?_, ?_, ?_, ?_, ?_, ?_, trivial⟩
  ·exact step_runP hs Wn rfl fun L u W hJ hG hL hdep => run_moveP (.inl rfl) ((IsB sig).st _ _ _ hsg (Below.call hbel (hJ.all rfl)))
  ·exact step_runP hs Wn rfl fun L u W hJ hG hL hdep => run_toP (k := 32) rfl rfl (hV (IsB sig) hG hdep hL 0) (by rw [KN.out]; omega)
  ·refine step_callO hs Wn rfl fun L u W hJ hG hL hdep K hK => ?_
   go_simp
   go_at_call 41
   (with_reducible refine (gDecode KR.out KRC.out (holds_wld (φ := IsB (sig.take 32)) (hG 1 (hdep 1 (by kernel_rfl))) rfl (till_some hL))).mono ?_); rintro e w1 ⟨r, rfl, hr, hb⟩
   exact hK.out _ _ ⟨r, rfl, hr⟩ hb
  ·exact step_pureO hs Wn rfl fun L u W hG hdep => ⟨_, run_move rfl, (show IsTV rP (u 2) [Rp] (.int .i64 0) from hG 2 (hdep 2 (by kernel_rfl)))⟩
  ·exact step_pure hs Wn rfl fun L u W hG hdep => run_extractV0 rfl (show IsTV rP (u 3) [Rp] (.int .i64 0) from hG 3 (hdep 3 (by kernel_rfl)))
  ·exact step_pureO hs Wn rfl fun L u W hG hdep => run_extractV1 rfl (show IsTV rP (u 3) [Rp] (.int .i64 0) from hG 3 (hdep 3 (by kernel_rfl)))
  ·exact step_alloc hs Wn rfl rfl (by omega) rfl allocP
  ·exact step_store 6 hs (by kernel_rfl) Wn rfl rfl rfl (by kernel_rfl) (by kernel_rfl) (by kernel_rfl) (by kernel_rfl) (fun _ => rfl) (gO 4) tyP rfl
  ·exact mvO 5 hs
 intro L6 u6 W6 hall hJ hG
 obtain ⟨q9, e9, hq9, _, ht9⟩ := oN 20 hG 6
 have hm9 := oS rP [Rp] hG 7 e9
 have HD9_q7 := Lib.hid (show q7 ≠ q9 by have := there_lt ht7 (by omega); omega)
 have hq9 : w.heap.size ≤ q9 := by have := hbel0.size; omega
 have E9 := Lib.hid e9; clear e9
 have hb := hJ.all rfl
 have hbel := Below.call hbel hb
 have ht7 := there_later ht7 hb
 have HC8 := oC (.int .i64 0) hG 8
 have hbel0 := hbel
 clear hJ hG hall hb
 go_upto_region 7 with fail
 refine rgT [(32, 0), (0, 1)] [.oth (fun v => v = .int .i64 0), .oth (fun v => v = .bool false)] ?_ ?_
 ·intro hs
  refine ⟨?_, ?_, trivial⟩
  ·exact mvK hs fun _ => HC8.out
  ·refine step_pureO hs Wn rfl fun L u W hG hdep => ⟨_, ?_, rfl⟩
   have e0 := (oE (.int .i64 0) hG hdep 0)
   go_simp
   try simp [bne]
 intro L7 u7 W7 hall hJ hG
 have hb := hJ.all rfl
 have hbel := Below.call hbel hb
 have ht7 := there_later ht7 hb
 have ht9 := there_later ht9 hb
 have HC33 := oC (.bool false) hG 1
 have hbel0 := hbel
 clear hJ hG hall hb
 have hx : u7 1 = .bool false := HC33.out
 go_wp2_with fail
 rw [hx]
 clear hx
 go_upto_region 9 with fail
 refine rgT [(8, 8), (1, 6), (23, 3), (0, 0), (0, 1), (0, 2), (0, 4), (0, 5)] [.wld (IsB sig) (some 1), .wld (IsB (sig.drop 32)) (some 2), .oth (fun v => IsTV rS v [s] (.int .i64 2)), .oth (fun v => IsTV rS v [s] (.int .i64 2)), .val rS [s], .oth (fun v => v = .int .i64 2), .new 4, .st 6 rS [s], .oth (fun v => v = .int .i64 2)] ?_ ?_
 ·intro hs
  refine ⟨?_, ?_, ?_, ?_, ?_, ?_, ?_, ?_, ?_, trivial⟩
  ·exact step_runP hs Wn rfl fun L u W hJ hG hL hdep => run_moveP (.inl rfl) ((IsB sig).st _ _ _ hsg (Below.call hbel (hJ.all rfl)))
  ·exact step_runP hs Wn rfl fun L u W hJ hG hL hdep => run_fromP (k := 32) rfl rfl (hV (IsB sig) hG hdep hL 0) (by rw [KN.out]; omega)
  ·refine step_callO hs Wn rfl fun L u W hJ hG hL hdep K hK => ?_
   go_simp
   go_at_call 43
   (with_reducible refine (gStrict KS.out KSC.out (holds_wld (φ := IsB (sig.drop 32)) (hG 1 (hdep 1 (by kernel_rfl))) rfl (till_some hL))).mono ?_); rintro e w1 ⟨r, rfl, hr, hb⟩
   exact hK.out _ _ ⟨r, rfl, hr⟩ hb
  ·exact step_pureO hs Wn rfl fun L u W hG hdep => ⟨_, run_move rfl, (show IsTV rS (u 2) [s] (.int .i64 2) from hG 2 (hdep 2 (by kernel_rfl)))⟩
  ·exact step_pure hs Wn rfl fun L u W hG hdep => run_extractV0 rfl (show IsTV rS (u 3) [s] (.int .i64 2) from hG 3 (hdep 3 (by kernel_rfl)))
  ·exact step_pureO hs Wn rfl fun L u W hG hdep => run_extractV1 rfl (show IsTV rS (u 3) [s] (.int .i64 2) from hG 3 (hdep 3 (by kernel_rfl)))
  ·exact step_alloc hs Wn rfl rfl (by omega) rfl allocS
  ·exact step_store 6 hs (by kernel_rfl) Wn rfl rfl rfl (by kernel_rfl) (by kernel_rfl) (by kernel_rfl) (by kernel_rfl) (fun _ => rfl) (gO 4) tyS rfl
  ·exact mvO 5 hs
 intro L9 u9 W9 hall hJ hG
 obtain ⟨q10, e10, hq10, _, ht10⟩ := oN 4 hG 6
 have hm10 := oS rS [s] hG 7 e10
 have HD10_q7 := Lib.hid (show q7 ≠ q10 by have := there_lt ht7 (by omega); omega)
 have HD10_q9 := Lib.hid (show q9 ≠ q10 by have := there_lt ht9 (by omega); omega)
 have hq10 : w.heap.size ≤ q10 := by have := hbel0.size; omega
 have E10 := Lib.hid e10; clear e10
 have hb := hJ.all rfl
 have hbel := Below.call hbel hb
 have HC8 := oC (.int .i64 2) hG 8
 have hbel0 := hbel
 clear hJ hG hall hb
 go_upto_region 10 with fail
 refine rgT [(40, 0), (0, 1)] [.oth (fun v => v = .int .i64 2), .oth (fun v => v = .bool true)] ?_ ?_
 ·intro hs
  refine ⟨?_, ?_, trivial⟩
  ·exact mvK hs fun _ => HC8.out
  ·refine step_pureO hs Wn rfl fun L u W hG hdep => ⟨_, ?_, rfl⟩
   have e0 := (oE (.int .i64 2) hG hdep 0)
   go_simp
   try simp [bne]
 intro L10 u10 W10 hall hJ hG
 have hb := hJ.all rfl
 have hbel := Below.call hbel hb
 have HC41 := oC (.bool true) hG 1
 have hbel0 := hbel
 clear hJ hG hall hb
 have hx : u10 1 = .bool true := HC41.out
 go_wp2_with fail
 rw [hx]
 clear hx
 go_upto_region 11 with fail
 refine rgT [(6, 0)] [.oth (fun v => v = .int .i64 3)] ?_ ?_
 ·intro hs
  refine ⟨?_, trivial⟩
  ·exact mvK hs fun _ => rfl
 intro L11 u11 W11 hall hJ hG
 have hb := hJ.all rfl
 have hbel := Below.call hbel hb
 have HC6 := oC (.int .i64 3) hG 0
 have hbel0 := hbel
 clear hJ hG hall hb
 go_wp2
 go_ret
 exact ⟨by rw [HC6.out]; rfl, hbel⟩
set_option maxHeartbeats 1000000 in
theorem ver_true {w : World} {v0 v1 v2 : Value} {pub sig l : List UInt8} {ls : List (List UInt8)} (hp : (IsB pub).P v0 w) (hsg : (IsB sig).P v1 w) (h1 : (IsR ls).P v2 w) (hl : ls.flatten = l) (hm : l.length ≤ 100000) {A : EP} (ka : decV pub = A) (kc : decC pub = 0) (km : decide (Cp.mul 8 A = Cp.zero) = false) (kn : sig.length = 64) {Rp : EP} (kr : decV (sig.take 32) = Rp) (krc : decC (sig.take 32) = 0) {s : F} (ks : ssV (sig.drop 32) = s) (ksc : ssC (sig.drop 32) = 0) (kl : pub.length = 32) (kb : decide (Cp.mul s.val base = Cp.add Rp (Cp.mul (wS (sha512 (sig.take 32 ++ (pub ++ l)))).val A)) = true) :
  Calls Tryz.prog 15 #[v0, v1, v2] w fun e w' => e = .returned (.int .i64 0) ∧ Below w.heap.size w w' := by
 have HL := Lib.hid hl; have HM := Lib.hid hm
 clear hl hm
 have KA := Lib.hid ka; clear ka
 have KC := Lib.hid kc; clear kc
 have KM := Lib.hid km; clear km
 have KN := Lib.hid kn; clear kn
 have KR := Lib.hid kr; clear kr
 have KRC := Lib.hid krc; clear krc
 have KS := Lib.hid ks; clear ks
 have KSC := Lib.hid ksc; clear ksc
 have KL := Lib.hid kl; clear kl
 have KB := Lib.hid kb; clear kb
 go_enter Tryz.func15, Tryz.ntmps15
 have hbel : Below w.heap.size w w := Below.refl _ _
 have hbel0 := hbel
 go_upto_region 0 with fail
 refine rgT [(6, 0)] [.oth (fun v => v = .int .i64 0)] ?_ ?_
 ·intro hs
  refine ⟨?_, trivial⟩
  ·exact mvK hs fun _ => rfl
 intro L0 u0 W0 hall hJ hG
 have hb := hJ.all rfl
 have hbel := Below.call hbel hb
 have HC6 := oC (.int .i64 0) hG 0
 have hbel0 := hbel
 clear hJ hG hall hb
 go_upto_region 1 with fail
 refine rgT [(7, 5), (0, 7), (3, 2), (0, 0), (0, 1), (0, 3), (0, 4)] [.wld (IsB pub) (some 1), .oth (fun v => IsTV rP v [A] (.int .i64 0)), .oth (fun v => IsTV rP v [A] (.int .i64 0)), .val rP [A], .oth (fun v => v = .int .i64 0), .new 20, .st 5 rP [A], .oth (fun v => v = .int .i64 0)] ?_ ?_
 ·intro hs
  refine ⟨?_, ?_, ?_, ?_, ?_, ?_, ?_, ?_, trivial⟩
  ·exact step_runP hs Wn rfl fun L u W hJ hG hL hdep => run_moveP (.inl rfl) ((IsB pub).st _ _ _ hp (Below.call hbel (hJ.all rfl)))
  ·refine step_callO hs Wn rfl fun L u W hJ hG hL hdep K hK => ?_
   go_simp
   go_at_call 41
   (with_reducible refine (gDecode KA.out KC.out (holds_wld (φ := IsB pub) (hG 0 (hdep 0 (by kernel_rfl))) rfl (till_some hL))).mono ?_); rintro e w1 ⟨r, rfl, hr, hb⟩
   exact hK.out _ _ ⟨r, rfl, hr⟩ hb
  ·exact step_pureO hs Wn rfl fun L u W hG hdep => ⟨_, run_move rfl, (show IsTV rP (u 1) [A] (.int .i64 0) from hG 1 (hdep 1 (by kernel_rfl)))⟩
  ·exact step_pure hs Wn rfl fun L u W hG hdep => run_extractV0 rfl (show IsTV rP (u 2) [A] (.int .i64 0) from hG 2 (hdep 2 (by kernel_rfl)))
  ·exact step_pureO hs Wn rfl fun L u W hG hdep => run_extractV1 rfl (show IsTV rP (u 2) [A] (.int .i64 0) from hG 2 (hdep 2 (by kernel_rfl)))
  ·exact step_alloc hs Wn rfl rfl (by omega) rfl allocP
  ·exact step_store 5 hs (by kernel_rfl) Wn rfl rfl rfl (by kernel_rfl) (by kernel_rfl) (by kernel_rfl) (by kernel_rfl) (fun _ => rfl) (gO 3) tyP rfl
  ·exact mvO 4 hs
 intro L1 u1 W1 hall hJ hG
 obtain ⟨q7, e7, hq7, _, ht7⟩ := oN 20 hG 5
 have hm7 := oS rP [A] hG 6 e7
 have hq7 : w.heap.size ≤ q7 := by have := hbel0.size; omega
 have E7 := Lib.hid e7; clear e7
 have hb := hJ.all rfl
 have hbel := Below.call hbel hb
 have HC8 := oC (.int .i64 0) hG 7
 have hbel0 := hbel
 clear hJ hG hall hb
 go_upto_region 2 with fail
 refine rgT [(17, 0), (0, 1), (0, 2), (0, 3), (0, 4), (0, 5)] [.oth (fun v => v = .int .i64 0), .oth (fun v => v = .bool false), .oth (fun v => v = .bool false), .val rP [A], .oth (fun v => v = .bool false), .oth (fun v => v = .bool false)] ?_ ?_
 ·intro hs
  refine ⟨?_, ?_, ?_, ?_, ?_, ?_, trivial⟩
  ·exact mvK hs fun _ => HC8.out
  ·refine step_pureO hs Wn rfl fun L u W hG hdep => ⟨_, ?_, rfl⟩
   have e0 := (oE (.int .i64 0) hG hdep 0)
   go_simp
   try simp [bne]
  ·exact mvO 1 hs
  ·exact step_load q7 0 hs (wants_on 2 rfl rfl (by kernel_rfl) (fun _ => rfl)) rfl rfl tyP (fun _ => E7.out) hm7.lt hm7 Na
  ·refine step_callO hs (wants_on 2 rfl rfl (by kernel_rfl) (fun _ => rfl)) rfl fun L u W hJ hG hL hdep K hK => ?_
   have a0 := (vE rP [A] hG hdep 3)
   go_simp
   go_at_call 42
   (with_reducible refine (cPSmall (b := false) (KM.out) a0 _).mono ?_); rintro e w1 ⟨rfl, hb⟩
   exact hK.out _ _ rfl hb
  ·exact step_pick false hs Wn rfl rfl (fun L u W hG hdep => (oE (.bool false) hG hdep 2)) (fun L u W hG hdep => (oE (.bool false) hG hdep 4))
 intro L2 u2 W2 hall hJ hG
 have hb := hJ.all rfl
 have hbel := Below.call hbel hb
 have hm7 := hm7.later hb
 have ht7 := there_later ht7 hb
 have HC18 := oC (.bool false) hG 1
 have HC19 := oC (.bool false) hG 2
 have HC21 := oC (.bool false) hG 4
 have HC22 := oC (.bool false) hG 5
 have hbel0 := hbel
 clear hJ hG hall hb
 have hx : u2 5 = .bool false := HC22.out
 go_wp2_with fail
 rw [hx]
 clear hx
 go_upto_region 4 with fail
 refine rgT [(23, 0), (0, 1), (0, 2)] [.wld (IsB sig) none, .oth (fun v => v = .int .i64 64), .oth (fun v => v = .bool false)] ?_ ?_
 ·intro hs
  refine ⟨?_, ?_, ?_, trivial⟩
  ·exact step_runP hs Wn rfl fun L u W hJ hG hL hdep => run_moveP (.inl rfl) ((IsB sig).st _ _ _ hsg (Below.call hbel (hJ.all rfl)))
  ·exact step_runO hs Wn rfl fun L u W hJ hG hL hdep => run_lenP rfl (hW (IsB sig) hG hdep 0) (by rw [KN.out]; rfl)
  ·refine step_pureO hs Wn rfl fun L u W hG hdep => ⟨_, ?_, rfl⟩
   have e0 := (oE (.int .i64 64) hG hdep 1)
   go_simp
   try simp [bne]
 intro L4 u4 W4 hall hJ hG
 have hb := hJ.all rfl
 have hbel := Below.call hbel hb
 have hm7 := hm7.later hb
 have ht7 := there_later ht7 hb
 have HC25 := oC (.bool false) hG 2
 have hbel0 := hbel
 clear hJ hG hall hb
 have hx : u4 2 = .bool false := HC25.out
 go_wp2_with fail
 rw [hx]
 clear hx
 go_upto_region 6 with fail
 refine rgT [(8, 8), (0, 6), (16, 3), (0, 0), (0, 1), (0, 2), (0, 4), (0, 5)] [.wld (IsB sig) (some 1), .wld (IsB (sig.take 32)) (some 2), .oth (fun v => IsTV rP v [Rp] (.int .i64 0)), .oth (fun v => IsTV rP v [Rp] (.int .i64 0)), .val rP [Rp], .oth (fun v => v = .int .i64 0), .new 20, .st 6 rP [Rp], .oth (fun v => v = .int .i64 0)] ?_ ?_
 ·intro hs
  refine ⟨?_, ?_, ?_, ?_, ?_, ?_, ?_, ?_, ?_, trivial⟩
  ·exact step_runP hs Wn rfl fun L u W hJ hG hL hdep => run_moveP (.inl rfl) ((IsB sig).st _ _ _ hsg (Below.call hbel (hJ.all rfl)))
  ·exact step_runP hs Wn rfl fun L u W hJ hG hL hdep => run_toP (k := 32) rfl rfl (hV (IsB sig) hG hdep hL 0) (by rw [KN.out]; omega)
  ·refine step_callO hs Wn rfl fun L u W hJ hG hL hdep K hK => ?_
   go_simp
   go_at_call 41
   (with_reducible refine (gDecode KR.out KRC.out (holds_wld (φ := IsB (sig.take 32)) (hG 1 (hdep 1 (by kernel_rfl))) rfl (till_some hL))).mono ?_); rintro e w1 ⟨r, rfl, hr, hb⟩
   exact hK.out _ _ ⟨r, rfl, hr⟩ hb
  ·exact step_pureO hs Wn rfl fun L u W hG hdep => ⟨_, run_move rfl, (show IsTV rP (u 2) [Rp] (.int .i64 0) from hG 2 (hdep 2 (by kernel_rfl)))⟩
  ·exact step_pure hs Wn rfl fun L u W hG hdep => run_extractV0 rfl (show IsTV rP (u 3) [Rp] (.int .i64 0) from hG 3 (hdep 3 (by kernel_rfl)))
  ·exact step_pureO hs Wn rfl fun L u W hG hdep => run_extractV1 rfl (show IsTV rP (u 3) [Rp] (.int .i64 0) from hG 3 (hdep 3 (by kernel_rfl)))
  ·exact step_alloc hs Wn rfl rfl (by omega) rfl allocP
  ·exact step_store 6 hs (by kernel_rfl) Wn rfl rfl rfl (by kernel_rfl) (by kernel_rfl) (by kernel_rfl) (by kernel_rfl) (fun _ => rfl) (gO 4) tyP rfl
  ·exact mvO 5 hs
 intro L6 u6 W6 hall hJ hG
 obtain ⟨q9, e9, hq9, _, ht9⟩ := oN 20 hG 6
 have hm9 := oS rP [Rp] hG 7 e9
 have HD9_q7 := Lib.hid (show q7 ≠ q9 by have := there_lt ht7 (by omega); omega)
 have hq9 : w.heap.size ≤ q9 := by have := hbel0.size; omega
 have E9 := Lib.hid e9; clear e9
 have hb := hJ.all rfl
 have hbel := Below.call hbel hb
 have hm7 := hm7.later hb
 have ht7 := there_later ht7 hb
 have HC8 := oC (.int .i64 0) hG 8
 have hbel0 := hbel
 clear hJ hG hall hb
 go_upto_region 7 with fail
 refine rgT [(32, 0), (0, 1)] [.oth (fun v => v = .int .i64 0), .oth (fun v => v = .bool false)] ?_ ?_
 ·intro hs
  refine ⟨?_, ?_, trivial⟩
  ·exact mvK hs fun _ => HC8.out
  ·refine step_pureO hs Wn rfl fun L u W hG hdep => ⟨_, ?_, rfl⟩
   have e0 := (oE (.int .i64 0) hG hdep 0)
   go_simp
   try simp [bne]
 intro L7 u7 W7 hall hJ hG
 have hb := hJ.all rfl
 have hbel := Below.call hbel hb
 have hm7 := hm7.later hb
 have hm9 := hm9.later hb
 have ht7 := there_later ht7 hb
 have ht9 := there_later ht9 hb
 have HC33 := oC (.bool false) hG 1
 have hbel0 := hbel
 clear hJ hG hall hb
 have hx : u7 1 = .bool false := HC33.out
 go_wp2_with fail
 rw [hx]
 clear hx
 go_upto_region 9 with fail
 refine rgT [(8, 8), (1, 6), (23, 3), (0, 0), (0, 1), (0, 2), (0, 4), (0, 5)] [.wld (IsB sig) (some 1), .wld (IsB (sig.drop 32)) (some 2), .oth (fun v => IsTV rS v [s] (.int .i64 0)), .oth (fun v => IsTV rS v [s] (.int .i64 0)), .val rS [s], .oth (fun v => v = .int .i64 0), .new 4, .st 6 rS [s], .oth (fun v => v = .int .i64 0)] ?_ ?_
 ·intro hs
  refine ⟨?_, ?_, ?_, ?_, ?_, ?_, ?_, ?_, ?_, trivial⟩
  ·exact step_runP hs Wn rfl fun L u W hJ hG hL hdep => run_moveP (.inl rfl) ((IsB sig).st _ _ _ hsg (Below.call hbel (hJ.all rfl)))
  ·exact step_runP hs Wn rfl fun L u W hJ hG hL hdep => run_fromP (k := 32) rfl rfl (hV (IsB sig) hG hdep hL 0) (by rw [KN.out]; omega)
  ·refine step_callO hs Wn rfl fun L u W hJ hG hL hdep K hK => ?_
   go_simp
   go_at_call 43
   (with_reducible refine (gStrict KS.out KSC.out (holds_wld (φ := IsB (sig.drop 32)) (hG 1 (hdep 1 (by kernel_rfl))) rfl (till_some hL))).mono ?_); rintro e w1 ⟨r, rfl, hr, hb⟩
   exact hK.out _ _ ⟨r, rfl, hr⟩ hb
  ·exact step_pureO hs Wn rfl fun L u W hG hdep => ⟨_, run_move rfl, (show IsTV rS (u 2) [s] (.int .i64 0) from hG 2 (hdep 2 (by kernel_rfl)))⟩
  ·exact step_pure hs Wn rfl fun L u W hG hdep => run_extractV0 rfl (show IsTV rS (u 3) [s] (.int .i64 0) from hG 3 (hdep 3 (by kernel_rfl)))
  ·exact step_pureO hs Wn rfl fun L u W hG hdep => run_extractV1 rfl (show IsTV rS (u 3) [s] (.int .i64 0) from hG 3 (hdep 3 (by kernel_rfl)))
  ·exact step_alloc hs Wn rfl rfl (by omega) rfl allocS
  ·exact step_store 6 hs (by kernel_rfl) Wn rfl rfl rfl (by kernel_rfl) (by kernel_rfl) (by kernel_rfl) (by kernel_rfl) (fun _ => rfl) (gO 4) tyS rfl
  ·exact mvO 5 hs
 intro L9 u9 W9 hall hJ hG
 obtain ⟨q10, e10, hq10, _, ht10⟩ := oN 4 hG 6
 have hm10 := oS rS [s] hG 7 e10
 have HD10_q7 := Lib.hid (show q7 ≠ q10 by have := there_lt ht7 (by omega); omega)
 have HD10_q9 := Lib.hid (show q9 ≠ q10 by have := there_lt ht9 (by omega); omega)
 have hq10 : w.heap.size ≤ q10 := by have := hbel0.size; omega
 have E10 := Lib.hid e10; clear e10
 have hb := hJ.all rfl
 have hbel := Below.call hbel hb
 have hm7 := hm7.later hb
 have hm9 := hm9.later hb
 have ht7 := there_later ht7 hb
 have ht9 := there_later ht9 hb
 have HC8 := oC (.int .i64 0) hG 8
 have hbel0 := hbel
 clear hJ hG hall hb
 go_upto_region 10 with fail
 refine rgT [(40, 0), (0, 1)] [.oth (fun v => v = .int .i64 0), .oth (fun v => v = .bool false)] ?_ ?_
 ·intro hs
  refine ⟨?_, ?_, trivial⟩
  ·exact mvK hs fun _ => HC8.out
  ·refine step_pureO hs Wn rfl fun L u W hG hdep => ⟨_, ?_, rfl⟩
   have e0 := (oE (.int .i64 0) hG hdep 0)
   go_simp
   try simp [bne]
 intro L10 u10 W10 hall hJ hG
 have hb := hJ.all rfl
 have hbel := Below.call hbel hb
 have hm7 := hm7.later hb
 have hm9 := hm9.later hb
 have hm10 := hm10.later hb
 have ht7 := there_later ht7 hb
 have ht9 := there_later ht9 hb
 have ht10 := there_later ht10 hb
 have HC41 := oC (.bool false) hG 1
 have hbel0 := hbel
 clear hJ hG hall hb
 have hx : u10 1 = .bool false := HC41.out
 go_wp2_with fail
 rw [hx]
 clear hx
 go_upto_region 12 with fail
 refine rgM [(11, 7), (30, 0), (0, 1), (0, 2), (0, 3), (0, 4), (0, 5), (0, 6)] [.wld (IsB sig) (some 1), .wld (IsB (sig.take 32)) (some 5), .wld (IsB pub) (some 5), .wld (IsR ls) (some 4), .wld (IsB l) (some 5), .wld (IsR [sig.take 32, pub, l]) (some 6), .val rS [wS (sha512 ((sig.take 32) ++ (pub ++ l)))], .new 4, .st 7 rS [wS (sha512 ((sig.take 32) ++ (pub ++ l)))]] ?_ ?_
 ·intro hs
  refine ⟨?_, ?_, ?_, ?_, ?_, ?_, ?_, ?_, ?_, trivial⟩
  ·exact step_runP hs Wn rfl fun L u W hJ hG hL hdep => run_moveP (.inl rfl) ((IsB sig).st _ _ _ hsg (Below.call hbel (hJ.all rfl)))
  ·exact step_runP hs Wn rfl fun L u W hJ hG hL hdep => run_toP (k := 32) rfl rfl (hV (IsB sig) hG hdep hL 0) (by rw [KN.out]; omega)
  ·exact step_runP hs Wn rfl fun L u W hJ hG hL hdep => run_moveP (.inl rfl) ((IsB pub).st _ _ _ hp (Below.call hbel (hJ.all rfl)))
  ·exact step_runP hs Wn rfl fun L u W hJ hG hL hdep => run_moveP (.inl rfl) ((IsR ls).st _ _ _ h1 (Below.call hbel (hJ.all rfl)))
  ·refine step_callP hs Wn rfl fun L u W hJ hG hL hdep K hK => ?_
   go_simp
   go_at_call 25
   (with_reducible refine (gCat (l := l) (holds_wld (φ := IsR ls) (hG 3 (hdep 3 (by kernel_rfl))) rfl (till_some hL)) (HL.out) (by have := HM.out; omega)).mono ?_); rintro e w1 ⟨r, rfl, hr, hb⟩
   exact hK.out _ _ hr hb
  ·exact step_runP hs Wn rfl fun L u W hJ hG hL hdep => run_rows3 rfl (hV (IsB (sig.take 32)) hG hdep hL 1) (hV (IsB pub) hG hdep hL 2) (hV (IsB l) hG hdep hL 4)
  ·refine step_call hs Wn rfl fun L u W hJ hG hL hdep K hK => ?_
   go_simp
   go_at_call 26
   (with_reducible refine (gHash (l := ((sig.take 32) ++ (pub ++ l))) (holds_wld (φ := IsR [sig.take 32, pub, l]) (hG 5 (hdep 5 (by kernel_rfl))) rfl (till_some hL)) (by simp) (by have := HM.out; (repeat rw [List.length_append]); (try rw [List.length_take]); (try rw [KN.out]); (try rw [KL.out]); omega)).mono ?_); rintro e w1 ⟨r, rfl, hr, hb⟩
   exact hK.out _ _ hr hb
  ·exact step_alloc hs Wn rfl rfl (by omega) rfl allocS
  ·exact step_store 7 hs (by kernel_rfl) Wn rfl rfl rfl (by kernel_rfl) (by kernel_rfl) (by kernel_rfl) (by kernel_rfl) (fun _ => rfl) (gO 6) tyS rfl
 intro L12 u12 W12 hall hJ hG
 obtain ⟨q11, e11, hq11, _, ht11⟩ := oN 4 hG 7
 have hm11 := oS rS [wS (sha512 ((sig.take 32) ++ (pub ++ l)))] hG 8 e11
 have HD11_q7 := Lib.hid (show q7 ≠ q11 by have := there_lt ht7 (by omega); omega)
 have HD11_q9 := Lib.hid (show q9 ≠ q11 by have := there_lt ht9 (by omega); omega)
 have HD11_q10 := Lib.hid (show q10 ≠ q11 by have := there_lt ht10 (by omega); omega)
 have hq11 : w.heap.size ≤ q11 := by have := hbel0.size; omega
 have E11 := Lib.hid e11; clear e11
 have hb := hJ.all rfl
 have hbel := Below.call hbel hb
 have hm7 := hm7.later hb
 have hm9 := hm9.later hb
 have hm10 := hm10.later hb
 have hbel0 := hbel
 clear hJ hG hall hb
 go_upto_region 13 with fail
 refine rgM [(49, 0), (0, 1), (0, 2), (0, 3), (0, 4), (0, 5), (0, 6), (0, 7), (0, 8), (0, 9)] [.val rP [base], .val rS [s], .val rP [Cp.mul s.val base], .val rP [Rp], .val rP [A], .val rS [wS (sha512 ((sig.take 32) ++ (pub ++ l)))], .val rP [Cp.mul (wS (sha512 ((sig.take 32) ++ (pub ++ l)))).val A], .val rP [Cp.add Rp (Cp.mul (wS (sha512 ((sig.take 32) ++ (pub ++ l)))).val A)], .oth (fun v => v = .bool true), .oth (fun v => v = .bool false)] ?_ ?_
 ·intro hs
  refine ⟨?_, ?_, ?_, ?_, ?_, ?_, ?_, ?_, ?_, ?_, trivial⟩
  ·refine step_call hs Wn rfl fun L u W hJ hG hL hdep K hK => ?_
   go_simp
   go_at_call 22
   (with_reducible refine (cBase _).mono ?_); rintro e w1 ⟨r, rfl, hr, hb⟩
   exact hK.out _ _ hr hb
  ·exact step_load q10 0 hs Wn rfl rfl tyS (fun _ => E10.out) hm10.lt hm10 Na
  ·refine step_call hs Wn rfl fun L u W hJ hG hL hdep K hK => ?_
   have a0 := (vE rP [base] hG hdep 0)
   have a1 := (vE rS [s] hG hdep 1)
   go_simp
   go_at_call 23
   (with_reducible refine (cMult rfl a0 a1 _).mono ?_); rintro e w1 ⟨r, rfl, hr, hb⟩
   exact hK.out _ _ hr hb
  ·exact step_load q9 0 hs Wn rfl rfl tyP (fun _ => E9.out) hm9.lt hm9 Na
  ·exact step_load q7 0 hs Wn rfl rfl tyP (fun _ => E7.out) hm7.lt hm7 Na
  ·exact step_load q11 0 hs Wn rfl rfl tyS (fun _ => E11.out) hm11.lt hm11 Na
  ·refine step_call hs Wn rfl fun L u W hJ hG hL hdep K hK => ?_
   have a0 := (vE rP [A] hG hdep 4)
   have a1 := (vE rS [wS (sha512 ((sig.take 32) ++ (pub ++ l)))] hG hdep 5)
   go_simp
   go_at_call 23
   (with_reducible refine (cMult rfl a0 a1 _).mono ?_); rintro e w1 ⟨r, rfl, hr, hb⟩
   exact hK.out _ _ hr hb
  ·refine step_call hs Wn rfl fun L u W hJ hG hL hdep K hK => ?_
   have a0 := (vE rP [Rp] hG hdep 3)
   have a1 := (vE rP [Cp.mul (wS (sha512 ((sig.take 32) ++ (pub ++ l)))).val A] hG hdep 6)
   go_simp
   go_at_call 45
   (with_reducible refine (cPAdd a0 a1 _).mono ?_); rintro e w1 ⟨r, rfl, hr, hb⟩
   exact hK.out _ _ hr hb
  ·refine step_callO hs Wn rfl fun L u W hJ hG hL hdep K hK => ?_
   have a0 := (vE rP [Cp.mul s.val base] hG hdep 2)
   have a1 := (vE rP [Cp.add Rp (Cp.mul (wS (sha512 ((sig.take 32) ++ (pub ++ l)))).val A)] hG hdep 7)
   go_simp
   go_at_call 44
   (with_reducible refine (cPSame (b := true) (KB.out) a0 a1 _).mono ?_); rintro e w1 ⟨rfl, hb⟩
   exact hK.out _ _ rfl hb
  ·refine step_pureO hs Wn rfl fun L u W hG hdep => ⟨_, ?_, rfl⟩
   have e0 := (oE (.bool true) hG hdep 8)
   go_simp
 intro L13 u13 W13 hall hJ hG
 have hb := hJ.all rfl
 have hbel := Below.call hbel hb
 have HC57 := oC (.bool true) hG 8
 have HC58 := oC (.bool false) hG 9
 have hbel0 := hbel
 clear hJ hG hall hb
 have hx : u13 9 = .bool false := HC58.out
 go_wp2_with fail
 rw [hx]
 clear hx
 go_upto_region 15 with fail
 refine rgT [(6, 0)] [.oth (fun v => v = .int .i64 0)] ?_ ?_
 ·intro hs
  refine ⟨?_, trivial⟩
  ·exact mvK hs fun _ => rfl
 intro L15 u15 W15 hall hJ hG
 have hb := hJ.all rfl
 have hbel := Below.call hbel hb
 have HC6 := oC (.int .i64 0) hG 0
 have hbel0 := hbel
 clear hJ hG hall hb
 go_wp2
 go_ret
 exact ⟨by rw [HC6.out]; rfl, hbel⟩
set_option maxHeartbeats 1000000 in
theorem ver_false {w : World} {v0 v1 v2 : Value} {pub sig l : List UInt8} {ls : List (List UInt8)} (hp : (IsB pub).P v0 w) (hsg : (IsB sig).P v1 w) (h1 : (IsR ls).P v2 w) (hl : ls.flatten = l) (hm : l.length ≤ 100000) {A : EP} (ka : decV pub = A) (kc : decC pub = 0) (km : decide (Cp.mul 8 A = Cp.zero) = false) (kn : sig.length = 64) {Rp : EP} (kr : decV (sig.take 32) = Rp) (krc : decC (sig.take 32) = 0) {s : F} (ks : ssV (sig.drop 32) = s) (ksc : ssC (sig.drop 32) = 0) (kl : pub.length = 32) (kb : decide (Cp.mul s.val base = Cp.add Rp (Cp.mul (wS (sha512 (sig.take 32 ++ (pub ++ l)))).val A)) = false) :
  Calls Tryz.prog 15 #[v0, v1, v2] w fun e w' => e = .returned (.int .i64 3) ∧ Below w.heap.size w w' := by
 have HL := Lib.hid hl; have HM := Lib.hid hm
 clear hl hm
 have KA := Lib.hid ka; clear ka
 have KC := Lib.hid kc; clear kc
 have KM := Lib.hid km; clear km
 have KN := Lib.hid kn; clear kn
 have KR := Lib.hid kr; clear kr
 have KRC := Lib.hid krc; clear krc
 have KS := Lib.hid ks; clear ks
 have KSC := Lib.hid ksc; clear ksc
 have KL := Lib.hid kl; clear kl
 have KB := Lib.hid kb; clear kb
 go_enter Tryz.func15, Tryz.ntmps15
 have hbel : Below w.heap.size w w := Below.refl _ _
 have hbel0 := hbel
 go_upto_region 0 with fail
 refine rgT [(6, 0)] [.oth (fun v => v = .int .i64 0)] ?_ ?_
 ·intro hs
  refine ⟨?_, trivial⟩
  ·exact mvK hs fun _ => rfl
 intro L0 u0 W0 hall hJ hG
 have hb := hJ.all rfl
 have hbel := Below.call hbel hb
 have HC6 := oC (.int .i64 0) hG 0
 have hbel0 := hbel
 clear hJ hG hall hb
 go_upto_region 1 with fail
 refine rgT [(7, 5), (0, 7), (3, 2), (0, 0), (0, 1), (0, 3), (0, 4)] [.wld (IsB pub) (some 1), .oth (fun v => IsTV rP v [A] (.int .i64 0)), .oth (fun v => IsTV rP v [A] (.int .i64 0)), .val rP [A], .oth (fun v => v = .int .i64 0), .new 20, .st 5 rP [A], .oth (fun v => v = .int .i64 0)] ?_ ?_
 ·intro hs
  refine ⟨?_, ?_, ?_, ?_, ?_, ?_, ?_, ?_, trivial⟩
  ·exact step_runP hs Wn rfl fun L u W hJ hG hL hdep => run_moveP (.inl rfl) ((IsB pub).st _ _ _ hp (Below.call hbel (hJ.all rfl)))
  ·refine step_callO hs Wn rfl fun L u W hJ hG hL hdep K hK => ?_
   go_simp
   go_at_call 41
   (with_reducible refine (gDecode KA.out KC.out (holds_wld (φ := IsB pub) (hG 0 (hdep 0 (by kernel_rfl))) rfl (till_some hL))).mono ?_); rintro e w1 ⟨r, rfl, hr, hb⟩
   exact hK.out _ _ ⟨r, rfl, hr⟩ hb
  ·exact step_pureO hs Wn rfl fun L u W hG hdep => ⟨_, run_move rfl, (show IsTV rP (u 1) [A] (.int .i64 0) from hG 1 (hdep 1 (by kernel_rfl)))⟩
  ·exact step_pure hs Wn rfl fun L u W hG hdep => run_extractV0 rfl (show IsTV rP (u 2) [A] (.int .i64 0) from hG 2 (hdep 2 (by kernel_rfl)))
  ·exact step_pureO hs Wn rfl fun L u W hG hdep => run_extractV1 rfl (show IsTV rP (u 2) [A] (.int .i64 0) from hG 2 (hdep 2 (by kernel_rfl)))
  ·exact step_alloc hs Wn rfl rfl (by omega) rfl allocP
  ·exact step_store 5 hs (by kernel_rfl) Wn rfl rfl rfl (by kernel_rfl) (by kernel_rfl) (by kernel_rfl) (by kernel_rfl) (fun _ => rfl) (gO 3) tyP rfl
  ·exact mvO 4 hs
 intro L1 u1 W1 hall hJ hG
 obtain ⟨q7, e7, hq7, _, ht7⟩ := oN 20 hG 5
 have hm7 := oS rP [A] hG 6 e7
 have hq7 : w.heap.size ≤ q7 := by have := hbel0.size; omega
 have E7 := Lib.hid e7; clear e7
 have hb := hJ.all rfl
 have hbel := Below.call hbel hb
 have HC8 := oC (.int .i64 0) hG 7
 have hbel0 := hbel
 clear hJ hG hall hb
 go_upto_region 2 with fail
 refine rgT [(17, 0), (0, 1), (0, 2), (0, 3), (0, 4), (0, 5)] [.oth (fun v => v = .int .i64 0), .oth (fun v => v = .bool false), .oth (fun v => v = .bool false), .val rP [A], .oth (fun v => v = .bool false), .oth (fun v => v = .bool false)] ?_ ?_
 ·intro hs
  refine ⟨?_, ?_, ?_, ?_, ?_, ?_, trivial⟩
  ·exact mvK hs fun _ => HC8.out
  ·refine step_pureO hs Wn rfl fun L u W hG hdep => ⟨_, ?_, rfl⟩
   have e0 := (oE (.int .i64 0) hG hdep 0)
   go_simp
   try simp [bne]
  ·exact mvO 1 hs
  ·exact step_load q7 0 hs (wants_on 2 rfl rfl (by kernel_rfl) (fun _ => rfl)) rfl rfl tyP (fun _ => E7.out) hm7.lt hm7 Na
  ·refine step_callO hs (wants_on 2 rfl rfl (by kernel_rfl) (fun _ => rfl)) rfl fun L u W hJ hG hL hdep K hK => ?_
   have a0 := (vE rP [A] hG hdep 3)
   go_simp
   go_at_call 42
   (with_reducible refine (cPSmall (b := false) (KM.out) a0 _).mono ?_); rintro e w1 ⟨rfl, hb⟩
   exact hK.out _ _ rfl hb
  ·exact step_pick false hs Wn rfl rfl (fun L u W hG hdep => (oE (.bool false) hG hdep 2)) (fun L u W hG hdep => (oE (.bool false) hG hdep 4))
 intro L2 u2 W2 hall hJ hG
 have hb := hJ.all rfl
 have hbel := Below.call hbel hb
 have hm7 := hm7.later hb
 have ht7 := there_later ht7 hb
 have HC18 := oC (.bool false) hG 1
 have HC19 := oC (.bool false) hG 2
 have HC21 := oC (.bool false) hG 4
 have HC22 := oC (.bool false) hG 5
 have hbel0 := hbel
 clear hJ hG hall hb
 have hx : u2 5 = .bool false := HC22.out
 go_wp2_with fail
 rw [hx]
 clear hx
 go_upto_region 4 with fail
 refine rgT [(23, 0), (0, 1), (0, 2)] [.wld (IsB sig) none, .oth (fun v => v = .int .i64 64), .oth (fun v => v = .bool false)] ?_ ?_
 ·intro hs
  refine ⟨?_, ?_, ?_, trivial⟩
  ·exact step_runP hs Wn rfl fun L u W hJ hG hL hdep => run_moveP (.inl rfl) ((IsB sig).st _ _ _ hsg (Below.call hbel (hJ.all rfl)))
  ·exact step_runO hs Wn rfl fun L u W hJ hG hL hdep => run_lenP rfl (hW (IsB sig) hG hdep 0) (by rw [KN.out]; rfl)
  ·refine step_pureO hs Wn rfl fun L u W hG hdep => ⟨_, ?_, rfl⟩
   have e0 := (oE (.int .i64 64) hG hdep 1)
   go_simp
   try simp [bne]
 intro L4 u4 W4 hall hJ hG
 have hb := hJ.all rfl
 have hbel := Below.call hbel hb
 have hm7 := hm7.later hb
 have ht7 := there_later ht7 hb
 have HC25 := oC (.bool false) hG 2
 have hbel0 := hbel
 clear hJ hG hall hb
 have hx : u4 2 = .bool false := HC25.out
 go_wp2_with fail
 rw [hx]
 clear hx
 go_upto_region 6 with fail
 refine rgT [(8, 8), (0, 6), (16, 3), (0, 0), (0, 1), (0, 2), (0, 4), (0, 5)] [.wld (IsB sig) (some 1), .wld (IsB (sig.take 32)) (some 2), .oth (fun v => IsTV rP v [Rp] (.int .i64 0)), .oth (fun v => IsTV rP v [Rp] (.int .i64 0)), .val rP [Rp], .oth (fun v => v = .int .i64 0), .new 20, .st 6 rP [Rp], .oth (fun v => v = .int .i64 0)] ?_ ?_
 ·intro hs
  refine ⟨?_, ?_, ?_, ?_, ?_, ?_, ?_, ?_, ?_, trivial⟩
  ·exact step_runP hs Wn rfl fun L u W hJ hG hL hdep => run_moveP (.inl rfl) ((IsB sig).st _ _ _ hsg (Below.call hbel (hJ.all rfl)))
  ·exact step_runP hs Wn rfl fun L u W hJ hG hL hdep => run_toP (k := 32) rfl rfl (hV (IsB sig) hG hdep hL 0) (by rw [KN.out]; omega)
  ·refine step_callO hs Wn rfl fun L u W hJ hG hL hdep K hK => ?_
   go_simp
   go_at_call 41
   (with_reducible refine (gDecode KR.out KRC.out (holds_wld (φ := IsB (sig.take 32)) (hG 1 (hdep 1 (by kernel_rfl))) rfl (till_some hL))).mono ?_); rintro e w1 ⟨r, rfl, hr, hb⟩
   exact hK.out _ _ ⟨r, rfl, hr⟩ hb
  ·exact step_pureO hs Wn rfl fun L u W hG hdep => ⟨_, run_move rfl, (show IsTV rP (u 2) [Rp] (.int .i64 0) from hG 2 (hdep 2 (by kernel_rfl)))⟩
  ·exact step_pure hs Wn rfl fun L u W hG hdep => run_extractV0 rfl (show IsTV rP (u 3) [Rp] (.int .i64 0) from hG 3 (hdep 3 (by kernel_rfl)))
  ·exact step_pureO hs Wn rfl fun L u W hG hdep => run_extractV1 rfl (show IsTV rP (u 3) [Rp] (.int .i64 0) from hG 3 (hdep 3 (by kernel_rfl)))
  ·exact step_alloc hs Wn rfl rfl (by omega) rfl allocP
  ·exact step_store 6 hs (by kernel_rfl) Wn rfl rfl rfl (by kernel_rfl) (by kernel_rfl) (by kernel_rfl) (by kernel_rfl) (fun _ => rfl) (gO 4) tyP rfl
  ·exact mvO 5 hs
 intro L6 u6 W6 hall hJ hG
 obtain ⟨q9, e9, hq9, _, ht9⟩ := oN 20 hG 6
 have hm9 := oS rP [Rp] hG 7 e9
 have HD9_q7 := Lib.hid (show q7 ≠ q9 by have := there_lt ht7 (by omega); omega)
 have hq9 : w.heap.size ≤ q9 := by have := hbel0.size; omega
 have E9 := Lib.hid e9; clear e9
 have hb := hJ.all rfl
 have hbel := Below.call hbel hb
 have hm7 := hm7.later hb
 have ht7 := there_later ht7 hb
 have HC8 := oC (.int .i64 0) hG 8
 have hbel0 := hbel
 clear hJ hG hall hb
 go_upto_region 7 with fail
 refine rgT [(32, 0), (0, 1)] [.oth (fun v => v = .int .i64 0), .oth (fun v => v = .bool false)] ?_ ?_
 ·intro hs
  refine ⟨?_, ?_, trivial⟩
  ·exact mvK hs fun _ => HC8.out
  ·refine step_pureO hs Wn rfl fun L u W hG hdep => ⟨_, ?_, rfl⟩
   have e0 := (oE (.int .i64 0) hG hdep 0)
   go_simp
   try simp [bne]
 intro L7 u7 W7 hall hJ hG
 have hb := hJ.all rfl
 have hbel := Below.call hbel hb
 have hm7 := hm7.later hb
 have hm9 := hm9.later hb
 have ht7 := there_later ht7 hb
 have ht9 := there_later ht9 hb
 have HC33 := oC (.bool false) hG 1
 have hbel0 := hbel
 clear hJ hG hall hb
 have hx : u7 1 = .bool false := HC33.out
 go_wp2_with fail
 rw [hx]
 clear hx
 go_upto_region 9 with fail
 refine rgT [(8, 8), (1, 6), (23, 3), (0, 0), (0, 1), (0, 2), (0, 4), (0, 5)] [.wld (IsB sig) (some 1), .wld (IsB (sig.drop 32)) (some 2), .oth (fun v => IsTV rS v [s] (.int .i64 0)), .oth (fun v => IsTV rS v [s] (.int .i64 0)), .val rS [s], .oth (fun v => v = .int .i64 0), .new 4, .st 6 rS [s], .oth (fun v => v = .int .i64 0)] ?_ ?_
 ·intro hs
  refine ⟨?_, ?_, ?_, ?_, ?_, ?_, ?_, ?_, ?_, trivial⟩
  ·exact step_runP hs Wn rfl fun L u W hJ hG hL hdep => run_moveP (.inl rfl) ((IsB sig).st _ _ _ hsg (Below.call hbel (hJ.all rfl)))
  ·exact step_runP hs Wn rfl fun L u W hJ hG hL hdep => run_fromP (k := 32) rfl rfl (hV (IsB sig) hG hdep hL 0) (by rw [KN.out]; omega)
  ·refine step_callO hs Wn rfl fun L u W hJ hG hL hdep K hK => ?_
   go_simp
   go_at_call 43
   (with_reducible refine (gStrict KS.out KSC.out (holds_wld (φ := IsB (sig.drop 32)) (hG 1 (hdep 1 (by kernel_rfl))) rfl (till_some hL))).mono ?_); rintro e w1 ⟨r, rfl, hr, hb⟩
   exact hK.out _ _ ⟨r, rfl, hr⟩ hb
  ·exact step_pureO hs Wn rfl fun L u W hG hdep => ⟨_, run_move rfl, (show IsTV rS (u 2) [s] (.int .i64 0) from hG 2 (hdep 2 (by kernel_rfl)))⟩
  ·exact step_pure hs Wn rfl fun L u W hG hdep => run_extractV0 rfl (show IsTV rS (u 3) [s] (.int .i64 0) from hG 3 (hdep 3 (by kernel_rfl)))
  ·exact step_pureO hs Wn rfl fun L u W hG hdep => run_extractV1 rfl (show IsTV rS (u 3) [s] (.int .i64 0) from hG 3 (hdep 3 (by kernel_rfl)))
  ·exact step_alloc hs Wn rfl rfl (by omega) rfl allocS
  ·exact step_store 6 hs (by kernel_rfl) Wn rfl rfl rfl (by kernel_rfl) (by kernel_rfl) (by kernel_rfl) (by kernel_rfl) (fun _ => rfl) (gO 4) tyS rfl
  ·exact mvO 5 hs
 intro L9 u9 W9 hall hJ hG
 obtain ⟨q10, e10, hq10, _, ht10⟩ := oN 4 hG 6
 have hm10 := oS rS [s] hG 7 e10
 have HD10_q7 := Lib.hid (show q7 ≠ q10 by have := there_lt ht7 (by omega); omega)
 have HD10_q9 := Lib.hid (show q9 ≠ q10 by have := there_lt ht9 (by omega); omega)
 have hq10 : w.heap.size ≤ q10 := by have := hbel0.size; omega
 have E10 := Lib.hid e10; clear e10
 have hb := hJ.all rfl
 have hbel := Below.call hbel hb
 have hm7 := hm7.later hb
 have hm9 := hm9.later hb
 have ht7 := there_later ht7 hb
 have ht9 := there_later ht9 hb
 have HC8 := oC (.int .i64 0) hG 8
 have hbel0 := hbel
 clear hJ hG hall hb
 go_upto_region 10 with fail
 refine rgT [(40, 0), (0, 1)] [.oth (fun v => v = .int .i64 0), .oth (fun v => v = .bool false)] ?_ ?_
 ·intro hs
  refine ⟨?_, ?_, trivial⟩
  ·exact mvK hs fun _ => HC8.out
  ·refine step_pureO hs Wn rfl fun L u W hG hdep => ⟨_, ?_, rfl⟩
   have e0 := (oE (.int .i64 0) hG hdep 0)
   go_simp
   try simp [bne]
 intro L10 u10 W10 hall hJ hG
 have hb := hJ.all rfl
 have hbel := Below.call hbel hb
 have hm7 := hm7.later hb
 have hm9 := hm9.later hb
 have hm10 := hm10.later hb
 have ht7 := there_later ht7 hb
 have ht9 := there_later ht9 hb
 have ht10 := there_later ht10 hb
 have HC41 := oC (.bool false) hG 1
 have hbel0 := hbel
 clear hJ hG hall hb
 have hx : u10 1 = .bool false := HC41.out
 go_wp2_with fail
 rw [hx]
 clear hx
 go_upto_region 12 with fail
 refine rgM [(11, 7), (30, 0), (0, 1), (0, 2), (0, 3), (0, 4), (0, 5), (0, 6)] [.wld (IsB sig) (some 1), .wld (IsB (sig.take 32)) (some 5), .wld (IsB pub) (some 5), .wld (IsR ls) (some 4), .wld (IsB l) (some 5), .wld (IsR [sig.take 32, pub, l]) (some 6), .val rS [wS (sha512 ((sig.take 32) ++ (pub ++ l)))], .new 4, .st 7 rS [wS (sha512 ((sig.take 32) ++ (pub ++ l)))]] ?_ ?_
 ·intro hs
  refine ⟨?_, ?_, ?_, ?_, ?_, ?_, ?_, ?_, ?_, trivial⟩
  ·exact step_runP hs Wn rfl fun L u W hJ hG hL hdep => run_moveP (.inl rfl) ((IsB sig).st _ _ _ hsg (Below.call hbel (hJ.all rfl)))
  ·exact step_runP hs Wn rfl fun L u W hJ hG hL hdep => run_toP (k := 32) rfl rfl (hV (IsB sig) hG hdep hL 0) (by rw [KN.out]; omega)
  ·exact step_runP hs Wn rfl fun L u W hJ hG hL hdep => run_moveP (.inl rfl) ((IsB pub).st _ _ _ hp (Below.call hbel (hJ.all rfl)))
  ·exact step_runP hs Wn rfl fun L u W hJ hG hL hdep => run_moveP (.inl rfl) ((IsR ls).st _ _ _ h1 (Below.call hbel (hJ.all rfl)))
  ·refine step_callP hs Wn rfl fun L u W hJ hG hL hdep K hK => ?_
   go_simp
   go_at_call 25
   (with_reducible refine (gCat (l := l) (holds_wld (φ := IsR ls) (hG 3 (hdep 3 (by kernel_rfl))) rfl (till_some hL)) (HL.out) (by have := HM.out; omega)).mono ?_); rintro e w1 ⟨r, rfl, hr, hb⟩
   exact hK.out _ _ hr hb
  ·exact step_runP hs Wn rfl fun L u W hJ hG hL hdep => run_rows3 rfl (hV (IsB (sig.take 32)) hG hdep hL 1) (hV (IsB pub) hG hdep hL 2) (hV (IsB l) hG hdep hL 4)
  ·refine step_call hs Wn rfl fun L u W hJ hG hL hdep K hK => ?_
   go_simp
   go_at_call 26
   (with_reducible refine (gHash (l := ((sig.take 32) ++ (pub ++ l))) (holds_wld (φ := IsR [sig.take 32, pub, l]) (hG 5 (hdep 5 (by kernel_rfl))) rfl (till_some hL)) (by simp) (by have := HM.out; (repeat rw [List.length_append]); (try rw [List.length_take]); (try rw [KN.out]); (try rw [KL.out]); omega)).mono ?_); rintro e w1 ⟨r, rfl, hr, hb⟩
   exact hK.out _ _ hr hb
  ·exact step_alloc hs Wn rfl rfl (by omega) rfl allocS
  ·exact step_store 7 hs (by kernel_rfl) Wn rfl rfl rfl (by kernel_rfl) (by kernel_rfl) (by kernel_rfl) (by kernel_rfl) (fun _ => rfl) (gO 6) tyS rfl
 intro L12 u12 W12 hall hJ hG
 obtain ⟨q11, e11, hq11, _, ht11⟩ := oN 4 hG 7
 have hm11 := oS rS [wS (sha512 ((sig.take 32) ++ (pub ++ l)))] hG 8 e11
 have HD11_q7 := Lib.hid (show q7 ≠ q11 by have := there_lt ht7 (by omega); omega)
 have HD11_q9 := Lib.hid (show q9 ≠ q11 by have := there_lt ht9 (by omega); omega)
 have HD11_q10 := Lib.hid (show q10 ≠ q11 by have := there_lt ht10 (by omega); omega)
 have hq11 : w.heap.size ≤ q11 := by have := hbel0.size; omega
 have E11 := Lib.hid e11; clear e11
 have hb := hJ.all rfl
 have hbel := Below.call hbel hb
 have hm7 := hm7.later hb
 have hm9 := hm9.later hb
 have hm10 := hm10.later hb
 have hbel0 := hbel
 clear hJ hG hall hb
 go_upto_region 13 with fail
 refine rgM [(49, 0), (0, 1), (0, 2), (0, 3), (0, 4), (0, 5), (0, 6), (0, 7), (0, 8), (0, 9)] [.val rP [base], .val rS [s], .val rP [Cp.mul s.val base], .val rP [Rp], .val rP [A], .val rS [wS (sha512 ((sig.take 32) ++ (pub ++ l)))], .val rP [Cp.mul (wS (sha512 ((sig.take 32) ++ (pub ++ l)))).val A], .val rP [Cp.add Rp (Cp.mul (wS (sha512 ((sig.take 32) ++ (pub ++ l)))).val A)], .oth (fun v => v = .bool false), .oth (fun v => v = .bool true)] ?_ ?_
 ·intro hs
  refine ⟨?_, ?_, ?_, ?_, ?_, ?_, ?_, ?_, ?_, ?_, trivial⟩
  ·refine step_call hs Wn rfl fun L u W hJ hG hL hdep K hK => ?_
   go_simp
   go_at_call 22
   (with_reducible refine (cBase _).mono ?_); rintro e w1 ⟨r, rfl, hr, hb⟩
   exact hK.out _ _ hr hb
  ·exact step_load q10 0 hs Wn rfl rfl tyS (fun _ => E10.out) hm10.lt hm10 Na
  ·refine step_call hs Wn rfl fun L u W hJ hG hL hdep K hK => ?_
   have a0 := (vE rP [base] hG hdep 0)
   have a1 := (vE rS [s] hG hdep 1)
   go_simp
   go_at_call 23
   (with_reducible refine (cMult rfl a0 a1 _).mono ?_); rintro e w1 ⟨r, rfl, hr, hb⟩
   exact hK.out _ _ hr hb
  ·exact step_load q9 0 hs Wn rfl rfl tyP (fun _ => E9.out) hm9.lt hm9 Na
  ·exact step_load q7 0 hs Wn rfl rfl tyP (fun _ => E7.out) hm7.lt hm7 Na
  ·exact step_load q11 0 hs Wn rfl rfl tyS (fun _ => E11.out) hm11.lt hm11 Na
  ·refine step_call hs Wn rfl fun L u W hJ hG hL hdep K hK => ?_
   have a0 := (vE rP [A] hG hdep 4)
   have a1 := (vE rS [wS (sha512 ((sig.take 32) ++ (pub ++ l)))] hG hdep 5)
   go_simp
   go_at_call 23
   (with_reducible refine (cMult rfl a0 a1 _).mono ?_); rintro e w1 ⟨r, rfl, hr, hb⟩
   exact hK.out _ _ hr hb
  ·refine step_call hs Wn rfl fun L u W hJ hG hL hdep K hK => ?_
   have a0 := (vE rP [Rp] hG hdep 3)
   have a1 := (vE rP [Cp.mul (wS (sha512 ((sig.take 32) ++ (pub ++ l)))).val A] hG hdep 6)
   go_simp
   go_at_call 45
   (with_reducible refine (cPAdd a0 a1 _).mono ?_); rintro e w1 ⟨r, rfl, hr, hb⟩
   exact hK.out _ _ hr hb
  ·refine step_callO hs Wn rfl fun L u W hJ hG hL hdep K hK => ?_
   have a0 := (vE rP [Cp.mul s.val base] hG hdep 2)
   have a1 := (vE rP [Cp.add Rp (Cp.mul (wS (sha512 ((sig.take 32) ++ (pub ++ l)))).val A)] hG hdep 7)
   go_simp
   go_at_call 44
   (with_reducible refine (cPSame (b := false) (KB.out) a0 a1 _).mono ?_); rintro e w1 ⟨rfl, hb⟩
   exact hK.out _ _ rfl hb
  ·refine step_pureO hs Wn rfl fun L u W hG hdep => ⟨_, ?_, rfl⟩
   have e0 := (oE (.bool false) hG hdep 8)
   go_simp
 intro L13 u13 W13 hall hJ hG
 have hb := hJ.all rfl
 have hbel := Below.call hbel hb
 have HC57 := oC (.bool false) hG 8
 have HC58 := oC (.bool true) hG 9
 have hbel0 := hbel
 clear hJ hG hall hb
 have hx : u13 9 = .bool true := HC58.out
 go_wp2_with fail
 rw [hx]
 clear hx
 go_upto_region 14 with fail
 refine rgT [(6, 0)] [.oth (fun v => v = .int .i64 3)] ?_ ?_
 ·intro hs
  refine ⟨?_, trivial⟩
  ·exact mvK hs fun _ => rfl
 intro L14 u14 W14 hall hJ hG
 have hb := hJ.all rfl
 have hbel := Below.call hbel hb
 have HC6 := oC (.int .i64 3) hG 0
 have hbel0 := hbel
 clear hJ hG hall hb
 go_wp2
 go_ret
 exact ⟨by rw [HC6.out]; rfl, hbel⟩
end Go.Proofs.YtielgpefoameiaaGreat
namespace Go.Proofs.YtielgpefoameiaaGreat
open Go.RowKit
end Go.Proofs.YtielgpefoameiaaGreat
namespace Go.Proofs.YtielgpefoameiaaGreat
open Go Go.RowKit
theorem sc_256 {x : F} (h : x.val < Lq) : x.val / 2 ^ 256 = 0 := Nat.div_eq_of_lt (Nat.lt_trans h (by decide +kernel))
theorem mul_eight (P : EP) : Cp.mul 8 P = (Cp.add (Cp.add (Cp.add P P) (Cp.add P P)) (Cp.add (Cp.add P P) (Cp.add P P))) := by
 have h2 := mul_two' P
 rw [← h2, ← Cp.mul_add, ← Cp.mul_add]
set_option maxHeartbeats 4000000 in
theorem kZero  (w : World) :
  Calls Tryz.prog 82 #[] w fun e w' => ∃ r, e = .returned r ∧ IsFs rQ r [Cp.zero] ∧ Below w.heap.size w w' := by
 go_enter Tryz.func82, Tryz.ntmps82
 have hbel : Below w.heap.size w w := Below.refl _ _
 have hbel0 := hbel
 go_upto_region 0 with fail
 refine rgT [(0, 0)] [.new 48] ?_ ?_
 ·intro hs
  refine ⟨?_, trivial⟩
  ·exact step_alloc hs Wn rfl rfl (by omega) rfl allocPt
 intro L0 u0 W0 hall hJ hG
 obtain ⟨q0, e0, hq0, _, ht0⟩ := oN 48 hG 0
 have hq0 : w.heap.size ≤ q0 := by have := hbel0.size; omega
 have E0 := Lib.hid e0; clear e0
 have hb := hJ.all rfl
 have hbel := Below.call hbel hb
 have hbel0 := hbel
 clear hJ hG hall hb
 go_upto_region 1 with fail
 refine rgT [(1, 0), (0, 1), (0, 2)] [.val rR [fn 1], .val rR [fn 1], .val rR [0, fn 1, fn 1], .sto q0 rR [0, fn 1, fn 1]] ?_ ?_
 ·intro hs
  refine ⟨?_, ?_, ?_, ?_, trivial⟩
  ·refine step_call hs Wn rfl fun L u W hJ hG hL hdep K hK => ?_
   go_simp
   go_at_call 77
   (with_reducible refine (kSmallI (n := 1) (z := 1) rfl (by omega) _).mono ?_); rintro e w1 ⟨r, rfl, hr, hb⟩
   exact hK.out _ _ hr hb
  ·refine step_call hs Wn rfl fun L u W hJ hG hL hdep K hK => ?_
   go_simp
   go_at_call 77
   (with_reducible refine (kSmallI (n := 1) (z := 1) rfl (by omega) _).mono ?_); rintro e w1 ⟨r, rfl, hr, hb⟩
   exact hK.out _ _ hr hb
  ·refine step_pure hs Wn rfl fun L u W hG hdep => ?_
   have a0 := (vE rR [fn 1] hG hdep 0)
   have a1 := (vE rR [fn 1] hG hdep 1)
   obtain ⟨r, hr, hx⟩ := build_Pt12 a0 a1 W
   exact ⟨r, run_build12 rfl hr, hx⟩
  ·refine step_storeO q0 48 hs Wn rfl rfl (by kernel_rfl) (fun k hk => ?_) (fun _ => E0.out) (there_lt ht0 (by omega)) ht0 (gO 2) tyPt3 rfl
   rcases k with _ | _ | _ | _ | k
   all_goals first | (exact absurd rfl hk) | (intro e; cases e; done)
 intro L1 u1 W1 hall hJ hG
 have hb := hJ.beN hbel
 have hbel := hbel.trans hb
 obtain ⟨_, hs1_3t, hs1_3⟩ := oT 48 rR [0, fn 1, fn 1] hG 3
 have hbel0 := hbel
 clear hJ hG hall hb
 go_wp2
 exact ret_cell1 (R := rR) Tryz.results82 (by exact E0.out) hs1_3 tyPt3 rfl (fun r hr => ⟨r, rfl, isQ hr Prep.zero, hbel⟩)
set_option maxHeartbeats 4000000 in
theorem q_d_any  (w : World) :
  Calls Tryz.prog 81 #[] w fun e w' => ∃ r, e = .returned r ∧ IsFs rR r [-fn 121665 * finv (fn 121666)] ∧ Below w.heap.size w w' := by
 go_enter Tryz.func81, Tryz.ntmps81
 have hbel : Below w.heap.size w w := Below.refl _ _
 have hbel0 := hbel
 go_upto_region 0 with fail
 refine rgT [(0, 0)] [.new 16] ?_ ?_
 ·intro hs
  refine ⟨?_, trivial⟩
  ·exact step_alloc hs Wn rfl rfl (by omega) rfl allocFe
 intro L0 u0 W0 hall hJ hG
 obtain ⟨q0, e0, hq0, _, ht0⟩ := oN 16 hG 0
 have hq0 : w.heap.size ≤ q0 := by have := hbel0.size; omega
 have E0 := Lib.hid e0; clear e0
 have hb := hJ.all rfl
 have hbel := Below.call hbel hb
 have hbel0 := hbel
 clear hJ hG hall hb
 go_upto_region 1 with fail
 refine rgT [(1, 0), (0, 1), (0, 2), (0, 3), (0, 4)] [.val rR [fn 121665], .val rR [-(fn 121665)], .val rR [fn 121666], .val rR [finv (fn 121666)], .val rR [(-(fn 121665)) * (finv (fn 121666))], .sto q0 rR [(-(fn 121665)) * (finv (fn 121666))]] ?_ ?_
 ·intro hs
  refine ⟨?_, ?_, ?_, ?_, ?_, ?_, trivial⟩
  ·refine step_call hs Wn rfl fun L u W hJ hG hL hdep K hK => ?_
   go_simp
   go_at_call 77
   (with_reducible refine (kSmallI (n := 121665) (z := 121665) rfl (by omega) _).mono ?_); rintro e w1 ⟨r, rfl, hr, hb⟩
   exact hK.out _ _ hr hb
  ·refine step_call hs Wn rfl fun L u W hJ hG hL hdep K hK => ?_
   have a0 := (vE rR [fn 121665] hG hdep 0)
   go_simp
   go_at_call 104
   (with_reducible refine (kNeg a0 _).mono ?_); rintro e w1 ⟨r, rfl, hr, hb⟩
   exact hK.out _ _ hr hb
  ·refine step_call hs Wn rfl fun L u W hJ hG hL hdep K hK => ?_
   go_simp
   go_at_call 77
   (with_reducible refine (kSmallI (n := 121666) (z := 121666) rfl (by omega) _).mono ?_); rintro e w1 ⟨r, rfl, hr, hb⟩
   exact hK.out _ _ hr hb
  ·refine step_call hs Wn rfl fun L u W hJ hG hL hdep K hK => ?_
   have a0 := (vE rR [fn 121666] hG hdep 2)
   go_simp
   go_at_call 79
   (with_reducible refine (kInv a0 _).mono ?_); rintro e w1 ⟨r, rfl, hr, hb⟩
   exact hK.out _ _ hr hb
  ·refine step_call hs Wn rfl fun L u W hJ hG hL hdep K hK => ?_
   have a0 := (vE rR [-(fn 121665)] hG hdep 1)
   have a1 := (vE rR [finv (fn 121666)] hG hdep 3)
   go_simp
   go_at_call 78
   (with_reducible refine (kMul a0 a1 _).mono ?_); rintro e w1 ⟨r, rfl, hr, hb⟩
   exact hK.out _ _ hr hb
  ·refine step_storeO q0 16 hs Wn rfl rfl (by kernel_rfl) (fun k hk => ?_) (fun _ => E0.out) (there_lt ht0 (by omega)) ht0 (gO 4) tyFe rfl
   rcases k with _ | _ | _ | _ | _ | _ | k
   all_goals first | (exact absurd rfl hk) | (intro e; cases e; done)
 intro L1 u1 W1 hall hJ hG
 have hb := hJ.beN hbel
 have hbel := hbel.trans hb
 obtain ⟨_, hs1_5t, hs1_5⟩ := oT 16 rR [(-(fn 121665)) * (finv (fn 121666))] hG 5
 have hbel0 := hbel
 clear hJ hG hall hb
 go_wp2
 exact ret_cell1 (R := rR) Tryz.results81 (by exact E0.out) hs1_5 tyFe rfl (fun r hr => ⟨r, rfl, hr, hbel⟩)
theorem kCurve (w : World) : Calls Tryz.prog 81 #[] w fun e w' => ∃ r, e = .returned r ∧ IsFs rR r [dE] ∧ Below w.heap.size w w' := by
 have h := q_d_any w
 rw [d_is] at h
 exact h
set_option maxHeartbeats 4000000 in
theorem q_add_any {v0 v1 v2 : Value} {X Y Z X' Y' Z' D : F} (h0 : IsFs rR v0 [X, Y, Z]) (h1 : IsFs rR v1 [X', Y', Z']) (h2 : IsFs rR v2 [D]) (w : World) :
  Calls Tryz.prog 83 #[v0, v1, v2] w fun e w' => ∃ r, e = .returned r ∧ IsFs rR r [((Z * Z') * (((Z * Z') * (Z * Z')) - (D * ((X * X') * (Y * Y'))))) * ((X * Y') + (X' * Y)), ((Z * Z') * (((Z * Z') * (Z * Z')) + (D * ((X * X') * (Y * Y'))))) * ((Y * Y') + (X * X')), (((Z * Z') * (Z * Z')) - (D * ((X * X') * (Y * Y')))) * (((Z * Z') * (Z * Z')) + (D * ((X * X') * (Y * Y'))))] ∧ Below w.heap.size w w' := by
 go_enter Tryz.func83, Tryz.ntmps83
 have hbel : Below w.heap.size w w := Below.refl _ _
 have hbel0 := hbel
 go_upto_region 0 with fail
 refine rgT [(3, 0), (0, 1), (0, 2), (0, 3)] [.box rR [X, Y, Z], .box rR [X', Y', Z'], .box rR [D], .new 48] ?_ ?_
 ·intro hs
  refine ⟨?_, ?_, ?_, ?_, trivial⟩
  ·exact step_box hs Wn rfl rfl (gives_c h0 (fun _ => rfl))
  ·exact step_box hs Wn rfl rfl (gives_c h1 (fun _ => rfl))
  ·exact step_box hs Wn rfl rfl (gives_c h2 (fun _ => rfl))
  ·exact step_alloc hs Wn rfl rfl (by omega) rfl allocPt
 intro L0 u0 W0 hall hJ hG
 obtain ⟨q3, e3, ⟨hq3, _⟩, ht3, hm3⟩ := oB 48 rR [X, Y, Z] hG 0
 have hq3 : w.heap.size ≤ q3 := by have := hbel0.size; omega
 have E3 := Lib.hid e3; clear e3
 obtain ⟨q4, e4, ⟨hq4, _⟩, ht4, hm4⟩ := oB 48 rR [X', Y', Z'] hG 1
 have hq4 : w.heap.size ≤ q4 := by have := hbel0.size; omega
 have E4 := Lib.hid e4; clear e4
 obtain ⟨q5, e5, ⟨hq5, _⟩, ht5, hm5⟩ := oB 16 rR [D] hG 2
 have hq5 : w.heap.size ≤ q5 := by have := hbel0.size; omega
 have E5 := Lib.hid e5; clear e5
 obtain ⟨q6, e6, hq6, _, ht6⟩ := oN 48 hG 3
 have hq6 : w.heap.size ≤ q6 := by have := hbel0.size; omega
 have E6 := Lib.hid e6; clear e6
 have hb := hJ.all rfl
 have hbel := Below.call hbel hb
 have HN3_6 := Lib.hid (show q3 ≠ q6 from fun e => hJ.apart 0 3 _ (by omega) (hall _ (by simp)) (hall _ (by simp)) rfl rfl (E3.out.trans (by rw [e])) E6.out)
 have HN4_6 := Lib.hid (show q4 ≠ q6 from fun e => hJ.apart 1 3 _ (by omega) (hall _ (by simp)) (hall _ (by simp)) rfl rfl (E4.out.trans (by rw [e])) E6.out)
 have HN5_6 := Lib.hid (show q5 ≠ q6 from fun e => hJ.apart 2 3 _ (by omega) (hall _ (by simp)) (hall _ (by simp)) rfl rfl (E5.out.trans (by rw [e])) E6.out)
 have hbel0 := hbel
 clear hJ hG hall hb
 go_upto_region 1 with fail
 refine rgT [(7, 5), (7, 0), (0, 1), (0, 2), (0, 3), (0, 4)] [.ptr q3 32, .val rR [Z], .ptr q4 32, .val rR [Z'], .val rR [Z * Z'], .new 16, .st 5 rR [Z * Z']] ?_ ?_
 ·intro hs
  refine ⟨?_, ?_, ?_, ?_, ?_, ?_, ?_, trivial⟩
  ·exact step_field hs Wn rfl rfl (fun _ => E3.out) (field_Pt2 _)
  ·exact step_loadF 0 q3 32 hs Wn rfl rfl tyFe (fun _ => rfl) rfl (by kernel_rfl) hm3.lt (hm3.fld 2 1) Na
  ·exact step_field hs Wn rfl rfl (fun _ => E4.out) (field_Pt2 _)
  ·exact step_loadF 2 q4 32 hs Wn rfl rfl tyFe (fun _ => rfl) rfl (by kernel_rfl) hm4.lt (hm4.fld 2 1) Na
  ·refine step_call hs Wn rfl fun L u W hJ hG hL hdep K hK => ?_
   have a0 := (vE rR [Z] hG hdep 1)
   have a1 := (vE rR [Z'] hG hdep 3)
   go_simp
   go_at_call 78
   (with_reducible refine (kMul a0 a1 _).mono ?_); rintro e w1 ⟨r, rfl, hr, hb⟩
   exact hK.out _ _ hr hb
  ·exact step_alloc hs Wn rfl rfl (by omega) rfl allocFe
  ·exact step_store 5 hs (by kernel_rfl) Wn rfl rfl rfl (by kernel_rfl) (by kernel_rfl) (by kernel_rfl) (by kernel_rfl) (fun _ => rfl) (gO 4) tyFe rfl
 intro L1 u1 W1 hall hJ hG
 obtain ⟨q7, e7, hq7, _, ht7⟩ := oN 16 hG 5
 have hm7 := oS rR [Z * Z'] hG 6 e7
 have HD7_q3 := Lib.hid (show q3 ≠ q7 by have := there_lt ht3 (by omega); omega)
 have HD7_q4 := Lib.hid (show q4 ≠ q7 by have := there_lt ht4 (by omega); omega)
 have HD7_q5 := Lib.hid (show q5 ≠ q7 by have := there_lt ht5 (by omega); omega)
 have HD7_q6 := Lib.hid (show q6 ≠ q7 by have := there_lt ht6 (by omega); omega)
 have hq7 : w.heap.size ≤ q7 := by have := hbel0.size; omega
 have E7 := Lib.hid e7; clear e7
 have hb := hJ.all rfl
 have hbel := Below.call hbel hb
 have hm3 := hm3.later hb
 have hm4 := hm4.later hb
 have hm5 := hm5.later hb
 have ht3 := there_later ht3 hb
 have ht4 := there_later ht4 hb
 have ht5 := there_later ht5 hb
 have ht6 := there_later ht6 hb
 have hbel0 := hbel
 clear hJ hG hall hb
 go_upto_region 2 with fail
 refine rgT [(8, 3), (11, 0), (0, 1), (0, 2)] [.val rR [Z * Z'], .val rR [Z * Z'], .val rR [(Z * Z') * (Z * Z')], .new 16, .st 3 rR [(Z * Z') * (Z * Z')]] ?_ ?_
 ·intro hs
  refine ⟨?_, ?_, ?_, ?_, ?_, trivial⟩
  ·exact step_load q7 0 hs Wn rfl rfl tyFe (fun _ => E7.out) hm7.lt hm7 Na
  ·exact step_load q7 0 hs Wn rfl rfl tyFe (fun _ => E7.out) hm7.lt hm7 Na
  ·refine step_call hs Wn rfl fun L u W hJ hG hL hdep K hK => ?_
   have a0 := (vE rR [Z * Z'] hG hdep 0)
   have a1 := (vE rR [Z * Z'] hG hdep 1)
   go_simp
   go_at_call 78
   (with_reducible refine (kMul a0 a1 _).mono ?_); rintro e w1 ⟨r, rfl, hr, hb⟩
   exact hK.out _ _ hr hb
  ·exact step_alloc hs Wn rfl rfl (by omega) rfl allocFe
  ·exact step_store 3 hs (by kernel_rfl) Wn rfl rfl rfl (by kernel_rfl) (by kernel_rfl) (by kernel_rfl) (by kernel_rfl) (fun _ => rfl) (gO 2) tyFe rfl
 intro L2 u2 W2 hall hJ hG
 obtain ⟨q8, e8, hq8, _, ht8⟩ := oN 16 hG 3
 have hm8 := oS rR [(Z * Z') * (Z * Z')] hG 4 e8
 have HD8_q3 := Lib.hid (show q3 ≠ q8 by have := there_lt ht3 (by omega); omega)
 have HD8_q4 := Lib.hid (show q4 ≠ q8 by have := there_lt ht4 (by omega); omega)
 have HD8_q5 := Lib.hid (show q5 ≠ q8 by have := there_lt ht5 (by omega); omega)
 have HD8_q6 := Lib.hid (show q6 ≠ q8 by have := there_lt ht6 (by omega); omega)
 have HD8_q7 := Lib.hid (show q7 ≠ q8 by have := there_lt ht7 (by omega); omega)
 have hq8 : w.heap.size ≤ q8 := by have := hbel0.size; omega
 have E8 := Lib.hid e8; clear e8
 have hb := hJ.all rfl
 have hbel := Below.call hbel hb
 have hm3 := hm3.later hb
 have hm4 := hm4.later hb
 have hm5 := hm5.later hb
 have hm7 := hm7.later hb
 have ht3 := there_later ht3 hb
 have ht4 := there_later ht4 hb
 have ht5 := there_later ht5 hb
 have ht6 := there_later ht6 hb
 have ht7 := there_later ht7 hb
 have hbel0 := hbel
 clear hJ hG hall hb
 go_upto_region 3 with fail
 refine rgT [(9, 5), (13, 0), (0, 1), (0, 2), (0, 3), (0, 4)] [.ptr q3 0, .val rR [X], .ptr q4 0, .val rR [X'], .val rR [X * X'], .new 16, .st 5 rR [X * X']] ?_ ?_
 ·intro hs
  refine ⟨?_, ?_, ?_, ?_, ?_, ?_, ?_, trivial⟩
  ·exact step_field hs Wn rfl rfl (fun _ => E3.out) (field_Pt0 _)
  ·exact step_loadF 0 q3 0 hs Wn rfl rfl tyFe (fun _ => rfl) rfl (by kernel_rfl) hm3.lt (hm3.fld 0 1) Na
  ·exact step_field hs Wn rfl rfl (fun _ => E4.out) (field_Pt0 _)
  ·exact step_loadF 2 q4 0 hs Wn rfl rfl tyFe (fun _ => rfl) rfl (by kernel_rfl) hm4.lt (hm4.fld 0 1) Na
  ·refine step_call hs Wn rfl fun L u W hJ hG hL hdep K hK => ?_
   have a0 := (vE rR [X] hG hdep 1)
   have a1 := (vE rR [X'] hG hdep 3)
   go_simp
   go_at_call 78
   (with_reducible refine (kMul a0 a1 _).mono ?_); rintro e w1 ⟨r, rfl, hr, hb⟩
   exact hK.out _ _ hr hb
  ·exact step_alloc hs Wn rfl rfl (by omega) rfl allocFe
  ·exact step_store 5 hs (by kernel_rfl) Wn rfl rfl rfl (by kernel_rfl) (by kernel_rfl) (by kernel_rfl) (by kernel_rfl) (fun _ => rfl) (gO 4) tyFe rfl
 intro L3 u3 W3 hall hJ hG
 obtain ⟨q9, e9, hq9, _, ht9⟩ := oN 16 hG 5
 have hm9 := oS rR [X * X'] hG 6 e9
 have HD9_q3 := Lib.hid (show q3 ≠ q9 by have := there_lt ht3 (by omega); omega)
 have HD9_q4 := Lib.hid (show q4 ≠ q9 by have := there_lt ht4 (by omega); omega)
 have HD9_q5 := Lib.hid (show q5 ≠ q9 by have := there_lt ht5 (by omega); omega)
 have HD9_q6 := Lib.hid (show q6 ≠ q9 by have := there_lt ht6 (by omega); omega)
 have HD9_q7 := Lib.hid (show q7 ≠ q9 by have := there_lt ht7 (by omega); omega)
 have HD9_q8 := Lib.hid (show q8 ≠ q9 by have := there_lt ht8 (by omega); omega)
 have hq9 : w.heap.size ≤ q9 := by have := hbel0.size; omega
 have E9 := Lib.hid e9; clear e9
 have hb := hJ.all rfl
 have hbel := Below.call hbel hb
 have hm3 := hm3.later hb
 have hm4 := hm4.later hb
 have hm5 := hm5.later hb
 have hm7 := hm7.later hb
 have hm8 := hm8.later hb
 have ht3 := there_later ht3 hb
 have ht4 := there_later ht4 hb
 have ht5 := there_later ht5 hb
 have ht6 := there_later ht6 hb
 have ht7 := there_later ht7 hb
 have ht8 := there_later ht8 hb
 have hbel0 := hbel
 clear hJ hG hall hb
 go_upto_region 4 with fail
 refine rgT [(10, 5), (17, 0), (0, 1), (0, 2), (0, 3), (0, 4)] [.ptr q3 16, .val rR [Y], .ptr q4 16, .val rR [Y'], .val rR [Y * Y'], .new 16, .st 5 rR [Y * Y']] ?_ ?_
 ·intro hs
  refine ⟨?_, ?_, ?_, ?_, ?_, ?_, ?_, trivial⟩
  ·exact step_field hs Wn rfl rfl (fun _ => E3.out) (field_Pt1 _)
  ·exact step_loadF 0 q3 16 hs Wn rfl rfl tyFe (fun _ => rfl) rfl (by kernel_rfl) hm3.lt (hm3.fld 1 1) Na
  ·exact step_field hs Wn rfl rfl (fun _ => E4.out) (field_Pt1 _)
  ·exact step_loadF 2 q4 16 hs Wn rfl rfl tyFe (fun _ => rfl) rfl (by kernel_rfl) hm4.lt (hm4.fld 1 1) Na
  ·refine step_call hs Wn rfl fun L u W hJ hG hL hdep K hK => ?_
   have a0 := (vE rR [Y] hG hdep 1)
   have a1 := (vE rR [Y'] hG hdep 3)
   go_simp
   go_at_call 78
   (with_reducible refine (kMul a0 a1 _).mono ?_); rintro e w1 ⟨r, rfl, hr, hb⟩
   exact hK.out _ _ hr hb
  ·exact step_alloc hs Wn rfl rfl (by omega) rfl allocFe
  ·exact step_store 5 hs (by kernel_rfl) Wn rfl rfl rfl (by kernel_rfl) (by kernel_rfl) (by kernel_rfl) (by kernel_rfl) (fun _ => rfl) (gO 4) tyFe rfl
 intro L4 u4 W4 hall hJ hG
 obtain ⟨q10, e10, hq10, _, ht10⟩ := oN 16 hG 5
 have hm10 := oS rR [Y * Y'] hG 6 e10
 have HD10_q3 := Lib.hid (show q3 ≠ q10 by have := there_lt ht3 (by omega); omega)
 have HD10_q4 := Lib.hid (show q4 ≠ q10 by have := there_lt ht4 (by omega); omega)
 have HD10_q5 := Lib.hid (show q5 ≠ q10 by have := there_lt ht5 (by omega); omega)
 have HD10_q6 := Lib.hid (show q6 ≠ q10 by have := there_lt ht6 (by omega); omega)
 have HD10_q7 := Lib.hid (show q7 ≠ q10 by have := there_lt ht7 (by omega); omega)
 have HD10_q8 := Lib.hid (show q8 ≠ q10 by have := there_lt ht8 (by omega); omega)
 have HD10_q9 := Lib.hid (show q9 ≠ q10 by have := there_lt ht9 (by omega); omega)
 have hq10 : w.heap.size ≤ q10 := by have := hbel0.size; omega
 have E10 := Lib.hid e10; clear e10
 have hb := hJ.all rfl
 have hbel := Below.call hbel hb
 have hm3 := hm3.later hb
 have hm4 := hm4.later hb
 have hm5 := hm5.later hb
 have hm7 := hm7.later hb
 have hm8 := hm8.later hb
 have hm9 := hm9.later hb
 have ht3 := there_later ht3 hb
 have ht4 := there_later ht4 hb
 have ht5 := there_later ht5 hb
 have ht6 := there_later ht6 hb
 have ht7 := there_later ht7 hb
 have ht8 := there_later ht8 hb
 have ht9 := there_later ht9 hb
 have hbel0 := hbel
 clear hJ hG hall hb
 go_upto_region 5 with fail
 refine rgM [(11, 5), (21, 0), (0, 1), (0, 2), (0, 3), (0, 4)] [.val rR [D], .val rR [X * X'], .val rR [Y * Y'], .val rR [(X * X') * (Y * Y')], .val rR [D * ((X * X') * (Y * Y'))], .new 16, .st 5 rR [D * ((X * X') * (Y * Y'))]] ?_ ?_
 ·intro hs
  refine ⟨?_, ?_, ?_, ?_, ?_, ?_, ?_, trivial⟩
  ·exact step_load q5 0 hs Wn rfl rfl tyFe (fun _ => E5.out) hm5.lt hm5 Na
  ·exact step_load q9 0 hs Wn rfl rfl tyFe (fun _ => E9.out) hm9.lt hm9 Na
  ·exact step_load q10 0 hs Wn rfl rfl tyFe (fun _ => E10.out) hm10.lt hm10 Na
  ·refine step_call hs Wn rfl fun L u W hJ hG hL hdep K hK => ?_
   have a0 := (vE rR [X * X'] hG hdep 1)
   have a1 := (vE rR [Y * Y'] hG hdep 2)
   go_simp
   go_at_call 78
   (with_reducible refine (kMul a0 a1 _).mono ?_); rintro e w1 ⟨r, rfl, hr, hb⟩
   exact hK.out _ _ hr hb
  ·refine step_call hs Wn rfl fun L u W hJ hG hL hdep K hK => ?_
   have a0 := (vE rR [D] hG hdep 0)
   have a1 := (vE rR [(X * X') * (Y * Y')] hG hdep 3)
   go_simp
   go_at_call 78
   (with_reducible refine (kMul a0 a1 _).mono ?_); rintro e w1 ⟨r, rfl, hr, hb⟩
   exact hK.out _ _ hr hb
  ·exact step_alloc hs Wn rfl rfl (by omega) rfl allocFe
  ·exact step_store 5 hs (by kernel_rfl) Wn rfl rfl rfl (by kernel_rfl) (by kernel_rfl) (by kernel_rfl) (by kernel_rfl) (fun _ => rfl) (gO 4) tyFe rfl
 intro L5 u5 W5 hall hJ hG
 obtain ⟨q11, e11, hq11, _, ht11⟩ := oN 16 hG 5
 have hm11 := oS rR [D * ((X * X') * (Y * Y'))] hG 6 e11
 have HD11_q3 := Lib.hid (show q3 ≠ q11 by have := there_lt ht3 (by omega); omega)
 have HD11_q4 := Lib.hid (show q4 ≠ q11 by have := there_lt ht4 (by omega); omega)
 have HD11_q5 := Lib.hid (show q5 ≠ q11 by have := there_lt ht5 (by omega); omega)
 have HD11_q6 := Lib.hid (show q6 ≠ q11 by have := there_lt ht6 (by omega); omega)
 have HD11_q7 := Lib.hid (show q7 ≠ q11 by have := there_lt ht7 (by omega); omega)
 have HD11_q8 := Lib.hid (show q8 ≠ q11 by have := there_lt ht8 (by omega); omega)
 have HD11_q9 := Lib.hid (show q9 ≠ q11 by have := there_lt ht9 (by omega); omega)
 have HD11_q10 := Lib.hid (show q10 ≠ q11 by have := there_lt ht10 (by omega); omega)
 have hq11 : w.heap.size ≤ q11 := by have := hbel0.size; omega
 have E11 := Lib.hid e11; clear e11
 have hb := hJ.all rfl
 have hbel := Below.call hbel hb
 have hm3 := hm3.later hb
 have hm4 := hm4.later hb
 have hm5 := hm5.later hb
 have hm7 := hm7.later hb
 have hm8 := hm8.later hb
 have hm9 := hm9.later hb
 have hm10 := hm10.later hb
 have ht3 := there_later ht3 hb
 have ht4 := there_later ht4 hb
 have ht5 := there_later ht5 hb
 have ht6 := there_later ht6 hb
 have ht7 := there_later ht7 hb
 have ht8 := there_later ht8 hb
 have ht9 := there_later ht9 hb
 have ht10 := there_later ht10 hb
 have hbel0 := hbel
 clear hJ hG hall hb
 go_upto_region 6 with fail
 refine rgT [(12, 3), (25, 0), (0, 1), (0, 2)] [.val rR [(Z * Z') * (Z * Z')], .val rR [D * ((X * X') * (Y * Y'))], .val rR [((Z * Z') * (Z * Z')) - (D * ((X * X') * (Y * Y')))], .new 16, .st 3 rR [((Z * Z') * (Z * Z')) - (D * ((X * X') * (Y * Y')))]] ?_ ?_
 ·intro hs
  refine ⟨?_, ?_, ?_, ?_, ?_, trivial⟩
  ·exact step_load q8 0 hs Wn rfl rfl tyFe (fun _ => E8.out) hm8.lt hm8 Na
  ·exact step_load q11 0 hs Wn rfl rfl tyFe (fun _ => E11.out) hm11.lt hm11 Na
  ·refine step_call hs Wn rfl fun L u W hJ hG hL hdep K hK => ?_
   have a0 := (vE rR [(Z * Z') * (Z * Z')] hG hdep 0)
   have a1 := (vE rR [D * ((X * X') * (Y * Y'))] hG hdep 1)
   go_simp
   go_at_call 101
   (with_reducible refine (kSub a0 a1 _).mono ?_); rintro e w1 ⟨r, rfl, hr, hb⟩
   exact hK.out _ _ hr hb
  ·exact step_alloc hs Wn rfl rfl (by omega) rfl allocFe
  ·exact step_store 3 hs (by kernel_rfl) Wn rfl rfl rfl (by kernel_rfl) (by kernel_rfl) (by kernel_rfl) (by kernel_rfl) (fun _ => rfl) (gO 2) tyFe rfl
 intro L6 u6 W6 hall hJ hG
 obtain ⟨q12, e12, hq12, _, ht12⟩ := oN 16 hG 3
 have hm12 := oS rR [((Z * Z') * (Z * Z')) - (D * ((X * X') * (Y * Y')))] hG 4 e12
 have HD12_q3 := Lib.hid (show q3 ≠ q12 by have := there_lt ht3 (by omega); omega)
 have HD12_q4 := Lib.hid (show q4 ≠ q12 by have := there_lt ht4 (by omega); omega)
 have HD12_q5 := Lib.hid (show q5 ≠ q12 by have := there_lt ht5 (by omega); omega)
 have HD12_q6 := Lib.hid (show q6 ≠ q12 by have := there_lt ht6 (by omega); omega)
 have HD12_q7 := Lib.hid (show q7 ≠ q12 by have := there_lt ht7 (by omega); omega)
 have HD12_q8 := Lib.hid (show q8 ≠ q12 by have := there_lt ht8 (by omega); omega)
 have HD12_q9 := Lib.hid (show q9 ≠ q12 by have := there_lt ht9 (by omega); omega)
 have HD12_q10 := Lib.hid (show q10 ≠ q12 by have := there_lt ht10 (by omega); omega)
 have HD12_q11 := Lib.hid (show q11 ≠ q12 by have := there_lt ht11 (by omega); omega)
 have hq12 : w.heap.size ≤ q12 := by have := hbel0.size; omega
 have E12 := Lib.hid e12; clear e12
 have hb := hJ.all rfl
 have hbel := Below.call hbel hb
 have hm3 := hm3.later hb
 have hm4 := hm4.later hb
 have hm5 := hm5.later hb
 have hm7 := hm7.later hb
 have hm8 := hm8.later hb
 have hm9 := hm9.later hb
 have hm10 := hm10.later hb
 have hm11 := hm11.later hb
 have ht3 := there_later ht3 hb
 have ht4 := there_later ht4 hb
 have ht5 := there_later ht5 hb
 have ht6 := there_later ht6 hb
 have ht7 := there_later ht7 hb
 have ht8 := there_later ht8 hb
 have ht9 := there_later ht9 hb
 have ht10 := there_later ht10 hb
 have ht11 := there_later ht11 hb
 have hbel0 := hbel
 clear hJ hG hall hb
 go_upto_region 7 with fail
 refine rgT [(13, 3), (27, 0), (0, 1), (0, 2)] [.val rR [(Z * Z') * (Z * Z')], .val rR [D * ((X * X') * (Y * Y'))], .val rR [((Z * Z') * (Z * Z')) + (D * ((X * X') * (Y * Y')))], .new 16, .st 3 rR [((Z * Z') * (Z * Z')) + (D * ((X * X') * (Y * Y')))]] ?_ ?_
 ·intro hs
  refine ⟨?_, ?_, ?_, ?_, ?_, trivial⟩
  ·exact step_load q8 0 hs Wn rfl rfl tyFe (fun _ => E8.out) hm8.lt hm8 Na
  ·exact step_load q11 0 hs Wn rfl rfl tyFe (fun _ => E11.out) hm11.lt hm11 Na
  ·refine step_call hs Wn rfl fun L u W hJ hG hL hdep K hK => ?_
   have a0 := (vE rR [(Z * Z') * (Z * Z')] hG hdep 0)
   have a1 := (vE rR [D * ((X * X') * (Y * Y'))] hG hdep 1)
   go_simp
   go_at_call 102
   (with_reducible refine (kAdd a0 a1 _).mono ?_); rintro e w1 ⟨r, rfl, hr, hb⟩
   exact hK.out _ _ hr hb
  ·exact step_alloc hs Wn rfl rfl (by omega) rfl allocFe
  ·exact step_store 3 hs (by kernel_rfl) Wn rfl rfl rfl (by kernel_rfl) (by kernel_rfl) (by kernel_rfl) (by kernel_rfl) (fun _ => rfl) (gO 2) tyFe rfl
 intro L7 u7 W7 hall hJ hG
 obtain ⟨q13, e13, hq13, _, ht13⟩ := oN 16 hG 3
 have hm13 := oS rR [((Z * Z') * (Z * Z')) + (D * ((X * X') * (Y * Y')))] hG 4 e13
 have HD13_q3 := Lib.hid (show q3 ≠ q13 by have := there_lt ht3 (by omega); omega)
 have HD13_q4 := Lib.hid (show q4 ≠ q13 by have := there_lt ht4 (by omega); omega)
 have HD13_q5 := Lib.hid (show q5 ≠ q13 by have := there_lt ht5 (by omega); omega)
 have HD13_q6 := Lib.hid (show q6 ≠ q13 by have := there_lt ht6 (by omega); omega)
 have HD13_q7 := Lib.hid (show q7 ≠ q13 by have := there_lt ht7 (by omega); omega)
 have HD13_q8 := Lib.hid (show q8 ≠ q13 by have := there_lt ht8 (by omega); omega)
 have HD13_q9 := Lib.hid (show q9 ≠ q13 by have := there_lt ht9 (by omega); omega)
 have HD13_q10 := Lib.hid (show q10 ≠ q13 by have := there_lt ht10 (by omega); omega)
 have HD13_q11 := Lib.hid (show q11 ≠ q13 by have := there_lt ht11 (by omega); omega)
 have HD13_q12 := Lib.hid (show q12 ≠ q13 by have := there_lt ht12 (by omega); omega)
 have hq13 : w.heap.size ≤ q13 := by have := hbel0.size; omega
 have E13 := Lib.hid e13; clear e13
 have hb := hJ.all rfl
 have hbel := Below.call hbel hb
 have hm3 := hm3.later hb
 have hm4 := hm4.later hb
 have hm5 := hm5.later hb
 have hm7 := hm7.later hb
 have hm8 := hm8.later hb
 have hm9 := hm9.later hb
 have hm10 := hm10.later hb
 have hm11 := hm11.later hb
 have hm12 := hm12.later hb
 have ht3 := there_later ht3 hb
 have ht4 := there_later ht4 hb
 have ht5 := there_later ht5 hb
 have ht6 := there_later ht6 hb
 have ht7 := there_later ht7 hb
 have ht8 := there_later ht8 hb
 have ht9 := there_later ht9 hb
 have ht10 := there_later ht10 hb
 have ht11 := there_later ht11 hb
 have ht12 := there_later ht12 hb
 have hbel0 := hbel
 clear hJ hG hall hb
 go_upto_region 8 with fail
 refine rgM [(14, 11), (29, 0), (0, 1), (0, 2), (0, 3), (0, 4), (0, 5), (0, 6), (0, 7), (0, 8), (0, 9), (0, 10)] [.ptr q3 0, .val rR [X], .ptr q4 16, .val rR [Y'], .val rR [X * Y'], .ptr q4 0, .val rR [X'], .ptr q3 16, .val rR [Y], .val rR [X' * Y], .val rR [(X * Y') + (X' * Y)], .new 16, .st 11 rR [(X * Y') + (X' * Y)]] ?_ ?_
 ·intro hs
  refine ⟨?_, ?_, ?_, ?_, ?_, ?_, ?_, ?_, ?_, ?_, ?_, ?_, ?_, trivial⟩
  ·exact step_field hs Wn rfl rfl (fun _ => E3.out) (field_Pt0 _)
  ·exact step_loadF 0 q3 0 hs Wn rfl rfl tyFe (fun _ => rfl) rfl (by kernel_rfl) hm3.lt (hm3.fld 0 1) Na
  ·exact step_field hs Wn rfl rfl (fun _ => E4.out) (field_Pt1 _)
  ·exact step_loadF 2 q4 16 hs Wn rfl rfl tyFe (fun _ => rfl) rfl (by kernel_rfl) hm4.lt (hm4.fld 1 1) Na
  ·refine step_call hs Wn rfl fun L u W hJ hG hL hdep K hK => ?_
   have a0 := (vE rR [X] hG hdep 1)
   have a1 := (vE rR [Y'] hG hdep 3)
   go_simp
   go_at_call 78
   (with_reducible refine (kMul a0 a1 _).mono ?_); rintro e w1 ⟨r, rfl, hr, hb⟩
   exact hK.out _ _ hr hb
  ·exact step_field hs Wn rfl rfl (fun _ => E4.out) (field_Pt0 _)
  ·exact step_loadF 5 q4 0 hs Wn rfl rfl tyFe (fun _ => rfl) rfl (by kernel_rfl) hm4.lt (hm4.fld 0 1) Na
  ·exact step_field hs Wn rfl rfl (fun _ => E3.out) (field_Pt1 _)
  ·exact step_loadF 7 q3 16 hs Wn rfl rfl tyFe (fun _ => rfl) rfl (by kernel_rfl) hm3.lt (hm3.fld 1 1) Na
  ·refine step_call hs Wn rfl fun L u W hJ hG hL hdep K hK => ?_
   have a0 := (vE rR [X'] hG hdep 6)
   have a1 := (vE rR [Y] hG hdep 8)
   go_simp
   go_at_call 78
   (with_reducible refine (kMul a0 a1 _).mono ?_); rintro e w1 ⟨r, rfl, hr, hb⟩
   exact hK.out _ _ hr hb
  ·refine step_call hs Wn rfl fun L u W hJ hG hL hdep K hK => ?_
   have a0 := (vE rR [X * Y'] hG hdep 4)
   have a1 := (vE rR [X' * Y] hG hdep 9)
   go_simp
   go_at_call 102
   (with_reducible refine (kAdd a0 a1 _).mono ?_); rintro e w1 ⟨r, rfl, hr, hb⟩
   exact hK.out _ _ hr hb
  ·exact step_alloc hs Wn rfl rfl (by omega) rfl allocFe
  ·exact step_store 11 hs (by kernel_rfl) Wn rfl rfl rfl (by kernel_rfl) (by kernel_rfl) (by kernel_rfl) (by kernel_rfl) (fun _ => rfl) (gO 10) tyFe rfl
 intro L8 u8 W8 hall hJ hG
 obtain ⟨q14, e14, hq14, _, ht14⟩ := oN 16 hG 11
 have hm14 := oS rR [(X * Y') + (X' * Y)] hG 12 e14
 have HD14_q3 := Lib.hid (show q3 ≠ q14 by have := there_lt ht3 (by omega); omega)
 have HD14_q4 := Lib.hid (show q4 ≠ q14 by have := there_lt ht4 (by omega); omega)
 have HD14_q5 := Lib.hid (show q5 ≠ q14 by have := there_lt ht5 (by omega); omega)
 have HD14_q6 := Lib.hid (show q6 ≠ q14 by have := there_lt ht6 (by omega); omega)
 have HD14_q7 := Lib.hid (show q7 ≠ q14 by have := there_lt ht7 (by omega); omega)
 have HD14_q8 := Lib.hid (show q8 ≠ q14 by have := there_lt ht8 (by omega); omega)
 have HD14_q9 := Lib.hid (show q9 ≠ q14 by have := there_lt ht9 (by omega); omega)
 have HD14_q10 := Lib.hid (show q10 ≠ q14 by have := there_lt ht10 (by omega); omega)
 have HD14_q11 := Lib.hid (show q11 ≠ q14 by have := there_lt ht11 (by omega); omega)
 have HD14_q12 := Lib.hid (show q12 ≠ q14 by have := there_lt ht12 (by omega); omega)
 have HD14_q13 := Lib.hid (show q13 ≠ q14 by have := there_lt ht13 (by omega); omega)
 have hq14 : w.heap.size ≤ q14 := by have := hbel0.size; omega
 have E14 := Lib.hid e14; clear e14
 have hb := hJ.all rfl
 have hbel := Below.call hbel hb
 have hm3 := hm3.later hb
 have hm4 := hm4.later hb
 have hm5 := hm5.later hb
 have hm7 := hm7.later hb
 have hm8 := hm8.later hb
 have hm9 := hm9.later hb
 have hm10 := hm10.later hb
 have hm11 := hm11.later hb
 have hm12 := hm12.later hb
 have hm13 := hm13.later hb
 have ht3 := there_later ht3 hb
 have ht4 := there_later ht4 hb
 have ht5 := there_later ht5 hb
 have ht6 := there_later ht6 hb
 have ht7 := there_later ht7 hb
 have ht8 := there_later ht8 hb
 have ht9 := there_later ht9 hb
 have ht10 := there_later ht10 hb
 have ht11 := there_later ht11 hb
 have ht12 := there_later ht12 hb
 have ht13 := there_later ht13 hb
 have hbel0 := hbel
 clear hJ hG hall hb
 go_upto_region 9 with fail
 refine rgM [(55, 0), (0, 1), (0, 2), (0, 3), (0, 4), (0, 5), (0, 6), (0, 7), (0, 8), (0, 9), (0, 10), (0, 11), (0, 12), (0, 13), (0, 14), (0, 15)] [.val rR [Z * Z'], .val rR [((Z * Z') * (Z * Z')) - (D * ((X * X') * (Y * Y')))], .val rR [(Z * Z') * (((Z * Z') * (Z * Z')) - (D * ((X * X') * (Y * Y'))))], .val rR [(X * Y') + (X' * Y)], .val rR [((Z * Z') * (((Z * Z') * (Z * Z')) - (D * ((X * X') * (Y * Y'))))) * ((X * Y') + (X' * Y))], .val rR [Z * Z'], .val rR [((Z * Z') * (Z * Z')) + (D * ((X * X') * (Y * Y')))], .val rR [(Z * Z') * (((Z * Z') * (Z * Z')) + (D * ((X * X') * (Y * Y'))))], .val rR [Y * Y'], .val rR [X * X'], .val rR [(Y * Y') + (X * X')], .val rR [((Z * Z') * (((Z * Z') * (Z * Z')) + (D * ((X * X') * (Y * Y'))))) * ((Y * Y') + (X * X'))], .val rR [((Z * Z') * (Z * Z')) - (D * ((X * X') * (Y * Y')))], .val rR [((Z * Z') * (Z * Z')) + (D * ((X * X') * (Y * Y')))], .val rR [(((Z * Z') * (Z * Z')) - (D * ((X * X') * (Y * Y')))) * (((Z * Z') * (Z * Z')) + (D * ((X * X') * (Y * Y'))))], .val rR [((Z * Z') * (((Z * Z') * (Z * Z')) - (D * ((X * X') * (Y * Y'))))) * ((X * Y') + (X' * Y)), ((Z * Z') * (((Z * Z') * (Z * Z')) + (D * ((X * X') * (Y * Y'))))) * ((Y * Y') + (X * X')), (((Z * Z') * (Z * Z')) - (D * ((X * X') * (Y * Y')))) * (((Z * Z') * (Z * Z')) + (D * ((X * X') * (Y * Y'))))], .sto q6 rR [((Z * Z') * (((Z * Z') * (Z * Z')) - (D * ((X * X') * (Y * Y'))))) * ((X * Y') + (X' * Y)), ((Z * Z') * (((Z * Z') * (Z * Z')) + (D * ((X * X') * (Y * Y'))))) * ((Y * Y') + (X * X')), (((Z * Z') * (Z * Z')) - (D * ((X * X') * (Y * Y')))) * (((Z * Z') * (Z * Z')) + (D * ((X * X') * (Y * Y'))))]] ?_ ?_
 ·intro hs
  refine ⟨?_, ?_, ?_, ?_, ?_, ?_, ?_, ?_, ?_, ?_, ?_, ?_, ?_, ?_, ?_, ?_, ?_, trivial⟩
  ·exact step_load q7 0 hs Wn rfl rfl tyFe (fun _ => E7.out) hm7.lt hm7 (apN HD7_q6.out)
  ·exact step_load q12 0 hs Wn rfl rfl tyFe (fun _ => E12.out) hm12.lt hm12 (apN HD12_q6.out)
  ·refine step_call hs Wn rfl fun L u W hJ hG hL hdep K hK => ?_
   have a0 := (vE rR [Z * Z'] hG hdep 0)
   have a1 := (vE rR [((Z * Z') * (Z * Z')) - (D * ((X * X') * (Y * Y')))] hG hdep 1)
   go_simp
   go_at_call 78
   (with_reducible refine (kMul a0 a1 _).mono ?_); rintro e w1 ⟨r, rfl, hr, hb⟩
   exact hK.out _ _ hr hb
  ·exact step_load q14 0 hs Wn rfl rfl tyFe (fun _ => E14.out) hm14.lt hm14 (apN HD14_q6.out)
  ·refine step_call hs Wn rfl fun L u W hJ hG hL hdep K hK => ?_
   have a0 := (vE rR [(Z * Z') * (((Z * Z') * (Z * Z')) - (D * ((X * X') * (Y * Y'))))] hG hdep 2)
   have a1 := (vE rR [(X * Y') + (X' * Y)] hG hdep 3)
   go_simp
   go_at_call 78
   (with_reducible refine (kMul a0 a1 _).mono ?_); rintro e w1 ⟨r, rfl, hr, hb⟩
   exact hK.out _ _ hr hb
  ·exact step_load q7 0 hs Wn rfl rfl tyFe (fun _ => E7.out) hm7.lt hm7 (apN HD7_q6.out)
  ·exact step_load q13 0 hs Wn rfl rfl tyFe (fun _ => E13.out) hm13.lt hm13 (apN HD13_q6.out)
  ·refine step_call hs Wn rfl fun L u W hJ hG hL hdep K hK => ?_
   have a0 := (vE rR [Z * Z'] hG hdep 5)
   have a1 := (vE rR [((Z * Z') * (Z * Z')) + (D * ((X * X') * (Y * Y')))] hG hdep 6)
   go_simp
   go_at_call 78
   (with_reducible refine (kMul a0 a1 _).mono ?_); rintro e w1 ⟨r, rfl, hr, hb⟩
   exact hK.out _ _ hr hb
  ·exact step_load q10 0 hs Wn rfl rfl tyFe (fun _ => E10.out) hm10.lt hm10 (apN HD10_q6.out)
  ·exact step_load q9 0 hs Wn rfl rfl tyFe (fun _ => E9.out) hm9.lt hm9 (apN HD9_q6.out)
  ·refine step_call hs Wn rfl fun L u W hJ hG hL hdep K hK => ?_
   have a0 := (vE rR [Y * Y'] hG hdep 8)
   have a1 := (vE rR [X * X'] hG hdep 9)
   go_simp
   go_at_call 102
   (with_reducible refine (kAdd a0 a1 _).mono ?_); rintro e w1 ⟨r, rfl, hr, hb⟩
   exact hK.out _ _ hr hb
  ·refine step_call hs Wn rfl fun L u W hJ hG hL hdep K hK => ?_
   have a0 := (vE rR [(Z * Z') * (((Z * Z') * (Z * Z')) + (D * ((X * X') * (Y * Y'))))] hG hdep 7)
   have a1 := (vE rR [(Y * Y') + (X * X')] hG hdep 10)
   go_simp
   go_at_call 78
   (with_reducible refine (kMul a0 a1 _).mono ?_); rintro e w1 ⟨r, rfl, hr, hb⟩
   exact hK.out _ _ hr hb
  ·exact step_load q12 0 hs Wn rfl rfl tyFe (fun _ => E12.out) hm12.lt hm12 (apN HD12_q6.out)
  ·exact step_load q13 0 hs Wn rfl rfl tyFe (fun _ => E13.out) hm13.lt hm13 (apN HD13_q6.out)
  ·refine step_call hs Wn rfl fun L u W hJ hG hL hdep K hK => ?_
   have a0 := (vE rR [((Z * Z') * (Z * Z')) - (D * ((X * X') * (Y * Y')))] hG hdep 12)
   have a1 := (vE rR [((Z * Z') * (Z * Z')) + (D * ((X * X') * (Y * Y')))] hG hdep 13)
   go_simp
   go_at_call 78
   (with_reducible refine (kMul a0 a1 _).mono ?_); rintro e w1 ⟨r, rfl, hr, hb⟩
   exact hK.out _ _ hr hb
  ·refine step_pure hs Wn rfl fun L u W hG hdep => ?_
   have a0 := (vE rR [((Z * Z') * (((Z * Z') * (Z * Z')) - (D * ((X * X') * (Y * Y'))))) * ((X * Y') + (X' * Y))] hG hdep 4)
   have a1 := (vE rR [((Z * Z') * (((Z * Z') * (Z * Z')) + (D * ((X * X') * (Y * Y'))))) * ((Y * Y') + (X * X'))] hG hdep 11)
   have a2 := (vE rR [(((Z * Z') * (Z * Z')) - (D * ((X * X') * (Y * Y')))) * (((Z * Z') * (Z * Z')) + (D * ((X * X') * (Y * Y'))))] hG hdep 14)
   obtain ⟨r, hr, hx⟩ := build_Pt a0 a1 a2 W
   exact ⟨r, run_build3 rfl hr, hx⟩
  ·refine step_storeO q6 48 hs Wn rfl rfl (by kernel_rfl) (fun k hk => ?_) (fun _ => E6.out) (there_lt ht6 (by omega)) ht6 (gO 15) tyPt3 rfl
   rcases k with _ | _ | _ | _ | _ | _ | _ | _ | _ | _ | _ | _ | _ | _ | _ | _ | _ | k
   all_goals first | (exact absurd rfl hk) | (intro e; cases e; done)
 intro L9 u9 W9 hall hJ hG
 have hb := hJ.beN hbel
 have hbel := hbel.trans hb
 have hm3 := kC hm3 hJ HN3_6.out
 have hm4 := kC hm4 hJ HN4_6.out
 have hm5 := kC hm5 hJ HN5_6.out
 have hm7 := kB hm7 hJ HD7_q6.out
 have hm8 := kB hm8 hJ HD8_q6.out
 have hm9 := kB hm9 hJ HD9_q6.out
 have hm10 := kB hm10 hJ HD10_q6.out
 have hm11 := kB hm11 hJ HD11_q6.out
 have hm12 := kB hm12 hJ HD12_q6.out
 have hm13 := kB hm13 hJ HD13_q6.out
 have hm14 := kB hm14 hJ HD14_q6.out
 have ht3 := tC ht3 hJ HN3_6.out
 have ht4 := tC ht4 hJ HN4_6.out
 have ht5 := tC ht5 hJ HN5_6.out
 have ht7 := tB ht7 hJ HD7_q6.out
 have ht8 := tB ht8 hJ HD8_q6.out
 have ht9 := tB ht9 hJ HD9_q6.out
 have ht10 := tB ht10 hJ HD10_q6.out
 have ht11 := tB ht11 hJ HD11_q6.out
 have ht12 := tB ht12 hJ HD12_q6.out
 have ht13 := tB ht13 hJ HD13_q6.out
 have ht14 := tB ht14 hJ HD14_q6.out
 obtain ⟨_, hs9_16t, hs9_16⟩ := oT 48 rR [((Z * Z') * (((Z * Z') * (Z * Z')) - (D * ((X * X') * (Y * Y'))))) * ((X * Y') + (X' * Y)), ((Z * Z') * (((Z * Z') * (Z * Z')) + (D * ((X * X') * (Y * Y'))))) * ((Y * Y') + (X * X')), (((Z * Z') * (Z * Z')) - (D * ((X * X') * (Y * Y')))) * (((Z * Z') * (Z * Z')) + (D * ((X * X') * (Y * Y'))))] hG 16
 have hbel0 := hbel
 clear hJ hG hall hb
 go_wp2
 exact ret_cell1 (R := rR) Tryz.results83 (by exact E6.out) hs9_16 tyPt3 rfl (fun r hr => ⟨r, rfl, hr, hbel⟩)
theorem kAddD {v0 v1 v2 : Value} {P Q : EP} (h0 : IsFs rQ v0 [P]) (h1 : IsFs rQ v1 [Q]) (h2 : IsFs rR v2 [dE]) (w : World) :
  Calls Tryz.prog 83 #[v0, v1, v2] w fun e w' => ∃ r, e = .returned r ∧ IsFs rQ r [Cp.add P Q] ∧ Below w.heap.size w w' := by
 obtain ⟨x, y, z, i0, hp⟩ := of_isQ h0
 obtain ⟨x', y', z', i1, hq⟩ := of_isQ h1
 exact (q_add_any i0 i1 h2 w).mono fun _ _ ⟨r, he, hr, hb⟩ => ⟨r, he, isQ hr (Prep.add (c := cuE) hp hq), hb⟩
set_option maxHeartbeats 4000000 in
theorem kPAdd {v0 v1 : Value} {P Q : EP} (h0 : IsFs rQ v0 [P]) (h1 : IsFs rQ v1 [Q]) (w : World) :
  Calls Tryz.prog 50 #[v0, v1] w fun e w' => ∃ r, e = .returned r ∧ IsFs rQ r [Cp.add P Q] ∧ Below w.heap.size w w' := by
 go_enter Tryz.func50, Tryz.ntmps50
 have hbel : Below w.heap.size w w := Below.refl _ _
 have hbel0 := hbel
 go_upto_region 0 with fail
 refine rgT [(2, 0), (0, 1), (0, 2)] [.box rQ [P], .box rQ [Q], .new 48] ?_ ?_
 ·intro hs
  refine ⟨?_, ?_, ?_, trivial⟩
  ·exact step_box hs Wn rfl rfl (gives_c h0 (fun _ => rfl))
  ·exact step_box hs Wn rfl rfl (gives_c h1 (fun _ => rfl))
  ·exact step_alloc hs Wn rfl rfl (by omega) rfl allocPt
 intro L0 u0 W0 hall hJ hG
 obtain ⟨q2, e2, ⟨hq2, _⟩, ht2, hm2⟩ := oB 48 rQ [P] hG 0
 have hq2 : w.heap.size ≤ q2 := by have := hbel0.size; omega
 have E2 := Lib.hid e2; clear e2
 obtain ⟨q3, e3, ⟨hq3, _⟩, ht3, hm3⟩ := oB 48 rQ [Q] hG 1
 have hq3 : w.heap.size ≤ q3 := by have := hbel0.size; omega
 have E3 := Lib.hid e3; clear e3
 obtain ⟨q4, e4, hq4, _, ht4⟩ := oN 48 hG 2
 have hq4 : w.heap.size ≤ q4 := by have := hbel0.size; omega
 have E4 := Lib.hid e4; clear e4
 have hb := hJ.all rfl
 have hbel := Below.call hbel hb
 have HN2_4 := Lib.hid (show q2 ≠ q4 from fun e => hJ.apart 0 2 _ (by omega) (hall _ (by simp)) (hall _ (by simp)) rfl rfl (E2.out.trans (by rw [e])) E4.out)
 have HN3_4 := Lib.hid (show q3 ≠ q4 from fun e => hJ.apart 1 2 _ (by omega) (hall _ (by simp)) (hall _ (by simp)) rfl rfl (E3.out.trans (by rw [e])) E4.out)
 have hbel0 := hbel
 clear hJ hG hall hb
 go_upto_region 1 with fail
 refine rgM [(5, 0), (0, 1), (0, 2), (0, 3)] [.val rQ [P], .val rQ [Q], .val rR [dE], .val rQ [Cp.add P Q], .sto q4 rQ [Cp.add P Q]] ?_ ?_
 ·intro hs
  refine ⟨?_, ?_, ?_, ?_, ?_, trivial⟩
  ·exact step_load q2 0 hs Wn rfl rfl tyPt (fun _ => E2.out) hm2.lt hm2 (apN (Ne.symm HN2_4.out))
  ·exact step_load q3 0 hs Wn rfl rfl tyPt (fun _ => E3.out) hm3.lt hm3 (apN (Ne.symm HN3_4.out))
  ·refine step_call hs Wn rfl fun L u W hJ hG hL hdep K hK => ?_
   go_simp
   go_at_call 81
   (with_reducible refine (kCurve _).mono ?_); rintro e w1 ⟨r, rfl, hr, hb⟩
   exact hK.out _ _ hr hb
  ·refine step_call hs Wn rfl fun L u W hJ hG hL hdep K hK => ?_
   have a0 := (vE rQ [P] hG hdep 0)
   have a1 := (vE rQ [Q] hG hdep 1)
   have a2 := (vE rR [dE] hG hdep 2)
   go_simp
   go_at_call 83
   (with_reducible refine (kAddD a0 a1 a2 _).mono ?_); rintro e w1 ⟨r, rfl, hr, hb⟩
   exact hK.out _ _ hr hb
  ·refine step_storeO q4 48 hs Wn rfl rfl (by kernel_rfl) (fun k hk => ?_) (fun _ => E4.out) (there_lt ht4 (by omega)) ht4 (gO 3) tyPt rfl
   rcases k with _ | _ | _ | _ | _ | k
   all_goals first | (exact absurd rfl hk) | (intro e; cases e; done)
 intro L1 u1 W1 hall hJ hG
 have hb := hJ.beN hbel
 have hbel := hbel.trans hb
 have hm2 := kC hm2 hJ HN2_4.out
 have hm3 := kC hm3 hJ HN3_4.out
 have ht2 := tC ht2 hJ HN2_4.out
 have ht3 := tC ht3 hJ HN3_4.out
 obtain ⟨_, hs1_4t, hs1_4⟩ := oT 48 rQ [Cp.add P Q] hG 4
 have hbel0 := hbel
 clear hJ hG hall hb
 go_wp2
 exact ret_cell1 (R := rQ) Tryz.results50 (by exact E4.out) hs1_4 tyPt rfl (fun r hr => ⟨r, rfl, hr, hbel⟩)
set_option maxHeartbeats 4000000 in
theorem qsame_0 {v0 v1 : Value} {P Q : EP} {X Y Z X' Y' Z' : F} (h0 : IsFs rR v0 [X, Y, Z]) (h1 : IsFs rR v1 [X', Y', Z']) (hp : Prep P X Y Z) (hq' : Prep Q X' Y' Z') (hx : P.x ≠ Q.x) (w : World) :
  Calls Tryz.prog 49 #[v0, v1] w fun e w' => e = .returned (.bool false) ∧ Below w.heap.size w w' := by
 have HX := Lib.hid hx; clear hx
 go_enter Tryz.func49, Tryz.ntmps49
 have hbel : Below w.heap.size w w := Below.refl _ _
 have hbel0 := hbel
 go_upto_region 0 with fail
 refine rgT [(2, 0), (0, 1), (0, 2)] [.box rR [X, Y, Z], .box rR [X', Y', Z'], .oth (fun v => v = .bool false)] ?_ ?_
 ·intro hs
  refine ⟨?_, ?_, ?_, trivial⟩
  ·exact step_box hs Wn rfl rfl (gives_c h0 (fun _ => rfl))
  ·exact step_box hs Wn rfl rfl (gives_c h1 (fun _ => rfl))
  ·exact mvK hs fun _ => rfl
 intro L0 u0 W0 hall hJ hG
 obtain ⟨q2, e2, ⟨hq2, _⟩, ht2, hm2⟩ := oB 48 rR [X, Y, Z] hG 0
 have hq2 : w.heap.size ≤ q2 := by have := hbel0.size; omega
 have E2 := Lib.hid e2; clear e2
 obtain ⟨q3, e3, ⟨hq3, _⟩, ht3, hm3⟩ := oB 48 rR [X', Y', Z'] hG 1
 have hq3 : w.heap.size ≤ q3 := by have := hbel0.size; omega
 have E3 := Lib.hid e3; clear e3
 have hb := hJ.all rfl
 have hbel := Below.call hbel hb
 have HC4 := oC (.bool false) hG 2
 have hbel0 := hbel
 clear hJ hG hall hb
 go_upto_region 1 with fail
 refine rgM [(4, 24), (0, 0), (0, 1), (0, 2), (0, 3), (0, 4), (0, 5), (0, 6), (0, 7), (0, 8), (0, 9), (0, 10), (0, 11), (0, 12), (0, 13), (0, 14), (0, 15), (0, 16), (0, 17), (0, 18), (0, 19), (0, 20), (0, 21), (0, 22), (0, 23)] [.ptr q2 0, .val rR [X], .ptr q3 32, .val rR [Z'], .val rR [X * Z'], .ptr q3 0, .val rR [X'], .ptr q2 32, .val rR [Z], .val rR [X' * Z], .oth (fun v => v = .bool false), .oth (fun v => v = .bool false), .oth (fun v => v = undef), .oth (fun v => v = undef), .oth (fun v => v = undef), .oth (fun v => v = undef), .oth (fun v => v = undef), .oth (fun v => v = undef), .oth (fun v => v = undef), .oth (fun v => v = undef), .oth (fun v => v = undef), .oth (fun v => v = undef), .oth (fun v => v = undef), .oth (fun v => v = .bool false), .oth (fun v => v = .bool false)] ?_ ?_
 ·intro hs
  refine ⟨?_, ?_, ?_, ?_, ?_, ?_, ?_, ?_, ?_, ?_, ?_, ?_, ?_, ?_, ?_, ?_, ?_, ?_, ?_, ?_, ?_, ?_, ?_, ?_, ?_, trivial⟩
  ·exact step_field hs Wn rfl rfl (fun _ => E2.out) (field_Pt0 _)
  ·exact step_loadF 0 q2 0 hs Wn rfl rfl tyFe (fun _ => rfl) rfl (by kernel_rfl) hm2.lt (hm2.fld 0 1) Na
  ·exact step_field hs Wn rfl rfl (fun _ => E3.out) (field_Pt2 _)
  ·exact step_loadF 2 q3 32 hs Wn rfl rfl tyFe (fun _ => rfl) rfl (by kernel_rfl) hm3.lt (hm3.fld 2 1) Na
  ·refine step_call hs Wn rfl fun L u W hJ hG hL hdep K hK => ?_
   have a0 := (vE rR [X] hG hdep 1)
   have a1 := (vE rR [Z'] hG hdep 3)
   go_simp
   go_at_call 78
   (with_reducible refine (kMul a0 a1 _).mono ?_); rintro e w1 ⟨r, rfl, hr, hb⟩
   exact hK.out _ _ hr hb
  ·exact step_field hs Wn rfl rfl (fun _ => E3.out) (field_Pt0 _)
  ·exact step_loadF 5 q3 0 hs Wn rfl rfl tyFe (fun _ => rfl) rfl (by kernel_rfl) hm3.lt (hm3.fld 0 1) Na
  ·exact step_field hs Wn rfl rfl (fun _ => E2.out) (field_Pt2 _)
  ·exact step_loadF 7 q2 32 hs Wn rfl rfl tyFe (fun _ => rfl) rfl (by kernel_rfl) hm2.lt (hm2.fld 2 1) Na
  ·refine step_call hs Wn rfl fun L u W hJ hG hL hdep K hK => ?_
   have a0 := (vE rR [X'] hG hdep 6)
   have a1 := (vE rR [Z] hG hdep 8)
   go_simp
   go_at_call 78
   (with_reducible refine (kMul a0 a1 _).mono ?_); rintro e w1 ⟨r, rfl, hr, hb⟩
   exact hK.out _ _ hr hb
  ·exact step_pureO hs Wn rfl fun L u W hG hdep => ⟨_, run_eqlR rfl (vE rR [X * Z'] hG hdep 4) (vE rR [X' * Z] hG hdep 9), by rw [decide_eq_false fun e => absurd (Prep.same_x hp hq' e) HX.out]⟩
  ·exact mvO 10 hs
  ·exact step_outU hs (wants_off 11 rfl rfl rfl (by kernel_rfl) (fun _ => rfl)) rfl
  ·exact step_outU hs (wants_off 11 rfl rfl rfl (by kernel_rfl) (fun _ => rfl)) rfl
  ·exact step_outU hs (wants_off 11 rfl rfl rfl (by kernel_rfl) (fun _ => rfl)) rfl
  ·exact step_outU hs (wants_off 11 rfl rfl rfl (by kernel_rfl) (fun _ => rfl)) rfl
  ·exact step_outU hs (wants_off 11 rfl rfl rfl (by kernel_rfl) (fun _ => rfl)) rfl
  ·exact step_outU hs (wants_off 11 rfl rfl rfl (by kernel_rfl) (fun _ => rfl)) rfl
  ·exact step_outU hs (wants_off 11 rfl rfl rfl (by kernel_rfl) (fun _ => rfl)) rfl
  ·exact step_outU hs (wants_off 11 rfl rfl rfl (by kernel_rfl) (fun _ => rfl)) rfl
  ·exact step_outU hs (wants_off 11 rfl rfl rfl (by kernel_rfl) (fun _ => rfl)) rfl
  ·exact step_outU hs (wants_off 11 rfl rfl rfl (by kernel_rfl) (fun _ => rfl)) rfl
  ·exact step_outU hs (wants_off 11 rfl rfl rfl (by kernel_rfl) (fun _ => rfl)) rfl
  ·exact step_pick false hs Wn rfl rfl (fun L u W hG hdep => (oE (.bool false) hG hdep 11)) (fun L u W hG hdep => rfl)
  ·exact mvO 23 hs
 intro L1 u1 W1 hall hJ hG
 have hb := hJ.all rfl
 have hbel := Below.call hbel hb
 have HC15 := oC (.bool false) hG 10
 have HC16 := oC (.bool false) hG 11
 have HC28 := oC (.bool false) hG 23
 have HC4 := oC (.bool false) hG 24
 have hbel0 := hbel
 clear hJ hG hall hb
 rw [HC4.out]
 go_wp2
 go_ret
 exact ⟨rfl, hbel⟩
set_option maxHeartbeats 4000000 in
theorem qsame_1 {v0 v1 : Value} {P Q : EP} {X Y Z X' Y' Z' : F} {q : Bool} (h0 : IsFs rR v0 [X, Y, Z]) (h1 : IsFs rR v1 [X', Y', Z']) (hp : Prep P X Y Z) (hq' : Prep Q X' Y' Z') (hx : P.x = Q.x) (hq : decide (P = Q) = q) (w : World) :
  Calls Tryz.prog 49 #[v0, v1] w fun e w' => e = .returned (.bool q) ∧ Below w.heap.size w w' := by
 have HX := Lib.hid hx; clear hx
 have HQ := Lib.hid hq; clear hq
 go_enter Tryz.func49, Tryz.ntmps49
 have hbel : Below w.heap.size w w := Below.refl _ _
 have hbel0 := hbel
 go_upto_region 0 with fail
 refine rgT [(2, 0), (0, 1), (0, 2)] [.box rR [X, Y, Z], .box rR [X', Y', Z'], .oth (fun v => v = .bool false)] ?_ ?_
 ·intro hs
  refine ⟨?_, ?_, ?_, trivial⟩
  ·exact step_box hs Wn rfl rfl (gives_c h0 (fun _ => rfl))
  ·exact step_box hs Wn rfl rfl (gives_c h1 (fun _ => rfl))
  ·exact mvK hs fun _ => rfl
 intro L0 u0 W0 hall hJ hG
 obtain ⟨q2, e2, ⟨hq2, _⟩, ht2, hm2⟩ := oB 48 rR [X, Y, Z] hG 0
 have hq2 : w.heap.size ≤ q2 := by have := hbel0.size; omega
 have E2 := Lib.hid e2; clear e2
 obtain ⟨q3, e3, ⟨hq3, _⟩, ht3, hm3⟩ := oB 48 rR [X', Y', Z'] hG 1
 have hq3 : w.heap.size ≤ q3 := by have := hbel0.size; omega
 have E3 := Lib.hid e3; clear e3
 have hb := hJ.all rfl
 have hbel := Below.call hbel hb
 have HC4 := oC (.bool false) hG 2
 have hbel0 := hbel
 clear hJ hG hall hb
 go_upto_region 1 with fail
 refine rgM [(4, 24), (0, 0), (0, 1), (0, 2), (0, 3), (0, 4), (0, 5), (0, 6), (0, 7), (0, 8), (0, 9), (0, 10), (0, 11), (0, 12), (0, 13), (0, 14), (0, 15), (0, 16), (0, 17), (0, 18), (0, 19), (0, 20), (0, 21), (0, 22), (0, 23)] [.ptr q2 0, .val rR [X], .ptr q3 32, .val rR [Z'], .val rR [X * Z'], .ptr q3 0, .val rR [X'], .ptr q2 32, .val rR [Z], .val rR [X' * Z], .oth (fun v => v = .bool true), .oth (fun v => v = .bool true), .ptr q2 16, .val rR [Y], .ptr q3 32, .val rR [Z'], .val rR [Y * Z'], .ptr q3 16, .val rR [Y'], .ptr q2 32, .val rR [Z], .val rR [Y' * Z], .oth (fun v => v = .bool q), .oth (fun v => v = .bool q), .oth (fun v => v = .bool q)] ?_ ?_
 ·intro hs
  refine ⟨?_, ?_, ?_, ?_, ?_, ?_, ?_, ?_, ?_, ?_, ?_, ?_, ?_, ?_, ?_, ?_, ?_, ?_, ?_, ?_, ?_, ?_, ?_, ?_, ?_, trivial⟩
  ·exact step_field hs Wn rfl rfl (fun _ => E2.out) (field_Pt0 _)
  ·exact step_loadF 0 q2 0 hs Wn rfl rfl tyFe (fun _ => rfl) rfl (by kernel_rfl) hm2.lt (hm2.fld 0 1) Na
  ·exact step_field hs Wn rfl rfl (fun _ => E3.out) (field_Pt2 _)
  ·exact step_loadF 2 q3 32 hs Wn rfl rfl tyFe (fun _ => rfl) rfl (by kernel_rfl) hm3.lt (hm3.fld 2 1) Na
  ·refine step_call hs Wn rfl fun L u W hJ hG hL hdep K hK => ?_
   have a0 := (vE rR [X] hG hdep 1)
   have a1 := (vE rR [Z'] hG hdep 3)
   go_simp
   go_at_call 78
   (with_reducible refine (kMul a0 a1 _).mono ?_); rintro e w1 ⟨r, rfl, hr, hb⟩
   exact hK.out _ _ hr hb
  ·exact step_field hs Wn rfl rfl (fun _ => E3.out) (field_Pt0 _)
  ·exact step_loadF 5 q3 0 hs Wn rfl rfl tyFe (fun _ => rfl) rfl (by kernel_rfl) hm3.lt (hm3.fld 0 1) Na
  ·exact step_field hs Wn rfl rfl (fun _ => E2.out) (field_Pt2 _)
  ·exact step_loadF 7 q2 32 hs Wn rfl rfl tyFe (fun _ => rfl) rfl (by kernel_rfl) hm2.lt (hm2.fld 2 1) Na
  ·refine step_call hs Wn rfl fun L u W hJ hG hL hdep K hK => ?_
   have a0 := (vE rR [X'] hG hdep 6)
   have a1 := (vE rR [Z] hG hdep 8)
   go_simp
   go_at_call 78
   (with_reducible refine (kMul a0 a1 _).mono ?_); rintro e w1 ⟨r, rfl, hr, hb⟩
   exact hK.out _ _ hr hb
  ·exact step_pureO hs Wn rfl fun L u W hG hdep => ⟨_, run_eqlR rfl (vE rR [X * Z'] hG hdep 4) (vE rR [X' * Z] hG hdep 9), by rw [decide_eq_true (Prep.same_x' hp hq' HX.out)]⟩
  ·exact mvO 10 hs
  ·exact step_field hs (wants_on 11 rfl rfl (by kernel_rfl) (fun _ => rfl)) rfl rfl (fun _ => E2.out) (field_Pt1 _)
  ·exact step_loadF 12 q2 16 hs (wants_on 11 rfl rfl (by kernel_rfl) (fun _ => rfl)) rfl rfl tyFe (fun _ => rfl) rfl (by kernel_rfl) hm2.lt (hm2.fld 1 1) Na
  ·exact step_field hs (wants_on 11 rfl rfl (by kernel_rfl) (fun _ => rfl)) rfl rfl (fun _ => E3.out) (field_Pt2 _)
  ·exact step_loadF 14 q3 32 hs (wants_on 11 rfl rfl (by kernel_rfl) (fun _ => rfl)) rfl rfl tyFe (fun _ => rfl) rfl (by kernel_rfl) hm3.lt (hm3.fld 2 1) Na
  ·refine step_call hs (wants_on 11 rfl rfl (by kernel_rfl) (fun _ => rfl)) rfl fun L u W hJ hG hL hdep K hK => ?_
   have a0 := (vE rR [Y] hG hdep 13)
   have a1 := (vE rR [Z'] hG hdep 15)
   go_simp
   go_at_call 78
   (with_reducible refine (kMul a0 a1 _).mono ?_); rintro e w1 ⟨r, rfl, hr, hb⟩
   exact hK.out _ _ hr hb
  ·exact step_field hs (wants_on 11 rfl rfl (by kernel_rfl) (fun _ => rfl)) rfl rfl (fun _ => E3.out) (field_Pt1 _)
  ·exact step_loadF 17 q3 16 hs (wants_on 11 rfl rfl (by kernel_rfl) (fun _ => rfl)) rfl rfl tyFe (fun _ => rfl) rfl (by kernel_rfl) hm3.lt (hm3.fld 1 1) Na
  ·exact step_field hs (wants_on 11 rfl rfl (by kernel_rfl) (fun _ => rfl)) rfl rfl (fun _ => E2.out) (field_Pt2 _)
  ·exact step_loadF 19 q2 32 hs (wants_on 11 rfl rfl (by kernel_rfl) (fun _ => rfl)) rfl rfl tyFe (fun _ => rfl) rfl (by kernel_rfl) hm2.lt (hm2.fld 2 1) Na
  ·refine step_call hs (wants_on 11 rfl rfl (by kernel_rfl) (fun _ => rfl)) rfl fun L u W hJ hG hL hdep K hK => ?_
   have a0 := (vE rR [Y'] hG hdep 18)
   have a1 := (vE rR [Z] hG hdep 20)
   go_simp
   go_at_call 78
   (with_reducible refine (kMul a0 a1 _).mono ?_); rintro e w1 ⟨r, rfl, hr, hb⟩
   exact hK.out _ _ hr hb
  ·exact step_pureO hs (wants_on 11 rfl rfl (by kernel_rfl) (fun _ => rfl)) rfl fun L u W hG hdep => ⟨_, run_eqlR rfl (vE rR [Y * Z'] hG hdep 16) (vE rR [Y' * Z] hG hdep 21), by rw [Prep.same_y hp hq' HX.out HQ.out]⟩
  ·exact step_pick true hs Wn rfl rfl (fun L u W hG hdep => (oE (.bool true) hG hdep 11)) (fun L u W hG hdep => (oE (.bool q) hG hdep 22))
  ·exact mvO 23 hs
 intro L1 u1 W1 hall hJ hG
 have hb := hJ.all rfl
 have hbel := Below.call hbel hb
 have HC15 := oC (.bool true) hG 10
 have HC16 := oC (.bool true) hG 11
 have HC27 := oC (.bool q) hG 22
 have HC28 := oC (.bool q) hG 23
 have HC4 := oC (.bool q) hG 24
 have hbel0 := hbel
 clear hJ hG hall hb
 rw [HC4.out]
 go_wp2
 go_ret
 exact ⟨rfl, hbel⟩
theorem kPSame {v0 v1 : Value} {P Q : EP} {b : Bool} (hq : decide (P = Q) = b) (h0 : IsFs rQ v0 [P]) (h1 : IsFs rQ v1 [Q]) (w : World) :
  Calls Tryz.prog 49 #[v0, v1] w fun e w' => e = .returned (.bool b) ∧ Below w.heap.size w w' := by
 obtain ⟨x, y, z, i0, hp⟩ := of_isQ h0
 obtain ⟨x', y', z', i1, hp'⟩ := of_isQ h1
 by_cases hx : P.x = Q.x
 ·exact qsame_1 i0 i1 hp hp' hx hq w
 ·rw [← hq, decide_eq_false (fun e => hx (by rw [e]))]
  exact qsame_0 i0 i1 hp hp' hx w
set_option maxHeartbeats 4000000 in
theorem kPSmall {v0 : Value} {P : EP} {b : Bool} (hq : decide (Cp.mul 8 P = Cp.zero) = b) (h0 : IsFs rQ v0 [P]) (w : World) :
  Calls Tryz.prog 47 #[v0] w fun e w' => e = .returned (.bool b) ∧ Below w.heap.size w w' := by
 have HQ := Lib.hid hq; clear hq
 go_enter Tryz.func47, Tryz.ntmps47
 have hbel : Below w.heap.size w w := Below.refl _ _
 have hbel0 := hbel
 go_upto_region 0 with fail
 refine rgT [(1, 0), (0, 1)] [.box rQ [P], .oth (fun v => v = .bool false)] ?_ ?_
 ·intro hs
  refine ⟨?_, ?_, trivial⟩
  ·exact step_box hs Wn rfl rfl (gives_c h0 (fun _ => rfl))
  ·exact mvK hs fun _ => rfl
 intro L0 u0 W0 hall hJ hG
 obtain ⟨q1, e1, ⟨hq1, _⟩, ht1, hm1⟩ := oB 48 rQ [P] hG 0
 have hq1 : w.heap.size ≤ q1 := by have := hbel0.size; omega
 have E1 := Lib.hid e1; clear e1
 have hb := hJ.all rfl
 have hbel := Below.call hbel hb
 have HC2 := oC (.bool false) hG 1
 have hbel0 := hbel
 clear hJ hG hall hb
 go_upto_region 1 with fail
 refine rgT [(3, 1), (1, 0)] [.val rR [dE], .new 16, .st 1 rR [dE]] ?_ ?_
 ·intro hs
  refine ⟨?_, ?_, ?_, trivial⟩
  ·refine step_call hs Wn rfl fun L u W hJ hG hL hdep K hK => ?_
   go_simp
   go_at_call 81
   (with_reducible refine (kCurve _).mono ?_); rintro e w1 ⟨r, rfl, hr, hb⟩
   exact hK.out _ _ hr hb
  ·exact step_alloc hs Wn rfl rfl (by omega) rfl allocFe
  ·exact step_store 1 hs (by kernel_rfl) Wn rfl rfl rfl (by kernel_rfl) (by kernel_rfl) (by kernel_rfl) (by kernel_rfl) (fun _ => rfl) (gO 0) tyFe rfl
 intro L1 u1 W1 hall hJ hG
 obtain ⟨q3, e3, hq3, _, ht3⟩ := oN 16 hG 1
 have hm3 := oS rR [dE] hG 2 e3
 have HD3_q1 := Lib.hid (show q1 ≠ q3 by have := there_lt ht1 (by omega); omega)
 have hq3 : w.heap.size ≤ q3 := by have := hbel0.size; omega
 have E3 := Lib.hid e3; clear e3
 have hb := hJ.all rfl
 have hbel := Below.call hbel hb
 have hm1 := hm1.later hb
 have ht1 := there_later ht1 hb
 have hbel0 := hbel
 clear hJ hG hall hb
 go_upto_region 2 with fail
 refine rgT [(4, 4), (1, 0), (0, 1), (0, 2), (0, 3)] [.val rQ [P], .val rQ [P], .val rR [dE], .val rQ [Cp.add P P], .new 48, .st 4 rQ [Cp.add P P]] ?_ ?_
 ·intro hs
  refine ⟨?_, ?_, ?_, ?_, ?_, ?_, trivial⟩
  ·exact step_load q1 0 hs Wn rfl rfl tyPt (fun _ => E1.out) hm1.lt hm1 Na
  ·exact step_load q1 0 hs Wn rfl rfl tyPt (fun _ => E1.out) hm1.lt hm1 Na
  ·exact step_load q3 0 hs Wn rfl rfl tyFe (fun _ => E3.out) hm3.lt hm3 Na
  ·refine step_call hs Wn rfl fun L u W hJ hG hL hdep K hK => ?_
   have a0 := (vE rQ [P] hG hdep 0)
   have a1 := (vE rQ [P] hG hdep 1)
   have a2 := (vE rR [dE] hG hdep 2)
   go_simp
   go_at_call 83
   (with_reducible refine (kAddD a0 a1 a2 _).mono ?_); rintro e w1 ⟨r, rfl, hr, hb⟩
   exact hK.out _ _ hr hb
  ·exact step_alloc hs Wn rfl rfl (by omega) rfl allocPt
  ·exact step_store 4 hs (by kernel_rfl) Wn rfl rfl rfl (by kernel_rfl) (by kernel_rfl) (by kernel_rfl) (by kernel_rfl) (fun _ => rfl) (gO 3) tyPt rfl
 intro L2 u2 W2 hall hJ hG
 obtain ⟨q4, e4, hq4, _, ht4⟩ := oN 48 hG 4
 have hm4 := oS rQ [Cp.add P P] hG 5 e4
 have HD4_q1 := Lib.hid (show q1 ≠ q4 by have := there_lt ht1 (by omega); omega)
 have HD4_q3 := Lib.hid (show q3 ≠ q4 by have := there_lt ht3 (by omega); omega)
 have hq4 : w.heap.size ≤ q4 := by have := hbel0.size; omega
 have E4 := Lib.hid e4; clear e4
 have hb := hJ.all rfl
 have hbel := Below.call hbel hb
 have hm1 := hm1.later hb
 have hm3 := hm3.later hb
 have ht1 := there_later ht1 hb
 have ht3 := there_later ht3 hb
 have hbel0 := hbel
 clear hJ hG hall hb
 go_upto_region 3 with fail
 refine rgT [(10, 0), (0, 1), (0, 2), (0, 3)] [.val rQ [Cp.add P P], .val rQ [Cp.add P P], .val rR [dE], .val rQ [Cp.add (Cp.add P P) (Cp.add P P)], .sto q4 rQ [Cp.add (Cp.add P P) (Cp.add P P)]] ?_ ?_
 ·intro hs
  refine ⟨?_, ?_, ?_, ?_, ?_, trivial⟩
  ·exact step_load q4 0 hs Wn rfl rfl tyPt (fun _ => E4.out) hm4.lt hm4 Na
  ·exact step_load q4 0 hs Wn rfl rfl tyPt (fun _ => E4.out) hm4.lt hm4 Na
  ·exact step_load q3 0 hs Wn rfl rfl tyFe (fun _ => E3.out) hm3.lt hm3 (apN (Ne.symm HD4_q3.out))
  ·refine step_call hs Wn rfl fun L u W hJ hG hL hdep K hK => ?_
   have a0 := (vE rQ [Cp.add P P] hG hdep 0)
   have a1 := (vE rQ [Cp.add P P] hG hdep 1)
   have a2 := (vE rR [dE] hG hdep 2)
   go_simp
   go_at_call 83
   (with_reducible refine (kAddD a0 a1 a2 _).mono ?_); rintro e w1 ⟨r, rfl, hr, hb⟩
   exact hK.out _ _ hr hb
  ·refine step_storeO q4 48 hs Wn rfl rfl (by kernel_rfl) (fun k hk => ?_) (fun _ => E4.out) (there_lt ht4 (by omega)) ht4 (gO 3) tyPt rfl
   rcases k with _ | _ | _ | _ | _ | k
   all_goals first | (exact absurd rfl hk) | (intro e; cases e; done)
 intro L3 u3 W3 hall hJ hG
 have hb := hJ.beN hbel
 have hbel := hbel.trans hb
 have hm1 := kC hm1 hJ HD4_q1.out
 have hm3 := kC hm3 hJ HD4_q3.out
 have ht1 := tC ht1 hJ HD4_q1.out
 have ht3 := tC ht3 hJ HD4_q3.out
 obtain ⟨_, hs3_4t, hs3_4⟩ := oT 48 rQ [Cp.add (Cp.add P P) (Cp.add P P)] hG 4
 have hbel0 := hbel
 clear hJ hG hall hb
 go_upto_region 4 with fail
 refine rgT [(14, 0), (0, 1), (0, 2), (0, 3)] [.val rQ [Cp.add (Cp.add P P) (Cp.add P P)], .val rQ [Cp.add (Cp.add P P) (Cp.add P P)], .val rR [dE], .val rQ [Cp.add (Cp.add (Cp.add P P) (Cp.add P P)) (Cp.add (Cp.add P P) (Cp.add P P))], .sto q4 rQ [Cp.add (Cp.add (Cp.add P P) (Cp.add P P)) (Cp.add (Cp.add P P) (Cp.add P P))]] ?_ ?_
 ·intro hs
  refine ⟨?_, ?_, ?_, ?_, ?_, trivial⟩
  ·exact step_load q4 0 hs Wn rfl rfl tyPt (fun _ => E4.out) hs3_4.lt hs3_4 Na
  ·exact step_load q4 0 hs Wn rfl rfl tyPt (fun _ => E4.out) hs3_4.lt hs3_4 Na
  ·exact step_load q3 0 hs Wn rfl rfl tyFe (fun _ => E3.out) hm3.lt hm3 (apN (Ne.symm HD4_q3.out))
  ·refine step_call hs Wn rfl fun L u W hJ hG hL hdep K hK => ?_
   have a0 := (vE rQ [Cp.add (Cp.add P P) (Cp.add P P)] hG hdep 0)
   have a1 := (vE rQ [Cp.add (Cp.add P P) (Cp.add P P)] hG hdep 1)
   have a2 := (vE rR [dE] hG hdep 2)
   go_simp
   go_at_call 83
   (with_reducible refine (kAddD a0 a1 a2 _).mono ?_); rintro e w1 ⟨r, rfl, hr, hb⟩
   exact hK.out _ _ hr hb
  ·refine step_storeO q4 48 hs Wn rfl rfl (by kernel_rfl) (fun k hk => ?_) (fun _ => E4.out) (there_lt hs3_4t (by omega)) hs3_4t (gO 3) tyPt rfl
   rcases k with _ | _ | _ | _ | _ | k
   all_goals first | (exact absurd rfl hk) | (intro e; cases e; done)
 intro L4 u4 W4 hall hJ hG
 have hb := hJ.beN hbel
 have hbel := hbel.trans hb
 have hm1 := kC hm1 hJ HD4_q1.out
 have hm3 := kC hm3 hJ HD4_q3.out
 have ht1 := tC ht1 hJ HD4_q1.out
 have ht3 := tC ht3 hJ HD4_q3.out
 obtain ⟨_, hs4_4t, hs4_4⟩ := oT 48 rQ [Cp.add (Cp.add (Cp.add P P) (Cp.add P P)) (Cp.add (Cp.add P P) (Cp.add P P))] hG 4
 have hbel0 := hbel
 clear hJ hG hall hb
 go_upto_region 5 with fail
 refine rgM [(2, 3), (15, 0), (0, 1), (0, 2)] [.val rQ [Cp.add (Cp.add (Cp.add P P) (Cp.add P P)) (Cp.add (Cp.add P P) (Cp.add P P))], .val rQ [Cp.zero], .oth (fun v => v = .bool b), .oth (fun v => v = .bool b)] ?_ ?_
 ·intro hs
  refine ⟨?_, ?_, ?_, ?_, trivial⟩
  ·exact step_load q4 0 hs Wn rfl rfl tyPt (fun _ => E4.out) hs4_4.lt hs4_4 Na
  ·refine step_call hs Wn rfl fun L u W hJ hG hL hdep K hK => ?_
   go_simp
   go_at_call 82
   (with_reducible refine (kZero _).mono ?_); rintro e w1 ⟨r, rfl, hr, hb⟩
   exact hK.out _ _ hr hb
  ·refine step_callO hs Wn rfl fun L u W hJ hG hL hdep K hK => ?_
   have a0 := (vE rQ [Cp.add (Cp.add (Cp.add P P) (Cp.add P P)) (Cp.add (Cp.add P P) (Cp.add P P))] hG hdep 0)
   have a1 := (vE rQ [Cp.zero] hG hdep 1)
   go_simp
   go_at_call 49
   (with_reducible refine (kPSame (b := b) (by rw [← HQ.out, mul_eight]) a0 a1 _).mono ?_); rintro e w1 ⟨rfl, hb⟩
   exact hK.out _ _ rfl hb
  ·exact mvO 2 hs
 intro L5 u5 W5 hall hJ hG
 have hb := hJ.all rfl
 have hbel := Below.call hbel hb
 have HC20 := oC (.bool b) hG 2
 have HC2 := oC (.bool b) hG 3
 have hbel0 := hbel
 clear hJ hG hall hb
 rw [HC2.out]
 go_wp2
 go_ret
 exact ⟨rfl, hbel⟩
set_option maxHeartbeats 4000000 in
theorem kMult {v0 v1 : Value} {P Q : EP} {s : F} (hq : Cp.mul s.val P = Q) (h0 : IsFs rQ v0 [P]) (h1 : IsFs rC v1 [s]) (w : World) :
  Calls Tryz.prog 33 #[v0, v1] w fun e w' => ∃ r, e = .returned r ∧ IsFs rQ r [Q] ∧ Below w.heap.size w w' := by
 have HL := Lib.hid (of_isC h1).1
 subst hq
 go_enter Tryz.func33, Tryz.ntmps33
 have hbel : Below w.heap.size w w := Below.refl _ _
 have hbel0 := hbel
 go_upto_region 0 with fail
 refine rgT [(2, 0), (0, 1), (0, 2)] [.box rQ [P], .box rC [s], .new 48] ?_ ?_
 ·intro hs
  refine ⟨?_, ?_, ?_, trivial⟩
  ·exact step_box hs Wn rfl rfl (gives_c h0 (fun _ => rfl))
  ·exact step_box hs Wn rfl rfl (gives_c h1 (fun _ => rfl))
  ·exact step_alloc hs Wn rfl rfl (by omega) rfl allocPt
 intro L0 u0 W0 hall hJ hG
 obtain ⟨q2, e2, ⟨hq2, _⟩, ht2, hm2⟩ := oB 48 rQ [P] hG 0
 have hq2 : w.heap.size ≤ q2 := by have := hbel0.size; omega
 have E2 := Lib.hid e2; clear e2
 obtain ⟨q3, e3, ⟨hq3, _⟩, ht3, hm3⟩ := oB 32 rC [s] hG 1
 have hq3 : w.heap.size ≤ q3 := by have := hbel0.size; omega
 have E3 := Lib.hid e3; clear e3
 obtain ⟨q4, e4, hq4, _, ht4⟩ := oN 48 hG 2
 have hq4 : w.heap.size ≤ q4 := by have := hbel0.size; omega
 have E4 := Lib.hid e4; clear e4
 have hb := hJ.all rfl
 have hbel := Below.call hbel hb
 have HN2_4 := Lib.hid (show q2 ≠ q4 from fun e => hJ.apart 0 2 _ (by omega) (hall _ (by simp)) (hall _ (by simp)) rfl rfl (E2.out.trans (by rw [e])) E4.out)
 have HN3_4 := Lib.hid (show q3 ≠ q4 from fun e => hJ.apart 1 2 _ (by omega) (hall _ (by simp)) (hall _ (by simp)) rfl rfl (E3.out.trans (by rw [e])) E4.out)
 have hbel0 := hbel
 clear hJ hG hall hb
 go_upto_region 1 with fail
 refine rgT [(5, 1), (2, 0)] [.val rR [dE], .new 16, .st 1 rR [dE]] ?_ ?_
 ·intro hs
  refine ⟨?_, ?_, ?_, trivial⟩
  ·refine step_call hs Wn rfl fun L u W hJ hG hL hdep K hK => ?_
   go_simp
   go_at_call 81
   (with_reducible refine (kCurve _).mono ?_); rintro e w1 ⟨r, rfl, hr, hb⟩
   exact hK.out _ _ hr hb
  ·exact step_alloc hs Wn rfl rfl (by omega) rfl allocFe
  ·exact step_store 1 hs (by kernel_rfl) Wn rfl rfl rfl (by kernel_rfl) (by kernel_rfl) (by kernel_rfl) (by kernel_rfl) (fun _ => rfl) (gO 0) tyFe rfl
 intro L1 u1 W1 hall hJ hG
 obtain ⟨q5, e5, hq5, _, ht5⟩ := oN 16 hG 1
 have hm5 := oS rR [dE] hG 2 e5
 have HD5_q2 := Lib.hid (show q2 ≠ q5 by have := there_lt ht2 (by omega); omega)
 have HD5_q3 := Lib.hid (show q3 ≠ q5 by have := there_lt ht3 (by omega); omega)
 have HD5_q4 := Lib.hid (show q4 ≠ q5 by have := there_lt ht4 (by omega); omega)
 have hq5 : w.heap.size ≤ q5 := by have := hbel0.size; omega
 have E5 := Lib.hid e5; clear e5
 have hb := hJ.all rfl
 have hbel := Below.call hbel hb
 have hm2 := hm2.later hb
 have hm3 := hm3.later hb
 have ht2 := there_later ht2 hb
 have ht3 := there_later ht3 hb
 have ht4 := there_later ht4 hb
 have hbel0 := hbel
 clear hJ hG hall hb
 go_upto_region 2 with fail
 refine rgT [(6, 1), (2, 0)] [.val rQ [Cp.zero], .new 48, .st 1 rQ [Cp.zero]] ?_ ?_
 ·intro hs
  refine ⟨?_, ?_, ?_, trivial⟩
  ·refine step_call hs Wn rfl fun L u W hJ hG hL hdep K hK => ?_
   go_simp
   go_at_call 82
   (with_reducible refine (kZero _).mono ?_); rintro e w1 ⟨r, rfl, hr, hb⟩
   exact hK.out _ _ hr hb
  ·exact step_alloc hs Wn rfl rfl (by omega) rfl allocPt
  ·exact step_store 1 hs (by kernel_rfl) Wn rfl rfl rfl (by kernel_rfl) (by kernel_rfl) (by kernel_rfl) (by kernel_rfl) (fun _ => rfl) (gO 0) tyPt rfl
 intro L2 u2 W2 hall hJ hG
 obtain ⟨q6, e6, hq6, _, ht6⟩ := oN 48 hG 1
 have hm6 := oS rQ [Cp.zero] hG 2 e6
 have HD6_q2 := Lib.hid (show q2 ≠ q6 by have := there_lt ht2 (by omega); omega)
 have HD6_q3 := Lib.hid (show q3 ≠ q6 by have := there_lt ht3 (by omega); omega)
 have HD6_q4 := Lib.hid (show q4 ≠ q6 by have := there_lt ht4 (by omega); omega)
 have HD6_q5 := Lib.hid (show q5 ≠ q6 by have := there_lt ht5 (by omega); omega)
 have hq6 : w.heap.size ≤ q6 := by have := hbel0.size; omega
 have E6 := Lib.hid e6; clear e6
 have hb := hJ.all rfl
 have hbel := Below.call hbel hb
 have hm2 := hm2.later hb
 have hm3 := hm3.later hb
 have hm5 := hm5.later hb
 have ht2 := there_later ht2 hb
 have ht3 := there_later ht3 hb
 have ht4 := there_later ht4 hb
 have ht5 := there_later ht5 hb
 have hbel0 := hbel
 clear hJ hG hall hb
 go_wp2_with fail
 go_loopw [7] (fun sk wr => ∃ j : Nat, j ≤ 256 ∧ sk = .int .i64 ((j : Int) - 1) ∧ HasFs rQ wr q2 0 [P] ∧ HasFs rC wr q3 0 [s] ∧ HasFs rR wr q5 0 [dE] ∧ HasFs rQ wr q6 0 [Cp.mul (s.val / 2 ^ j) P] ∧ wr.there q2 0 48 ∧ wr.there q3 0 32 ∧ wr.there q5 0 16 ∧ wr.there q6 0 48 ∧ wr.there q4 0 48 ∧ Below w.heap.size w wr) (fun t _ => (intOf t + 1).toNat)
 case atStart => exact ⟨256, by omega, by simp, hm2, hm3, hm5, (by rw [sc_256 HL.out]; exact hm6), ht2, ht3, ht5, ht6, ht4, hbel⟩
 case round =>
  obtain ⟨j, hj, rfl, hmP, hmS, hmD, hmO, ht2', ht3', ht5', ht6', ht4', hbel'⟩ := hrel
  clear hm2 hm3 hm5 hm6 ht2 ht3 ht4 ht5 ht6 hbel hbel0 h0 h1
  have hbel := hbel'
  have hbel0 := hbel'
  by_cases h0 : 0 < j
  ·obtain ⟨i, rfl⟩ : ∃ i, j = i + 1 := ⟨j - 1, by omega⟩
   have hz : (((i + 1 : Nat) : Int) - 1) = (i : Int) := by omega
   simp only [hz]
   have h1 : (0 : Int) ≤ (i : Int) := by omega
   have h2 : (i : Int) < 256 := by omega
   have HI : Hid (i + 1 ≤ 256) := Lib.hid (by omega)
   clear hz h0 hj
   go_upto_region 6 with fail
   refine rgT [(14, 0), (0, 1), (0, 2), (0, 3)] [.val rQ [Cp.mul (s.val / 2 ^ (i + 1)) P], .val rQ [Cp.mul (s.val / 2 ^ (i + 1)) P], .val rR [dE], .val rQ [Cp.add (Cp.mul (s.val / 2 ^ (i + 1)) P) (Cp.mul (s.val / 2 ^ (i + 1)) P)], .sto q6 rQ [Cp.add (Cp.mul (s.val / 2 ^ (i + 1)) P) (Cp.mul (s.val / 2 ^ (i + 1)) P)]] ?_ ?_
   ·intro hs
    refine ⟨?_, ?_, ?_, ?_, ?_, trivial⟩
    ·exact step_load q6 0 hs Wn rfl rfl tyPt (fun _ => E6.out) hmO.lt hmO Na
    ·exact step_load q6 0 hs Wn rfl rfl tyPt (fun _ => E6.out) hmO.lt hmO Na
    ·exact step_load q5 0 hs Wn rfl rfl tyFe (fun _ => E5.out) hmD.lt hmD (apN (Ne.symm HD6_q5.out))
    ·refine step_call hs Wn rfl fun L u W hJ hG hL hdep K hK => ?_
     have a0 := (vE rQ [Cp.mul (s.val / 2 ^ (i + 1)) P] hG hdep 0)
     have a1 := (vE rQ [Cp.mul (s.val / 2 ^ (i + 1)) P] hG hdep 1)
     have a2 := (vE rR [dE] hG hdep 2)
     go_simp
     go_at_call 83
     (with_reducible refine (kAddD a0 a1 a2 _).mono ?_); rintro e w1 ⟨r, rfl, hr, hb⟩
     exact hK.out _ _ hr hb
    ·refine step_storeO q6 48 hs Wn rfl rfl (by kernel_rfl) (fun k hk => ?_) (fun _ => E6.out) (there_lt ht6' (by omega)) ht6' (gO 3) tyPt rfl
     rcases k with _ | _ | _ | _ | _ | k
     all_goals first | (exact absurd rfl hk) | (intro e; cases e; done)
   intro L6 u6 W6 hall hJ hG
   have hb := hJ.beN hbel
   have hbel := hbel.trans hb
   have hmP := kC hmP hJ HD6_q2.out
   have hmS := kC hmS hJ HD6_q3.out
   have hmD := kC hmD hJ HD6_q5.out
   have ht2' := tC ht2' hJ HD6_q2.out
   have ht3' := tC ht3' hJ HD6_q3.out
   have ht5' := tC ht5' hJ HD6_q5.out
   have ht4' := tC ht4' hJ HD6_q4.out
   obtain ⟨_, hs6_4t, hs6_4⟩ := oT 48 rQ [Cp.add (Cp.mul (s.val / 2 ^ (i + 1)) P) (Cp.mul (s.val / 2 ^ (i + 1)) P)] hG 4
   have hbel0 := hbel
   clear hJ hG hall hb
   by_cases hb1 : s.val / 2 ^ i % 2 = 1
   ·have HB := Lib.hid hb1; clear hb1
    go_upto_region 7 with fail
    refine rgT [(18, 0), (0, 1), (0, 2), (0, 3)] [.val rC [s], .oth (fun v => v = .int .i64 (i : Int)), .oth (fun v => v = .int .i64 1), .oth (fun v => v = .bool true)] ?_ ?_
    ·intro hs
     refine ⟨?_, ?_, ?_, ?_, trivial⟩
     ·exact step_load q3 0 hs Wn rfl rfl tySc (fun _ => E3.out) hmS.lt hmS Na
     ·exact mvK hs fun _ => rfl
     ·refine step_callO hs Wn rfl fun L u W hJ hG hL hdep K hK => ?_
      have a0 := (vE rC [s] hG hdep 0)
      have x0 := (oE (.int .i64 (i : Int)) hG hdep 1)
      go_simp
      go_at_call 84
      (with_reducible refine (kScBit (z := 1) (bit_1 (by have := HI.out; omega) HB.out) a0 _).mono ?_); rintro e w1 ⟨rfl, hb⟩
      have hk := hK.out _ _ rfl hb
      simp only [x0] at hk
      exact hk
     ·refine step_pureO hs Wn rfl fun L u W hG hdep => ⟨_, ?_, rfl⟩
      have e0 := (oE (.int .i64 1) hG hdep 2)
      go_simp
      try simp [bne]
    intro L7 u7y W7y hall hJ hG
    have hb := hJ.all rfl
    have hbel := Below.call hbel hb
    have hmP := hmP.later hb
    have hmS := hmS.later hb
    have hmD := hmD.later hb
    have hs6_4 := hs6_4.later hb
    have ht2' := there_later ht2' hb
    have ht3' := there_later ht3' hb
    have ht5' := there_later ht5' hb
    have hs6_4t := there_later hs6_4t hb
    have ht4' := there_later ht4' hb
    have HC21 := oC (.bool true) hG 3
    have hbel0 := hbel
    clear hJ hG hall hb
    have hx : u7y 3 = .bool true := HC21.out
    go_wp2_with fail
    rw [hx]
    clear hx
    go_upto_region 8 with fail
    refine rgT [(22, 0), (0, 1), (0, 2), (0, 3)] [.val rQ [Cp.add (Cp.mul (s.val / 2 ^ (i + 1)) P) (Cp.mul (s.val / 2 ^ (i + 1)) P)], .val rQ [P], .val rR [dE], .val rQ [Cp.add (Cp.add (Cp.mul (s.val / 2 ^ (i + 1)) P) (Cp.mul (s.val / 2 ^ (i + 1)) P)) P], .sto q6 rQ [Cp.add (Cp.add (Cp.mul (s.val / 2 ^ (i + 1)) P) (Cp.mul (s.val / 2 ^ (i + 1)) P)) P]] ?_ ?_
    ·intro hs
     refine ⟨?_, ?_, ?_, ?_, ?_, trivial⟩
     ·exact step_load q6 0 hs Wn rfl rfl tyPt (fun _ => E6.out) hs6_4.lt hs6_4 Na
     ·exact step_load q2 0 hs Wn rfl rfl tyPt (fun _ => E2.out) hmP.lt hmP (apN (Ne.symm HD6_q2.out))
     ·exact step_load q5 0 hs Wn rfl rfl tyFe (fun _ => E5.out) hmD.lt hmD (apN (Ne.symm HD6_q5.out))
     ·refine step_call hs Wn rfl fun L u W hJ hG hL hdep K hK => ?_
      have a0 := (vE rQ [Cp.add (Cp.mul (s.val / 2 ^ (i + 1)) P) (Cp.mul (s.val / 2 ^ (i + 1)) P)] hG hdep 0)
      have a1 := (vE rQ [P] hG hdep 1)
      have a2 := (vE rR [dE] hG hdep 2)
      go_simp
      go_at_call 83
      (with_reducible refine (kAddD a0 a1 a2 _).mono ?_); rintro e w1 ⟨r, rfl, hr, hb⟩
      exact hK.out _ _ hr hb
     ·refine step_storeO q6 48 hs Wn rfl rfl (by kernel_rfl) (fun k hk => ?_) (fun _ => E6.out) (there_lt hs6_4t (by omega)) hs6_4t (gO 3) tyPt rfl
      rcases k with _ | _ | _ | _ | _ | k
      all_goals first | (exact absurd rfl hk) | (intro e; cases e; done)
    intro L8 u8y W8y hall hJ hG
    have hb := hJ.beN hbel
    have hbel := hbel.trans hb
    have hmP := kC hmP hJ HD6_q2.out
    have hmS := kC hmS hJ HD6_q3.out
    have hmD := kC hmD hJ HD6_q5.out
    have ht2' := tC ht2' hJ HD6_q2.out
    have ht3' := tC ht3' hJ HD6_q3.out
    have ht5' := tC ht5' hJ HD6_q5.out
    have ht4' := tC ht4' hJ HD6_q4.out
    obtain ⟨_, hs8_4t, hs8_4⟩ := oT 48 rQ [Cp.add (Cp.add (Cp.mul (s.val / 2 ^ (i + 1)) P) (Cp.mul (s.val / 2 ^ (i + 1)) P)) P] hG 4
    have hbel0 := hbel
    clear hJ hG hall hb
    go_wp2_with fail
    go_roundw
    case rel => exact ⟨i, by have := HI.out; omega, by go_num, hmP, hmS, hmD, (by rw [← mul_dig1 HB.out]; exact hs8_4), ht2', ht3', ht5', hs8_4t, ht4', hbel⟩
    case measure => simp [intOf]
   ·have HB := Lib.hid hb1; clear hb1
    go_upto_region 7 with fail
    refine rgT [(18, 0), (0, 1), (0, 2), (0, 3)] [.val rC [s], .oth (fun v => v = .int .i64 (i : Int)), .oth (fun v => v = .int .i64 0), .oth (fun v => v = .bool false)] ?_ ?_
    ·intro hs
     refine ⟨?_, ?_, ?_, ?_, trivial⟩
     ·exact step_load q3 0 hs Wn rfl rfl tySc (fun _ => E3.out) hmS.lt hmS Na
     ·exact mvK hs fun _ => rfl
     ·refine step_callO hs Wn rfl fun L u W hJ hG hL hdep K hK => ?_
      have a0 := (vE rC [s] hG hdep 0)
      have x0 := (oE (.int .i64 (i : Int)) hG hdep 1)
      go_simp
      go_at_call 84
      (with_reducible refine (kScBit (z := 0) (bit_0 (by have := HI.out; omega) HB.out) a0 _).mono ?_); rintro e w1 ⟨rfl, hb⟩
      have hk := hK.out _ _ rfl hb
      simp only [x0] at hk
      exact hk
     ·refine step_pureO hs Wn rfl fun L u W hG hdep => ⟨_, ?_, rfl⟩
      have e0 := (oE (.int .i64 0) hG hdep 2)
      go_simp
      try simp [bne]
    intro L7 u7n W7n hall hJ hG
    have hb := hJ.all rfl
    have hbel := Below.call hbel hb
    have hmP := hmP.later hb
    have hmS := hmS.later hb
    have hmD := hmD.later hb
    have hs6_4 := hs6_4.later hb
    have ht2' := there_later ht2' hb
    have ht3' := there_later ht3' hb
    have ht5' := there_later ht5' hb
    have hs6_4t := there_later hs6_4t hb
    have ht4' := there_later ht4' hb
    have HC21 := oC (.bool false) hG 3
    have hbel0 := hbel
    clear hJ hG hall hb
    have hx : u7n 3 = .bool false := HC21.out
    go_wp2_with fail
    rw [hx]
    clear hx
    go_wp2_with fail
    go_roundw
    case rel => exact ⟨i, by have := HI.out; omega, by go_num, hmP, hmS, hmD, (by rw [← mul_dig0 HB.out]; exact hs6_4), ht2', ht3', ht5', hs6_4t, ht4', hbel⟩
    case measure => simp [intOf]
  ·obtain rfl : j = 0 := by omega
   have hz : (((0 : Nat) : Int) - 1) = -1 := by omega
   simp only [hz]
   clear hz h0 hj
   go_upto_region 9 with fail
   refine rgT [(26, 0)] [.val rQ [Cp.mul (s.val / 2 ^ 0) P], .sto q4 rQ [Cp.mul (s.val / 2 ^ 0) P]] ?_ ?_
   ·intro hs
    refine ⟨?_, ?_, trivial⟩
    ·exact step_load q6 0 hs Wn rfl rfl tyPt (fun _ => E6.out) hmO.lt hmO (apN HD6_q4.out)
    ·refine step_storeO q4 48 hs Wn rfl rfl (by kernel_rfl) (fun k hk => ?_) (fun _ => E4.out) (there_lt ht4' (by omega)) ht4' (gO 0) tyPt rfl
     rcases k with _ | _ | k
     all_goals first | (exact absurd rfl hk) | (intro e; cases e; done)
   intro L9 u9 W9 hall hJ hG
   have hb := hJ.beN hbel
   have hbel := hbel.trans hb
   have hmP := kC hmP hJ HN2_4.out
   have hmS := kC hmS hJ HN3_4.out
   have hmD := kB hmD hJ HD5_q4.out
   have hmO := kB hmO hJ HD6_q4.out
   have ht2' := tC ht2' hJ HN2_4.out
   have ht3' := tC ht3' hJ HN3_4.out
   have ht5' := tB ht5' hJ HD5_q4.out
   have ht6' := tB ht6' hJ HD6_q4.out
   obtain ⟨_, hs9_1t, hs9_1⟩ := oT 48 rQ [Cp.mul (s.val / 2 ^ 0) P] hG 1
   have hbel0 := hbel
   clear hJ hG hall hb
   go_wp2
   exact ret_cell1 (R := rQ) Tryz.results33 (by exact E4.out) hs9_1 tyPt rfl (fun r hr => ⟨r, rfl, by rw [Nat.pow_zero, Nat.div_one] at hr; exact hr, hbel⟩)
theorem xx_fsR {v : Value} {y : F} (h : IsFs rR v [(y * y - fn 1) * finv (dE * (y * y) + fn 1)]) : IsFs rR v [xx y] := by
 rw [F.mul_comm' dE] at h
 exact h
theorem rrootN {v : Value} {x X : F} {c : Int} (hX : rootV x = X) (hc : rootC x = c) (h : IsFs rR v [x]) (w : World) :
  Calls Tryz.prog 103 #[v] w fun e w' => ∃ r, e = .returned (.tuple #[r, .int .i64 c]) ∧ IsFs rR r [X] ∧ Below w.heap.size w w' := by subst hX hc; exact rrootM h w
theorem dec_prep {P : EP} {x y : F} (hx : P.x = x) (hy : P.y = y) : Prep P x y (fn 1) := by subst hx hy; exact Prep.one P
theorem odd_bit2 {l : List UInt8} {c : UInt8} {o : Bool} (h : l.length = 32) (hc : l.getD 31 0 = c) (ho : sgn l = o) : ((c.toNat : Int) / 128 == 1) = o := by
 rw [← ho, sgn_byte h, hc]
 exact odd_byte2 _ c.toNat_lt
theorem clr_bit2 {c d : UInt8} (h : c &&& 127 = d) : bits BinOp.and IntKind.u8 (c.toNat : Int) 127 = (d.toNat : Int) := by
 have := clr_byte3 c.toNat c.toNat_lt
 rw [UInt8.ofNat_toNat, h] at this
 exact this
set_option maxHeartbeats 4000000 in
theorem qdecode_len {a : Option Addr} {n cap : Nat} (w : World) (hn : n ≠ 32) :
  Calls Tryz.prog 46 #[.slice a n cap] w fun e w' => ∃ r, e = .returned (.tuple #[r, .int .i64 12]) ∧ IsFs rQ r [Cp.zero] ∧ Below w.heap.size w w' := by
 have HD : Hid (¬ ((n : Int) = 32)) := Lib.hid (by omega)
 clear hn
 go_enter Tryz.func46, Tryz.ntmps46
 have hbel : Below w.heap.size w w := Below.refl _ _
 have hbel0 := hbel
 go_upto_region 0 with fail
 refine rgT [(2, 0), (0, 1)] [.new 48, .oth (fun v => v = .int .i64 0)] ?_ ?_
 ·intro hs
  refine ⟨?_, ?_, trivial⟩
  ·exact step_alloc hs Wn rfl rfl (by omega) rfl allocPt
  ·exact mvK hs fun _ => rfl
 intro L0 u0 W0 hall hJ hG
 obtain ⟨q2, e2, hq2, _, ht2⟩ := oN 48 hG 0
 have hq2 : w.heap.size ≤ q2 := by have := hbel0.size; omega
 have E2 := Lib.hid e2; clear e2
 have hb := hJ.all rfl
 have hbel := Below.call hbel hb
 have HC3 := oC (.int .i64 0) hG 1
 have hbel0 := hbel
 clear hJ hG hall hb
 go_upto_region 1 with fail
 refine rgT [(13, 0), (0, 1), (0, 2)] [.oth (fun v => v = .slice a n cap), .oth (fun v => v = .int .i64 (n : Nat)), .oth (fun v => v = .bool true)] ?_ ?_
 ·intro hs
  refine ⟨?_, ?_, ?_, trivial⟩
  ·exact mvK hs fun _ => rfl
  ·refine step_pureO hs Wn rfl fun L u W hG hdep => ⟨_, ?_, rfl⟩
   have e0 := (oE (.slice a n cap) hG hdep 0)
   go_simp
  ·refine step_pureO hs Wn rfl fun L u W hG hdep => ⟨_, ?_, rfl⟩
   have e0 := (oE (.int .i64 (n : Nat)) hG hdep 1)
   go_simp
   exact HD.out
 intro L1 u1 W1 hall hJ hG
 have hb := hJ.all rfl
 have hbel := Below.call hbel hb
 have ht2 := there_later ht2 hb
 have HC15 := oC (.bool true) hG 2
 have hbel0 := hbel
 clear hJ hG hall hb
 have hx : u1 2 = .bool true := HC15.out
 go_wp2_with fail
 rw [hx]
 clear hx
 go_upto_region 2 with fail
 refine rgT [(3, 2), (12, 0)] [.val rQ [Cp.zero], .sto q2 rQ [Cp.zero], .oth (fun v => v = .int .i64 12)] ?_ ?_
 ·intro hs
  refine ⟨?_, ?_, ?_, trivial⟩
  ·refine step_call hs Wn rfl fun L u W hJ hG hL hdep K hK => ?_
   go_simp
   go_at_call 82
   (with_reducible refine (kZero _).mono ?_); rintro e w1 ⟨r, rfl, hr, hb⟩
   exact hK.out _ _ hr hb
  ·refine step_storeO q2 48 hs Wn rfl rfl (by kernel_rfl) (fun k hk => ?_) (fun _ => E2.out) (there_lt ht2 (by omega)) ht2 (gO 0) tyPt rfl
   rcases k with _ | _ | _ | k
   all_goals first | (exact absurd rfl hk) | (intro e; cases e; done)
  ·exact mvK hs fun _ => rfl
 intro L2 u2 W2 hall hJ hG
 have hb := hJ.beN hbel
 have hbel := hbel.trans hb
 obtain ⟨_, hs2_1t, hs2_1⟩ := oT 48 rQ [Cp.zero] hG 1
 have HC3 := oC (.int .i64 12) hG 2
 have hbel0 := hbel
 clear hJ hG hall hb
 go_wp2
 exact ret_cell_slot (R := rQ) Tryz.results46 (by exact E2.out) (by exact HC3.out) hs2_1 tyPt rfl (fun r hr => ⟨r, rfl, hr, hbel⟩)
set_option maxHeartbeats 8000000 in
theorem qdecode_32 {bb q cap : Nat} {l : List UInt8} {o : Bool} (w : World) (hs : sgn l = o) (h : RdB w (some ⟨bb, q, none⟩) 32 cap l) :
  Calls Tryz.prog 46 #[.slice (some ⟨bb, q, none⟩) 32 cap] w fun e w' => ∃ r, e = .returned (.tuple #[r, .int .i64 (decC l)]) ∧ IsFs rQ r [decV l] ∧ Below w.heap.size w w' := by
 have hl := h.hlen
 obtain ⟨b', q', hab, hc0⟩ := h.get 31 (by omega)
 obtain ⟨rfl, rfl⟩ : bb = b' ∧ q = q' := by simpa using hab
 clear hab
 obtain ⟨c, hc⟩ : ∃ c, c = l.getD 31 0 := ⟨_, rfl⟩
 have hc1 : w.cell? ⟨bb, q + 31, none⟩ = some (.int .u8 (c.toNat : Int)) := by
  rw [hc0, hc, List.getD_eq_getElem?_getD, List.getElem?_eq_getElem (by omega)]; rfl
 have HCL := Lib.hid hc1
 have HOB := Lib.hid (odd_bit2 hl hc.symm hs)
 obtain ⟨d, hd⟩ : ∃ d, c &&& 127 = d := ⟨_, rfl⟩
 have HDB := Lib.hid (clr_bit2 hd)
 have HK0 : Hid (l.set 31 d = clr l) := Lib.hid (by unfold clr; rw [← hc, hd])
 have HL := Lib.hid hl; have HS := Lib.hid hs; have HCC := Lib.hid hc
 clear hc0 hc1 hc hd hl hs
 go_enter Tryz.func46, Tryz.ntmps46
 have hbel : Below w.heap.size w w := Below.refl _ _
 have hbel0 := hbel
 go_upto_region 0 with fail
 refine rgT [(2, 0), (0, 1)] [.new 48, .oth (fun v => v = .int .i64 0)] ?_ ?_
 ·intro hs
  refine ⟨?_, ?_, trivial⟩
  ·exact step_alloc hs Wn rfl rfl (by omega) rfl allocPt
  ·exact mvK hs fun _ => rfl
 intro L0 u0 W0 hall hJ hG
 obtain ⟨q2, e2, hq2, _, ht2⟩ := oN 48 hG 0
 have hq2 : w.heap.size ≤ q2 := by have := hbel0.size; omega
 have E2 := Lib.hid e2; clear e2
 have hb := hJ.all rfl
 have hbel := Below.call hbel hb
 have HC3 := oC (.int .i64 0) hG 1
 have hbel0 := hbel
 clear hJ hG hall hb
 go_upto_region 1 with fail
 refine rgT [(13, 0), (0, 1), (0, 2)] [.oth (fun v => v = .slice (some ⟨bb, q, none⟩) 32 cap), .oth (fun v => v = .int .i64 32), .oth (fun v => v = .bool false)] ?_ ?_
 ·intro hs
  refine ⟨?_, ?_, ?_, trivial⟩
  ·exact mvK hs fun _ => rfl
  ·refine step_pureO hs Wn rfl fun L u W hG hdep => ⟨_, ?_, rfl⟩
   have e0 := (oE (.slice (some ⟨bb, q, none⟩) 32 cap) hG hdep 0)
   go_simp
  ·refine step_pureO hs Wn rfl fun L u W hG hdep => ⟨_, ?_, rfl⟩
   have e0 := (oE (.int .i64 32) hG hdep 1)
   go_simp
   try simp [bne]
 intro L1 u1 W1 hall hJ hG
 have hb := hJ.all rfl
 have hbel := Below.call hbel hb
 have ht2 := there_later ht2 hb
 have HC15 := oC (.bool false) hG 2
 have hbel0 := hbel
 clear hJ hG hall hb
 have hx : u1 2 = .bool false := HC15.out
 go_wp2_with fail
 rw [hx]
 clear hx
 have HR0 := h.below hbel
 go_upto_region 4 with (first | (at_builtin; go_must (refine app_bytes _ rfl (.tmp 17) (.tmp 18) rfl W1.heap.size _ 0 [] rfl (own_none W1 5 W1.heap.size (Nat.le_refl _)) _ _ _ l rfl (by exact HR0.below ((Below.refl _ _).alloc (Nat.le_refl _) _)) (by omega) (by simp) W1 (by exact (Below.refl _ _).alloc (Nat.le_refl _) _) ?_; intro v1 W3 hown hb)))
 clear HR0
 rw [Nat.zero_add, List.nil_append] at hown
 obtain ⟨gB, cB, rB, rfl, hgB0, hB, _, hcB, hmB⟩ := own_rdb (n := 32) (l := l) hown (by omega)
 clear hown
 have hgB : w.heap.size ≤ gB := by have := hbel.size; omega
 have HE_q2 := Lib.hid (show q2 ≠ gB by have := there_lt ht2 (by omega); omega)
 have ht2 := there_later ht2 hb
 have hbel := Below.call hbel hb
 have hbel0 := hbel
 have HB := Lib.hid hB
 have HWZ : Hid (W1.heap.size ≤ W3.heap.size) := Lib.hid hb.size
 clear hB hb
 have hcell : W3.cell? ⟨gB, 31, none⟩ = some (.int .u8 (c.toNat : Int)) := by rw [HCC.out]; exact at31 HL.out HB.out
 have HCX := Lib.hid hcell; have HCF : Hid (W3.frozen? ⟨gB, 31, none⟩ = false) := Lib.hid (HB.out.frozen 31)
 clear hcell
 refine rgT [(20, 0), (0, 1), (0, 2), (0, 3), (0, 4), (0, 5)] [.oth (fun v => v = .slice (some ⟨gB, 0, none⟩) 32 cB), .oth (fun v => v = .slice (some ⟨gB, 0, none⟩) 32 cB), .oth (fun v => v = .pointer (some ⟨gB, 31, none⟩)), .oth (fun v => v = .int .u8 (c.toNat : Int)), .oth (fun v => v = .int .u8 (d.toNat : Int)), .oth (fun v => v = .pointer (some ⟨gB, 31, none⟩)), .cst gB 31 (.int .u8 (d.toNat : Int))] ?_ ?_
 ·intro hs
  refine ⟨?_, ?_, ?_, ?_, ?_, ?_, ?_, trivial⟩
  ·exact mvK hs fun _ => rfl
  ·exact mvK hs fun _ => rfl
  ·refine step_pureO hs Wn rfl fun L u W hG hdep => ⟨_, ?_, rfl⟩
   have e0 := (oE (.slice (some ⟨gB, 0, none⟩) 32 cB) hG hdep 1)
   go_simp
  ·exact step_cell gB 31 hs Wn rfl rfl (fun _ h => load_u8 h) (fun L u W hG hdep => (oE (.pointer (some ⟨gB, 31, none⟩)) hG hdep 2)) HCX.out Na
  ·refine step_pureO hs Wn rfl fun L u W hG hdep => ⟨_, ?_, rfl⟩
   have e0 := (oE (.int .u8 (c.toNat : Int)) hG hdep 3)
   have e9 := HDB.out
   go_simp
  ·refine step_pureO hs Wn rfl fun L u W hG hdep => ⟨_, ?_, rfl⟩
   have e0 := (oE (.slice (some ⟨gB, 0, none⟩) 32 cB) hG hdep 0)
   go_simp
  ·refine step_cst (old := .int .u8 (c.toNat : Int)) gB 31 hs Wn rfl rfl (by kernel_rfl) (fun k hk => ?_) (fun _ h1 h2 => store_u8 h1 h2) (fun L u W hG hdep => (oE (.pointer (some ⟨gB, 31, none⟩)) hG hdep 5)) (fun L u W hG hdep => (oE (.int .u8 (d.toNat : Int)) hG hdep 4)) HCX.out HCF.out
   rcases k with _ | _ | _ | _ | _ | _ | _ | k
   all_goals first | (exact absurd rfl hk) | (intro e; cases e; done)
 intro L4 u4 W4 hall hJ hG
 have hb := hJ.beN hbel
 have hbel := hbel.trans hb
 have ht2 := tC ht2 hJ HE_q2.out
 have HB := Lib.hid (blk_keep (HB.out.set 31 (.int .u8 (d.toNat : Int))) (show _ ∧ W4.heap[gB]? = (W3.setCell ⟨gB, 31, none⟩ (.int .u8 (d.toNat : Int))).heap[gB]? from hG 6 (by simp)).2)
 have hbel0 := hbel
 clear hJ hG hall hb
 have HKB : Hid (Blk W4 gB ((clr l).map bV ++ rB) 5) := Lib.hid (by rw [← HK0.out, ← set31 HL.out]; exact HB.out)
 clear HB HCX HCF HK0 HDB HCC
 have HKL : Hid ((clr l).length = 32) := Lib.hid (by rw [clr_len]; exact HL.out)
 by_cases hlow : lowN l < Pq
 rotate_left
 ·have HLW := Lib.hid hlow; clear hlow
  have HC2 := Lib.hid (stC_no HL.out HLW.out)
  generalize clr l = K at *
  go_upto_region 5 with fail
  refine rgT [(5, 5), (0, 7), (19, 2), (0, 0), (0, 1), (0, 3), (0, 4)] [.oth (fun v => v = .slice (some ⟨gB, 0, none⟩) 32 cB), .oth (fun v => IsTV rR v [stV K] (.int .i64 2)), .oth (fun v => IsTV rR v [stV K] (.int .i64 2)), .val rR [stV K], .oth (fun v => v = .int .i64 2), .new 16, .st 5 rR [stV K], .oth (fun v => v = .int .i64 2)] ?_ ?_
  ·intro hs
   refine ⟨?_, ?_, ?_, ?_, ?_, ?_, ?_, ?_, trivial⟩
   ·exact mvK hs fun _ => rfl
   ·refine step_callO hs Wn rfl fun L u W hJ hG hL hdep K hK => ?_
    have x0 := (oE (.slice (some ⟨gB, 0, none⟩) 32 cB) hG hdep 0)
    have hRB0 := (RdB.blk rB HKB.out HKL.out hcB hmB).below (hJ.all rfl)
    go_simp
    go_at_call 100
    (with_reducible refine (kStrict' rfl HC2.out hRB0).mono ?_); rintro e w1 ⟨r, rfl, hr, hb⟩
    have hk := hK.out _ _ ⟨r, rfl, hr⟩ hb
    simp only [x0] at hk
    exact hk
   ·exact step_pureO hs Wn rfl fun L u W hG hdep => ⟨_, run_move rfl, (show IsTV rR (u 1) [stV K] (.int .i64 2) from hG 1 (hdep 1 (by kernel_rfl)))⟩
   ·exact step_pure hs Wn rfl fun L u W hG hdep => run_extractV0 rfl (show IsTV rR (u 2) [stV K] (.int .i64 2) from hG 2 (hdep 2 (by kernel_rfl)))
   ·exact step_pureO hs Wn rfl fun L u W hG hdep => run_extractV1 rfl (show IsTV rR (u 2) [stV K] (.int .i64 2) from hG 2 (hdep 2 (by kernel_rfl)))
   ·exact step_alloc hs Wn rfl rfl (by omega) rfl allocFe
   ·exact step_store 5 hs (by kernel_rfl) Wn rfl rfl rfl (by kernel_rfl) (by kernel_rfl) (by kernel_rfl) (by kernel_rfl) (fun _ => rfl) (gO 3) tyFe rfl
   ·exact mvO 4 hs
  intro L5 u5a W5a hall hJ hG
  obtain ⟨q5, e5, hq5, _, ht5⟩ := oN 16 hG 5
  have hm5 := oS rR [stV K] hG 6 e5
  have HD5_q2 := Lib.hid (show q2 ≠ q5 by have := there_lt ht2 (by omega); omega)
  have hq5 : w.heap.size ≤ q5 := by have := hbel0.size; omega
  have E5 := Lib.hid e5; clear e5
  have hb := hJ.all rfl
  have hbel := Below.call hbel hb
  have ht2 := there_later ht2 hb
  have HKB := Lib.hid (HKB.out.below' hb)
  have HC6 := oC (.int .i64 2) hG 7
  have hbel0 := hbel
  clear hJ hG hall hb
  go_upto_region 6 with fail
  refine rgT [(31, 0), (0, 1)] [.oth (fun v => v = .int .i64 2), .oth (fun v => v = .bool true)] ?_ ?_
  ·intro hs
   refine ⟨?_, ?_, trivial⟩
   ·exact mvK hs fun _ => HC6.out
   ·refine step_pureO hs Wn rfl fun L u W hG hdep => ⟨_, ?_, rfl⟩
    have e0 := (oE (.int .i64 2) hG hdep 0)
    go_simp
    try simp [bne]
  intro L6 u6a W6a hall hJ hG
  have hb := hJ.all rfl
  have hbel := Below.call hbel hb
  have hm5 := hm5.later hb
  have ht2 := there_later ht2 hb
  have ht5 := there_later ht5 hb
  have HKB := Lib.hid (HKB.out.below' hb)
  have HC32 := oC (.bool true) hG 1
  have hbel0 := hbel
  clear hJ hG hall hb
  have hx : u6a 1 = .bool true := HC32.out
  go_wp2_with fail
  rw [hx]
  clear hx
  go_upto_region 7 with fail
  refine rgT [(3, 2), (29, 0)] [.val rQ [Cp.zero], .sto q2 rQ [Cp.zero], .oth (fun v => v = .int .i64 12)] ?_ ?_
  ·intro hs
   refine ⟨?_, ?_, ?_, trivial⟩
   ·refine step_call hs Wn rfl fun L u W hJ hG hL hdep K hK => ?_
    go_simp
    go_at_call 82
    (with_reducible refine (kZero _).mono ?_); rintro e w1 ⟨r, rfl, hr, hb⟩
    exact hK.out _ _ hr hb
   ·refine step_storeO q2 48 hs Wn rfl rfl (by kernel_rfl) (fun k hk => ?_) (fun _ => E2.out) (there_lt ht2 (by omega)) ht2 (gO 0) tyPt rfl
    rcases k with _ | _ | _ | k
    all_goals first | (exact absurd rfl hk) | (intro e; cases e; done)
   ·exact mvK hs fun _ => rfl
  intro L7 u7a W7a hall hJ hG
  have hb := hJ.beN hbel
  have hbel := hbel.trans hb
  have hm5 := kB hm5 hJ HD5_q2.out
  have ht5 := tB ht5 hJ HD5_q2.out
  have HKB := Lib.hid (blk_keep HKB.out (hJ.block _ (HKB.out.lt) (fun k hk => by rcases k with _ | _ | _ | k <;> first | (cases hk; done) | (cases hk; exact absurd rfl HE_q2.out))))
  obtain ⟨_, hs7_1t, hs7_1⟩ := oT 48 rQ [Cp.zero] hG 1
  have HC3 := oC (.int .i64 12) hG 2
  have hbel0 := hbel
  clear hJ hG hall hb
  go_wp2
  exact ret_cell_slot (R := rQ) Tryz.results46 (by exact E2.out) (by exact HC3.out) hs7_1 tyPt rfl (fun r hr => ⟨r, by rw [(dec_big HLW.out).2], by rw [(dec_big HLW.out).1]; exact hr, hbel⟩)
 ·have HLW := Lib.hid hlow; clear hlow
  have HC2 := Lib.hid (stC_clr HL.out HLW.out)
  have HV0 := Lib.hid (stV_clr HL.out HLW.out)
  generalize clr l = K at *
  generalize hy : fn (lowN l) = y at *
  have HY := Lib.hid hy; clear hy
  go_upto_region 5 with fail
  refine rgT [(5, 5), (0, 7), (19, 2), (0, 0), (0, 1), (0, 3), (0, 4)] [.oth (fun v => v = .slice (some ⟨gB, 0, none⟩) 32 cB), .oth (fun v => IsTV rR v [y] (.int .i64 0)), .oth (fun v => IsTV rR v [y] (.int .i64 0)), .val rR [y], .oth (fun v => v = .int .i64 0), .new 16, .st 5 rR [y], .oth (fun v => v = .int .i64 0)] ?_ ?_
  ·intro hs
   refine ⟨?_, ?_, ?_, ?_, ?_, ?_, ?_, ?_, trivial⟩
   ·exact mvK hs fun _ => rfl
   ·refine step_callO hs Wn rfl fun L u W hJ hG hL hdep K hK => ?_
    have x0 := (oE (.slice (some ⟨gB, 0, none⟩) 32 cB) hG hdep 0)
    have hRB0 := (RdB.blk rB HKB.out HKL.out hcB hmB).below (hJ.all rfl)
    go_simp
    go_at_call 100
    (with_reducible refine (kStrict' HV0.out HC2.out hRB0).mono ?_); rintro e w1 ⟨r, rfl, hr, hb⟩
    have hk := hK.out _ _ ⟨r, rfl, hr⟩ hb
    simp only [x0] at hk
    exact hk
   ·exact step_pureO hs Wn rfl fun L u W hG hdep => ⟨_, run_move rfl, (show IsTV rR (u 1) [y] (.int .i64 0) from hG 1 (hdep 1 (by kernel_rfl)))⟩
   ·exact step_pure hs Wn rfl fun L u W hG hdep => run_extractV0 rfl (show IsTV rR (u 2) [y] (.int .i64 0) from hG 2 (hdep 2 (by kernel_rfl)))
   ·exact step_pureO hs Wn rfl fun L u W hG hdep => run_extractV1 rfl (show IsTV rR (u 2) [y] (.int .i64 0) from hG 2 (hdep 2 (by kernel_rfl)))
   ·exact step_alloc hs Wn rfl rfl (by omega) rfl allocFe
   ·exact step_store 5 hs (by kernel_rfl) Wn rfl rfl rfl (by kernel_rfl) (by kernel_rfl) (by kernel_rfl) (by kernel_rfl) (fun _ => rfl) (gO 3) tyFe rfl
   ·exact mvO 4 hs
  intro L5 u5b W5b hall hJ hG
  obtain ⟨q5, e5, hq5, _, ht5⟩ := oN 16 hG 5
  have hm5 := oS rR [y] hG 6 e5
  have HD5_q2 := Lib.hid (show q2 ≠ q5 by have := there_lt ht2 (by omega); omega)
  have hq5 : w.heap.size ≤ q5 := by have := hbel0.size; omega
  have E5 := Lib.hid e5; clear e5
  have hb := hJ.all rfl
  have hbel := Below.call hbel hb
  have ht2 := there_later ht2 hb
  have HKB := Lib.hid (HKB.out.below' hb)
  have HC6 := oC (.int .i64 0) hG 7
  have hbel0 := hbel
  clear hJ hG hall hb
  go_upto_region 6 with fail
  refine rgT [(31, 0), (0, 1)] [.oth (fun v => v = .int .i64 0), .oth (fun v => v = .bool false)] ?_ ?_
  ·intro hs
   refine ⟨?_, ?_, trivial⟩
   ·exact mvK hs fun _ => HC6.out
   ·refine step_pureO hs Wn rfl fun L u W hG hdep => ⟨_, ?_, rfl⟩
    have e0 := (oE (.int .i64 0) hG hdep 0)
    go_simp
    try simp [bne]
  intro L6 u6b W6b hall hJ hG
  have hb := hJ.all rfl
  have hbel := Below.call hbel hb
  have hm5 := hm5.later hb
  have ht2 := there_later ht2 hb
  have ht5 := there_later ht5 hb
  have HKB := Lib.hid (HKB.out.below' hb)
  have HC32 := oC (.bool false) hG 1
  have hbel0 := hbel
  clear hJ hG hall hb
  have hx : u6b 1 = .bool false := HC32.out
  go_wp2_with fail
  rw [hx]
  clear hx
  go_upto_region 8 with fail
  refine rgT [(7, 3), (26, 0), (0, 1), (0, 2)] [.val rR [y], .val rR [y], .val rR [y * y], .new 16, .st 3 rR [y * y]] ?_ ?_
  ·intro hs
   refine ⟨?_, ?_, ?_, ?_, ?_, trivial⟩
   ·exact step_load q5 0 hs Wn rfl rfl tyFe (fun _ => E5.out) hm5.lt hm5 Na
   ·exact step_load q5 0 hs Wn rfl rfl tyFe (fun _ => E5.out) hm5.lt hm5 Na
   ·refine step_call hs Wn rfl fun L u W hJ hG hL hdep K hK => ?_
    have a0 := (vE rR [y] hG hdep 0)
    have a1 := (vE rR [y] hG hdep 1)
    go_simp
    go_at_call 78
    (with_reducible refine (kMul a0 a1 _).mono ?_); rintro e w1 ⟨r, rfl, hr, hb⟩
    exact hK.out _ _ hr hb
   ·exact step_alloc hs Wn rfl rfl (by omega) rfl allocFe
   ·exact step_store 3 hs (by kernel_rfl) Wn rfl rfl rfl (by kernel_rfl) (by kernel_rfl) (by kernel_rfl) (by kernel_rfl) (fun _ => rfl) (gO 2) tyFe rfl
  intro L8 u8b W8b hall hJ hG
  obtain ⟨q7, e7, hq7, _, ht7⟩ := oN 16 hG 3
  have hm7 := oS rR [y * y] hG 4 e7
  have HD7_q2 := Lib.hid (show q2 ≠ q7 by have := there_lt ht2 (by omega); omega)
  have HD7_q5 := Lib.hid (show q5 ≠ q7 by have := there_lt ht5 (by omega); omega)
  have hq7 : w.heap.size ≤ q7 := by have := hbel0.size; omega
  have E7 := Lib.hid e7; clear e7
  have hb := hJ.all rfl
  have hbel := Below.call hbel hb
  have hm5 := hm5.later hb
  have ht2 := there_later ht2 hb
  have ht5 := there_later ht5 hb
  have hbel0 := hbel
  clear hJ hG hall hb
  go_upto_region 9 with fail
  refine rgM [(8, 3), (28, 0), (0, 1), (0, 2)] [.val rR [y * y], .val rR [fn 1], .val rR [(y * y) - (fn 1)], .new 16, .st 3 rR [(y * y) - (fn 1)]] ?_ ?_
  ·intro hs
   refine ⟨?_, ?_, ?_, ?_, ?_, trivial⟩
   ·exact step_load q7 0 hs Wn rfl rfl tyFe (fun _ => E7.out) hm7.lt hm7 Na
   ·refine step_call hs Wn rfl fun L u W hJ hG hL hdep K hK => ?_
    go_simp
    go_at_call 77
    (with_reducible refine (kSmallI (n := 1) (z := 1) rfl (by omega) _).mono ?_); rintro e w1 ⟨r, rfl, hr, hb⟩
    exact hK.out _ _ hr hb
   ·refine step_call hs Wn rfl fun L u W hJ hG hL hdep K hK => ?_
    have a0 := (vE rR [y * y] hG hdep 0)
    have a1 := (vE rR [fn 1] hG hdep 1)
    go_simp
    go_at_call 101
    (with_reducible refine (kSub a0 a1 _).mono ?_); rintro e w1 ⟨r, rfl, hr, hb⟩
    exact hK.out _ _ hr hb
   ·exact step_alloc hs Wn rfl rfl (by omega) rfl allocFe
   ·exact step_store 3 hs (by kernel_rfl) Wn rfl rfl rfl (by kernel_rfl) (by kernel_rfl) (by kernel_rfl) (by kernel_rfl) (fun _ => rfl) (gO 2) tyFe rfl
  intro L9 u9b W9b hall hJ hG
  obtain ⟨q8, e8, hq8, _, ht8⟩ := oN 16 hG 3
  have hm8 := oS rR [(y * y) - (fn 1)] hG 4 e8
  have HD8_q2 := Lib.hid (show q2 ≠ q8 by have := there_lt ht2 (by omega); omega)
  have HD8_q5 := Lib.hid (show q5 ≠ q8 by have := there_lt ht5 (by omega); omega)
  have HD8_q7 := Lib.hid (show q7 ≠ q8 by have := there_lt ht7 (by omega); omega)
  have hq8 : w.heap.size ≤ q8 := by have := hbel0.size; omega
  have E8 := Lib.hid e8; clear e8
  have hb := hJ.all rfl
  have hbel := Below.call hbel hb
  have hm5 := hm5.later hb
  have hm7 := hm7.later hb
  have ht2 := there_later ht2 hb
  have ht5 := there_later ht5 hb
  have ht7 := there_later ht7 hb
  have hbel0 := hbel
  clear hJ hG hall hb
  go_upto_region 10 with fail
  refine rgM [(9, 5), (30, 0), (0, 1), (0, 2), (0, 3), (0, 4)] [.val rR [dE], .val rR [y * y], .val rR [dE * (y * y)], .val rR [fn 1], .val rR [(dE * (y * y)) + (fn 1)], .new 16, .st 5 rR [(dE * (y * y)) + (fn 1)]] ?_ ?_
  ·intro hs
   refine ⟨?_, ?_, ?_, ?_, ?_, ?_, ?_, trivial⟩
   ·refine step_call hs Wn rfl fun L u W hJ hG hL hdep K hK => ?_
    go_simp
    go_at_call 81
    (with_reducible refine (kCurve _).mono ?_); rintro e w1 ⟨r, rfl, hr, hb⟩
    exact hK.out _ _ hr hb
   ·exact step_load q7 0 hs Wn rfl rfl tyFe (fun _ => E7.out) hm7.lt hm7 Na
   ·refine step_call hs Wn rfl fun L u W hJ hG hL hdep K hK => ?_
    have a0 := (vE rR [dE] hG hdep 0)
    have a1 := (vE rR [y * y] hG hdep 1)
    go_simp
    go_at_call 78
    (with_reducible refine (kMul a0 a1 _).mono ?_); rintro e w1 ⟨r, rfl, hr, hb⟩
    exact hK.out _ _ hr hb
   ·refine step_call hs Wn rfl fun L u W hJ hG hL hdep K hK => ?_
    go_simp
    go_at_call 77
    (with_reducible refine (kSmallI (n := 1) (z := 1) rfl (by omega) _).mono ?_); rintro e w1 ⟨r, rfl, hr, hb⟩
    exact hK.out _ _ hr hb
   ·refine step_call hs Wn rfl fun L u W hJ hG hL hdep K hK => ?_
    have a0 := (vE rR [dE * (y * y)] hG hdep 2)
    have a1 := (vE rR [fn 1] hG hdep 3)
    go_simp
    go_at_call 102
    (with_reducible refine (kAdd a0 a1 _).mono ?_); rintro e w1 ⟨r, rfl, hr, hb⟩
    exact hK.out _ _ hr hb
   ·exact step_alloc hs Wn rfl rfl (by omega) rfl allocFe
   ·exact step_store 5 hs (by kernel_rfl) Wn rfl rfl rfl (by kernel_rfl) (by kernel_rfl) (by kernel_rfl) (by kernel_rfl) (fun _ => rfl) (gO 4) tyFe rfl
  intro L10 u10b W10b hall hJ hG
  obtain ⟨q9, e9, hq9, _, ht9⟩ := oN 16 hG 5
  have hm9 := oS rR [(dE * (y * y)) + (fn 1)] hG 6 e9
  have HD9_q2 := Lib.hid (show q2 ≠ q9 by have := there_lt ht2 (by omega); omega)
  have HD9_q5 := Lib.hid (show q5 ≠ q9 by have := there_lt ht5 (by omega); omega)
  have HD9_q7 := Lib.hid (show q7 ≠ q9 by have := there_lt ht7 (by omega); omega)
  have HD9_q8 := Lib.hid (show q8 ≠ q9 by have := there_lt ht8 (by omega); omega)
  have hq9 : w.heap.size ≤ q9 := by have := hbel0.size; omega
  have E9 := Lib.hid e9; clear e9
  have hb := hJ.all rfl
  have hbel := Below.call hbel hb
  have hm5 := hm5.later hb
  have hm7 := hm7.later hb
  have hm8 := hm8.later hb
  have ht2 := there_later ht2 hb
  have ht5 := there_later ht5 hb
  have ht7 := there_later ht7 hb
  have ht8 := there_later ht8 hb
  have hbel0 := hbel
  clear hJ hG hall hb
  obtain ⟨X, hX⟩ : ∃ X, rootV (xx y) = X := ⟨_, rfl⟩
  have HX := Lib.hid hX; clear hX
  by_cases hrc : rootC (xx y) = 0
  rotate_left
  ·have HR7 := Lib.hid hrc; have HRC := Lib.hid (root_7 hrc); clear hrc
   go_upto_region 11 with fail
   refine rgM [(10, 8), (0, 10), (33, 5), (0, 0), (0, 1), (0, 2), (0, 3), (0, 4), (0, 6), (0, 7)] [.val rR [(y * y) - (fn 1)], .val rR [(dE * (y * y)) + (fn 1)], .val rR [finv ((dE * (y * y)) + (fn 1))], .val rR [((y * y) - (fn 1)) * (finv ((dE * (y * y)) + (fn 1)))], .oth (fun v => IsTV rR v [X] (.int .i64 7)), .oth (fun v => IsTV rR v [X] (.int .i64 7)), .val rR [X], .oth (fun v => v = .int .i64 7), .new 16, .st 8 rR [X], .oth (fun v => v = .int .i64 7)] ?_ ?_
   ·intro hs
    refine ⟨?_, ?_, ?_, ?_, ?_, ?_, ?_, ?_, ?_, ?_, ?_, trivial⟩
    ·exact step_load q8 0 hs Wn rfl rfl tyFe (fun _ => E8.out) hm8.lt hm8 Na
    ·exact step_load q9 0 hs Wn rfl rfl tyFe (fun _ => E9.out) hm9.lt hm9 Na
    ·refine step_call hs Wn rfl fun L u W hJ hG hL hdep K hK => ?_
     have a0 := (vE rR [(dE * (y * y)) + (fn 1)] hG hdep 1)
     go_simp
     go_at_call 79
     (with_reducible refine (kInv a0 _).mono ?_); rintro e w1 ⟨r, rfl, hr, hb⟩
     exact hK.out _ _ hr hb
    ·refine step_call hs Wn rfl fun L u W hJ hG hL hdep K hK => ?_
     have a0 := (vE rR [(y * y) - (fn 1)] hG hdep 0)
     have a1 := (vE rR [finv ((dE * (y * y)) + (fn 1))] hG hdep 2)
     go_simp
     go_at_call 78
     (with_reducible refine (kMul a0 a1 _).mono ?_); rintro e w1 ⟨r, rfl, hr, hb⟩
     exact hK.out _ _ hr hb
    ·refine step_callO hs Wn rfl fun L u W hJ hG hL hdep K hK => ?_
     have a0 := xx_fsR ((vE rR [((y * y) - (fn 1)) * (finv ((dE * (y * y)) + (fn 1)))] hG hdep 3))
     go_simp
     go_at_call 103
     (with_reducible refine (rrootN HX.out HRC.out a0 _).mono ?_); rintro e w1 ⟨r, rfl, hr, hb⟩
     exact hK.out _ _ ⟨r, rfl, hr⟩ hb
    ·exact step_pureO hs Wn rfl fun L u W hG hdep => ⟨_, run_move rfl, (show IsTV rR (u 4) [X] (.int .i64 7) from hG 4 (hdep 4 (by kernel_rfl)))⟩
    ·exact step_pure hs Wn rfl fun L u W hG hdep => run_extractV0 rfl (show IsTV rR (u 5) [X] (.int .i64 7) from hG 5 (hdep 5 (by kernel_rfl)))
    ·exact step_pureO hs Wn rfl fun L u W hG hdep => run_extractV1 rfl (show IsTV rR (u 5) [X] (.int .i64 7) from hG 5 (hdep 5 (by kernel_rfl)))
    ·exact step_alloc hs Wn rfl rfl (by omega) rfl allocFe
    ·exact step_store 8 hs (by kernel_rfl) Wn rfl rfl rfl (by kernel_rfl) (by kernel_rfl) (by kernel_rfl) (by kernel_rfl) (fun _ => rfl) (gO 6) tyFe rfl
    ·exact mvO 7 hs
   intro L11 u11c W11c hall hJ hG
   obtain ⟨q10, e10, hq10, _, ht10⟩ := oN 16 hG 8
   have hm10 := oS rR [X] hG 9 e10
   have HD10_q2 := Lib.hid (show q2 ≠ q10 by have := there_lt ht2 (by omega); omega)
   have HD10_q5 := Lib.hid (show q5 ≠ q10 by have := there_lt ht5 (by omega); omega)
   have HD10_q7 := Lib.hid (show q7 ≠ q10 by have := there_lt ht7 (by omega); omega)
   have HD10_q8 := Lib.hid (show q8 ≠ q10 by have := there_lt ht8 (by omega); omega)
   have HD10_q9 := Lib.hid (show q9 ≠ q10 by have := there_lt ht9 (by omega); omega)
   have hq10 : w.heap.size ≤ q10 := by have := hbel0.size; omega
   have E10 := Lib.hid e10; clear e10
   have hb := hJ.all rfl
   have hbel := Below.call hbel hb
   have hm5 := hm5.later hb
   have hm7 := hm7.later hb
   have hm8 := hm8.later hb
   have hm9 := hm9.later hb
   have ht2 := there_later ht2 hb
   have ht5 := there_later ht5 hb
   have ht7 := there_later ht7 hb
   have ht8 := there_later ht8 hb
   have ht9 := there_later ht9 hb
   have HC11 := oC (.int .i64 7) hG 10
   have hbel0 := hbel
   clear hJ hG hall hb
   go_upto_region 12 with fail
   refine rgT [(12, 5), (40, 0), (0, 1), (0, 2), (0, 3), (0, 4)] [.oth (fun v => v = .slice (some ⟨bb, q, none⟩) 32 cap), .oth (fun v => v = .pointer (some ⟨bb, q + 31, none⟩)), .oth (fun v => v = .int .u8 (c.toNat : Int)), .oth (fun v => v = .int .u8 ((c.toNat : Int) / 128)), .oth (fun v => v = .bool o), .oth (fun v => v = .bool o)] ?_ ?_
   ·intro hs
    refine ⟨?_, ?_, ?_, ?_, ?_, ?_, trivial⟩
    ·exact mvK hs fun _ => rfl
    ·refine step_pureO hs Wn rfl fun L u W hG hdep => ⟨_, ?_, rfl⟩
     have e0 := (oE (.slice (some ⟨bb, q, none⟩) 32 cap) hG hdep 0)
     go_simp
    ·exact step_cell bb (q + 31) hs Wn rfl rfl (fun _ h => load_u8 h) (fun L u W hG hdep => (oE (.pointer (some ⟨bb, q + 31, none⟩)) hG hdep 1)) (cell_keep HCL.out hbel) Na
    ·refine step_pureO hs Wn rfl fun L u W hG hdep => ⟨_, ?_, rfl⟩
     have e0 := (oE (.int .u8 (c.toNat : Int)) hG hdep 2)
     go_simp
    ·refine step_pureO hs Wn rfl fun L u W hG hdep => ⟨_, ?_, rfl⟩
     have e0 := (oE (.int .u8 ((c.toNat : Int) / 128)) hG hdep 3)
     have e9 := HOB.out
     go_simp
     try exact e9
    ·exact mvO 4 hs
   intro L12 u12c W12c hall hJ hG
   have hb := hJ.all rfl
   have hbel := Below.call hbel hb
   have hm5 := hm5.later hb
   have hm7 := hm7.later hb
   have hm8 := hm8.later hb
   have hm9 := hm9.later hb
   have hm10 := hm10.later hb
   have ht2 := there_later ht2 hb
   have ht5 := there_later ht5 hb
   have ht7 := there_later ht7 hb
   have ht8 := there_later ht8 hb
   have ht9 := there_later ht9 hb
   have ht10 := there_later ht10 hb
   have HC57 := oC (.bool o) hG 4
   have HC12 := oC (.bool o) hG 5
   have hbel0 := hbel
   clear hJ hG hall hb
   go_upto_region 13 with fail
   refine rgT [(58, 0), (0, 1), (0, 2), (0, 3), (0, 4), (0, 5), (0, 6), (0, 7), (0, 8), (0, 9)] [.oth (fun v => v = .int .i64 7), .oth (fun v => v = .bool true), .oth (fun v => v = .bool true), .oth (fun v => v = undef), .oth (fun v => v = undef), .oth (fun v => v = undef), .oth (fun v => v = undef), .oth (fun v => v = undef), .oth (fun v => v = undef), .oth (fun v => v = .bool true)] ?_ ?_
   ·intro hs
    refine ⟨?_, ?_, ?_, ?_, ?_, ?_, ?_, ?_, ?_, ?_, trivial⟩
    ·exact mvK hs fun _ => HC11.out
    ·refine step_pureO hs Wn rfl fun L u W hG hdep => ⟨_, ?_, rfl⟩
     have e0 := (oE (.int .i64 7) hG hdep 0)
     go_simp
     try simp [bne]
    ·exact mvO 1 hs
    ·exact step_outU hs (wants_off 2 rfl rfl rfl (by kernel_rfl) (fun _ => rfl)) rfl
    ·exact step_outU hs (wants_off 2 rfl rfl rfl (by kernel_rfl) (fun _ => rfl)) rfl
    ·exact step_outU hs (wants_off 2 rfl rfl rfl (by kernel_rfl) (fun _ => rfl)) rfl
    ·exact step_outU hs (wants_off 2 rfl rfl rfl (by kernel_rfl) (fun _ => rfl)) rfl
    ·exact step_outU hs (wants_offU 6 rfl rfl (by kernel_rfl) (fun _ => rfl)) rfl
    ·exact step_outU hs (wants_off 2 rfl rfl rfl (by kernel_rfl) (fun _ => rfl)) rfl
    ·exact step_pick true hs Wn rfl rfl (fun L u W hG hdep => (oE (.bool true) hG hdep 2)) (fun L u W hG hdep => rfl)
   intro L13 u13c W13c hall hJ hG
   have hb := hJ.all rfl
   have hbel := Below.call hbel hb
   have hm5 := hm5.later hb
   have hm7 := hm7.later hb
   have hm8 := hm8.later hb
   have hm9 := hm9.later hb
   have hm10 := hm10.later hb
   have ht2 := there_later ht2 hb
   have ht5 := there_later ht5 hb
   have ht7 := there_later ht7 hb
   have ht8 := there_later ht8 hb
   have ht9 := there_later ht9 hb
   have ht10 := there_later ht10 hb
   have HC59 := oC (.bool true) hG 1
   have HC60 := oC (.bool true) hG 2
   have HC67 := oC (.bool true) hG 9
   have hbel0 := hbel
   clear hJ hG hall hb
   have hx : u13c 9 = .bool true := HC67.out
   go_wp2_with fail
   rw [hx]
   clear hx
   go_upto_region 14 with fail
   refine rgT [(3, 2), (64, 0)] [.val rQ [Cp.zero], .sto q2 rQ [Cp.zero], .oth (fun v => v = .int .i64 12)] ?_ ?_
   ·intro hs
    refine ⟨?_, ?_, ?_, trivial⟩
    ·refine step_call hs Wn rfl fun L u W hJ hG hL hdep K hK => ?_
     go_simp
     go_at_call 82
     (with_reducible refine (kZero _).mono ?_); rintro e w1 ⟨r, rfl, hr, hb⟩
     exact hK.out _ _ hr hb
    ·refine step_storeO q2 48 hs Wn rfl rfl (by kernel_rfl) (fun k hk => ?_) (fun _ => E2.out) (there_lt ht2 (by omega)) ht2 (gO 0) tyPt rfl
     rcases k with _ | _ | _ | k
     all_goals first | (exact absurd rfl hk) | (intro e; cases e; done)
    ·exact mvK hs fun _ => rfl
   intro L14 u14c W14c hall hJ hG
   have hb := hJ.beN hbel
   have hbel := hbel.trans hb
   have hm5 := kB hm5 hJ HD5_q2.out
   have hm7 := kB hm7 hJ HD7_q2.out
   have hm8 := kB hm8 hJ HD8_q2.out
   have hm9 := kB hm9 hJ HD9_q2.out
   have hm10 := kB hm10 hJ HD10_q2.out
   have ht5 := tB ht5 hJ HD5_q2.out
   have ht7 := tB ht7 hJ HD7_q2.out
   have ht8 := tB ht8 hJ HD8_q2.out
   have ht9 := tB ht9 hJ HD9_q2.out
   have ht10 := tB ht10 hJ HD10_q2.out
   obtain ⟨_, hs14_1t, hs14_1⟩ := oT 48 rQ [Cp.zero] hG 1
   have HC3 := oC (.int .i64 12) hG 2
   have hbel0 := hbel
   clear hJ hG hall hb
   go_wp2
   exact ret_cell_slot (R := rQ) Tryz.results46 (by exact E2.out) (by exact HC3.out) hs14_1 tyPt rfl (fun r hr => ⟨r, by rw [(dec_root HL.out HLW.out HY.out HR7.out).2], by rw [(dec_root HL.out HLW.out HY.out HR7.out).1]; exact hr, hbel⟩)
  ·have HRC := Lib.hid hrc; clear hrc
   go_upto_region 11 with fail
   refine rgM [(10, 8), (0, 10), (33, 5), (0, 0), (0, 1), (0, 2), (0, 3), (0, 4), (0, 6), (0, 7)] [.val rR [(y * y) - (fn 1)], .val rR [(dE * (y * y)) + (fn 1)], .val rR [finv ((dE * (y * y)) + (fn 1))], .val rR [((y * y) - (fn 1)) * (finv ((dE * (y * y)) + (fn 1)))], .oth (fun v => IsTV rR v [X] (.int .i64 0)), .oth (fun v => IsTV rR v [X] (.int .i64 0)), .val rR [X], .oth (fun v => v = .int .i64 0), .new 16, .st 8 rR [X], .oth (fun v => v = .int .i64 0)] ?_ ?_
   ·intro hs
    refine ⟨?_, ?_, ?_, ?_, ?_, ?_, ?_, ?_, ?_, ?_, ?_, trivial⟩
    ·exact step_load q8 0 hs Wn rfl rfl tyFe (fun _ => E8.out) hm8.lt hm8 Na
    ·exact step_load q9 0 hs Wn rfl rfl tyFe (fun _ => E9.out) hm9.lt hm9 Na
    ·refine step_call hs Wn rfl fun L u W hJ hG hL hdep K hK => ?_
     have a0 := (vE rR [(dE * (y * y)) + (fn 1)] hG hdep 1)
     go_simp
     go_at_call 79
     (with_reducible refine (kInv a0 _).mono ?_); rintro e w1 ⟨r, rfl, hr, hb⟩
     exact hK.out _ _ hr hb
    ·refine step_call hs Wn rfl fun L u W hJ hG hL hdep K hK => ?_
     have a0 := (vE rR [(y * y) - (fn 1)] hG hdep 0)
     have a1 := (vE rR [finv ((dE * (y * y)) + (fn 1))] hG hdep 2)
     go_simp
     go_at_call 78
     (with_reducible refine (kMul a0 a1 _).mono ?_); rintro e w1 ⟨r, rfl, hr, hb⟩
     exact hK.out _ _ hr hb
    ·refine step_callO hs Wn rfl fun L u W hJ hG hL hdep K hK => ?_
     have a0 := xx_fsR ((vE rR [((y * y) - (fn 1)) * (finv ((dE * (y * y)) + (fn 1)))] hG hdep 3))
     go_simp
     go_at_call 103
     (with_reducible refine (rrootN HX.out HRC.out a0 _).mono ?_); rintro e w1 ⟨r, rfl, hr, hb⟩
     exact hK.out _ _ ⟨r, rfl, hr⟩ hb
    ·exact step_pureO hs Wn rfl fun L u W hG hdep => ⟨_, run_move rfl, (show IsTV rR (u 4) [X] (.int .i64 0) from hG 4 (hdep 4 (by kernel_rfl)))⟩
    ·exact step_pure hs Wn rfl fun L u W hG hdep => run_extractV0 rfl (show IsTV rR (u 5) [X] (.int .i64 0) from hG 5 (hdep 5 (by kernel_rfl)))
    ·exact step_pureO hs Wn rfl fun L u W hG hdep => run_extractV1 rfl (show IsTV rR (u 5) [X] (.int .i64 0) from hG 5 (hdep 5 (by kernel_rfl)))
    ·exact step_alloc hs Wn rfl rfl (by omega) rfl allocFe
    ·exact step_store 8 hs (by kernel_rfl) Wn rfl rfl rfl (by kernel_rfl) (by kernel_rfl) (by kernel_rfl) (by kernel_rfl) (fun _ => rfl) (gO 6) tyFe rfl
    ·exact mvO 7 hs
   intro L11 u11d W11d hall hJ hG
   obtain ⟨q10, e10, hq10, _, ht10⟩ := oN 16 hG 8
   have hm10 := oS rR [X] hG 9 e10
   have HD10_q2 := Lib.hid (show q2 ≠ q10 by have := there_lt ht2 (by omega); omega)
   have HD10_q5 := Lib.hid (show q5 ≠ q10 by have := there_lt ht5 (by omega); omega)
   have HD10_q7 := Lib.hid (show q7 ≠ q10 by have := there_lt ht7 (by omega); omega)
   have HD10_q8 := Lib.hid (show q8 ≠ q10 by have := there_lt ht8 (by omega); omega)
   have HD10_q9 := Lib.hid (show q9 ≠ q10 by have := there_lt ht9 (by omega); omega)
   have hq10 : w.heap.size ≤ q10 := by have := hbel0.size; omega
   have E10 := Lib.hid e10; clear e10
   have hb := hJ.all rfl
   have hbel := Below.call hbel hb
   have hm5 := hm5.later hb
   have hm7 := hm7.later hb
   have hm8 := hm8.later hb
   have hm9 := hm9.later hb
   have ht2 := there_later ht2 hb
   have ht5 := there_later ht5 hb
   have ht7 := there_later ht7 hb
   have ht8 := there_later ht8 hb
   have ht9 := there_later ht9 hb
   have HC11 := oC (.int .i64 0) hG 10
   have hbel0 := hbel
   clear hJ hG hall hb
   go_upto_region 12 with fail
   refine rgT [(12, 5), (40, 0), (0, 1), (0, 2), (0, 3), (0, 4)] [.oth (fun v => v = .slice (some ⟨bb, q, none⟩) 32 cap), .oth (fun v => v = .pointer (some ⟨bb, q + 31, none⟩)), .oth (fun v => v = .int .u8 (c.toNat : Int)), .oth (fun v => v = .int .u8 ((c.toNat : Int) / 128)), .oth (fun v => v = .bool o), .oth (fun v => v = .bool o)] ?_ ?_
   ·intro hs
    refine ⟨?_, ?_, ?_, ?_, ?_, ?_, trivial⟩
    ·exact mvK hs fun _ => rfl
    ·refine step_pureO hs Wn rfl fun L u W hG hdep => ⟨_, ?_, rfl⟩
     have e0 := (oE (.slice (some ⟨bb, q, none⟩) 32 cap) hG hdep 0)
     go_simp
    ·exact step_cell bb (q + 31) hs Wn rfl rfl (fun _ h => load_u8 h) (fun L u W hG hdep => (oE (.pointer (some ⟨bb, q + 31, none⟩)) hG hdep 1)) (cell_keep HCL.out hbel) Na
    ·refine step_pureO hs Wn rfl fun L u W hG hdep => ⟨_, ?_, rfl⟩
     have e0 := (oE (.int .u8 (c.toNat : Int)) hG hdep 2)
     go_simp
    ·refine step_pureO hs Wn rfl fun L u W hG hdep => ⟨_, ?_, rfl⟩
     have e0 := (oE (.int .u8 ((c.toNat : Int) / 128)) hG hdep 3)
     have e9 := HOB.out
     go_simp
     try exact e9
    ·exact mvO 4 hs
   intro L12 u12d W12d hall hJ hG
   have hb := hJ.all rfl
   have hbel := Below.call hbel hb
   have hm5 := hm5.later hb
   have hm7 := hm7.later hb
   have hm8 := hm8.later hb
   have hm9 := hm9.later hb
   have hm10 := hm10.later hb
   have ht2 := there_later ht2 hb
   have ht5 := there_later ht5 hb
   have ht7 := there_later ht7 hb
   have ht8 := there_later ht8 hb
   have ht9 := there_later ht9 hb
   have ht10 := there_later ht10 hb
   have HC57 := oC (.bool o) hG 4
   have HC12 := oC (.bool o) hG 5
   have hbel0 := hbel
   clear hJ hG hall hb
   cases o
   ·skip
    by_cases hx0 : X = 0
    ·have HX0 := Lib.hid hx0; clear hx0
     go_upto_region 13 with fail
     refine rgT [(58, 0), (0, 1), (0, 2), (0, 3), (0, 4), (0, 5), (0, 6), (0, 7), (0, 8), (0, 9)] [.oth (fun v => v = .int .i64 0), .oth (fun v => v = .bool false), .oth (fun v => v = .bool false), .val rR [X], .val rR [0], .oth (fun v => v = .bool true), .oth (fun v => v = .bool true), .oth (fun v => v = .bool false), .oth (fun v => v = .bool false), .oth (fun v => v = .bool false)] ?_ ?_
     ·intro hs
      refine ⟨?_, ?_, ?_, ?_, ?_, ?_, ?_, ?_, ?_, ?_, trivial⟩
      ·exact mvK hs fun _ => HC11.out
      ·refine step_pureO hs Wn rfl fun L u W hG hdep => ⟨_, ?_, rfl⟩
       have e0 := (oE (.int .i64 0) hG hdep 0)
       go_simp
       try simp [bne]
      ·exact mvO 1 hs
      ·exact step_load q10 0 hs (wants_on 2 rfl rfl (by kernel_rfl) (fun _ => rfl)) rfl rfl tyFe (fun _ => E10.out) hm10.lt hm10 Na
      ·exact step_pure hs (wants_on 2 rfl rfl (by kernel_rfl) (fun _ => rfl)) rfl fun L u W hG hdep => run_build0 rfl (buildFe0 W)
      ·exact step_pureO hs (wants_on 2 rfl rfl (by kernel_rfl) (fun _ => rfl)) rfl fun L u W hG hdep => ⟨_, run_eqlR rfl (vE rR [X] hG hdep 3) (vE rR [0] hG hdep 4), by rw [decide_eq_true HX0.out]⟩
      ·exact step_pureO hs (wants_on 2 rfl rfl (by kernel_rfl) (fun _ => rfl)) rfl fun L u W hG hdep => ⟨_, run_move rfl, (oE (.bool true) hG hdep 5)⟩
      ·exact step_pureO hs (wants_on 6 rfl rfl (by kernel_rfl) (fun _ => rfl)) rfl fun L u W hG hdep => ⟨_, run_move rfl, HC12.out⟩
      ·exact step_pick true hs (wants_on 2 rfl rfl (by kernel_rfl) (fun _ => rfl)) rfl rfl (fun L u W hG hdep => (oE (.bool true) hG hdep 6)) (fun L u W hG hdep => (oE (.bool false) hG hdep 7))
      ·exact step_pick false hs Wn rfl rfl (fun L u W hG hdep => (oE (.bool false) hG hdep 2)) (fun L u W hG hdep => (oE (.bool false) hG hdep 8))
     intro L13 u13e W13e hall hJ hG
     have hb := hJ.all rfl
     have hbel := Below.call hbel hb
     have hm5 := hm5.later hb
     have hm7 := hm7.later hb
     have hm8 := hm8.later hb
     have hm9 := hm9.later hb
     have hm10 := hm10.later hb
     have ht2 := there_later ht2 hb
     have ht5 := there_later ht5 hb
     have ht7 := there_later ht7 hb
     have ht8 := there_later ht8 hb
     have ht9 := there_later ht9 hb
     have ht10 := there_later ht10 hb
     have HC59 := oC (.bool false) hG 1
     have HC60 := oC (.bool false) hG 2
     have HC63 := oC (.bool true) hG 5
     have HC64 := oC (.bool true) hG 6
     have HC65 := oC (.bool false) hG 7
     have HC66 := oC (.bool false) hG 8
     have HC67 := oC (.bool false) hG 9
     have hbel0 := hbel
     clear hJ hG hall hb
     have hx : u13e 9 = .bool false := HC67.out
     go_wp2_with fail
     rw [hx]
     clear hx
     go_upto_region 15 with fail
     refine rgT [(69, 0)] [.oth (fun v => v = .bool false)] ?_ ?_
     ·intro hs
      refine ⟨?_, trivial⟩
      ·exact mvK hs fun _ => HC12.out
     intro L15 u15e W15e hall hJ hG
     have hb := hJ.all rfl
     have hbel := Below.call hbel hb
     have hm5 := hm5.later hb
     have hm7 := hm7.later hb
     have hm8 := hm8.later hb
     have hm9 := hm9.later hb
     have hm10 := hm10.later hb
     have ht2 := there_later ht2 hb
     have ht5 := there_later ht5 hb
     have ht7 := there_later ht7 hb
     have ht8 := there_later ht8 hb
     have ht9 := there_later ht9 hb
     have ht10 := there_later ht10 hb
     have HC69 := oC (.bool false) hG 0
     have hbel0 := hbel
     clear hJ hG hall hb
     have hx : u15e 0 = .bool false := HC69.out
     go_wp2_with fail
     rw [hx]
     clear hx
     go_upto_region 17 with fail
     refine rgM [(3, 5), (68, 0), (0, 1), (0, 2), (0, 3)] [.val rR [X], .val rR [y], .val rR [fn 1], .val rR [X, y, fn 1], .sto q2 rR [X, y, fn 1], .oth (fun v => v = .int .i64 0)] ?_ ?_
     ·intro hs
      refine ⟨?_, ?_, ?_, ?_, ?_, ?_, trivial⟩
      ·exact step_load q10 0 hs Wn rfl rfl tyFe (fun _ => E10.out) hm10.lt hm10 (apN HD10_q2.out)
      ·exact step_load q5 0 hs Wn rfl rfl tyFe (fun _ => E5.out) hm5.lt hm5 (apN HD5_q2.out)
      ·refine step_call hs Wn rfl fun L u W hJ hG hL hdep K hK => ?_
       go_simp
       go_at_call 77
       (with_reducible refine (kSmallI (n := 1) (z := 1) rfl (by omega) _).mono ?_); rintro e w1 ⟨r, rfl, hr, hb⟩
       exact hK.out _ _ hr hb
      ·refine step_pure hs Wn rfl fun L u W hG hdep => ?_
       have a0 := (vE rR [X] hG hdep 0)
       have a1 := (vE rR [y] hG hdep 1)
       have a2 := (vE rR [fn 1] hG hdep 2)
       obtain ⟨r, hr, hx⟩ := build_Pt a0 a1 a2 W
       exact ⟨r, run_build3 rfl hr, hx⟩
      ·refine step_storeO q2 48 hs Wn rfl rfl (by kernel_rfl) (fun k hk => ?_) (fun _ => E2.out) (there_lt ht2 (by omega)) ht2 (gO 3) tyPt3 rfl
       rcases k with _ | _ | _ | _ | _ | _ | k
       all_goals first | (exact absurd rfl hk) | (intro e; cases e; done)
      ·exact mvK hs fun _ => rfl
     intro L17 u17e W17e hall hJ hG
     have hb := hJ.beN hbel
     have hbel := hbel.trans hb
     have hm5 := kB hm5 hJ HD5_q2.out
     have hm7 := kB hm7 hJ HD7_q2.out
     have hm8 := kB hm8 hJ HD8_q2.out
     have hm9 := kB hm9 hJ HD9_q2.out
     have hm10 := kB hm10 hJ HD10_q2.out
     have ht5 := tB ht5 hJ HD5_q2.out
     have ht7 := tB ht7 hJ HD7_q2.out
     have ht8 := tB ht8 hJ HD8_q2.out
     have ht9 := tB ht9 hJ HD9_q2.out
     have ht10 := tB ht10 hJ HD10_q2.out
     obtain ⟨_, hs17_4t, hs17_4⟩ := oT 48 rR [X, y, fn 1] hG 4
     have HC3 := oC (.int .i64 0) hG 5
     have hbel0 := hbel
     clear hJ hG hall hb
     go_wp2
     exact ret_cell_slot (R := rR) Tryz.results46 (by exact E2.out) (by exact HC3.out) hs17_4 tyPt3 rfl (fun r hr => ⟨r, by rw [(dec_yes HL.out HLW.out HY.out HRC.out HS.out (fun k => by cases k.1)).1], isQ hr (dec_prep (by rw [(dec_yes HL.out HLW.out HY.out HRC.out HS.out (fun k => by cases k.1)).2.1, HX.out]; rfl) (dec_yes HL.out HLW.out HY.out HRC.out HS.out (fun k => by cases k.1)).2.2), hbel⟩)
    ·have HX0 := Lib.hid hx0; clear hx0
     go_upto_region 13 with fail
     refine rgT [(58, 0), (0, 1), (0, 2), (0, 3), (0, 4), (0, 5), (0, 6), (0, 7), (0, 8), (0, 9)] [.oth (fun v => v = .int .i64 0), .oth (fun v => v = .bool false), .oth (fun v => v = .bool false), .val rR [X], .val rR [0], .oth (fun v => v = .bool false), .oth (fun v => v = .bool false), .oth (fun v => v = undef), .oth (fun v => v = .bool false), .oth (fun v => v = .bool false)] ?_ ?_
     ·intro hs
      refine ⟨?_, ?_, ?_, ?_, ?_, ?_, ?_, ?_, ?_, ?_, trivial⟩
      ·exact mvK hs fun _ => HC11.out
      ·refine step_pureO hs Wn rfl fun L u W hG hdep => ⟨_, ?_, rfl⟩
       have e0 := (oE (.int .i64 0) hG hdep 0)
       go_simp
       try simp [bne]
      ·exact mvO 1 hs
      ·exact step_load q10 0 hs (wants_on 2 rfl rfl (by kernel_rfl) (fun _ => rfl)) rfl rfl tyFe (fun _ => E10.out) hm10.lt hm10 Na
      ·exact step_pure hs (wants_on 2 rfl rfl (by kernel_rfl) (fun _ => rfl)) rfl fun L u W hG hdep => run_build0 rfl (buildFe0 W)
      ·exact step_pureO hs (wants_on 2 rfl rfl (by kernel_rfl) (fun _ => rfl)) rfl fun L u W hG hdep => ⟨_, run_eqlR rfl (vE rR [X] hG hdep 3) (vE rR [0] hG hdep 4), by rw [decide_eq_false HX0.out]⟩
      ·exact step_pureO hs (wants_on 2 rfl rfl (by kernel_rfl) (fun _ => rfl)) rfl fun L u W hG hdep => ⟨_, run_move rfl, (oE (.bool false) hG hdep 5)⟩
      ·exact step_outU hs (wants_off 6 rfl rfl rfl (by kernel_rfl) (fun _ => rfl)) rfl
      ·exact step_pick false hs (wants_on 2 rfl rfl (by kernel_rfl) (fun _ => rfl)) rfl rfl (fun L u W hG hdep => (oE (.bool false) hG hdep 6)) (fun L u W hG hdep => rfl)
      ·exact step_pick false hs Wn rfl rfl (fun L u W hG hdep => (oE (.bool false) hG hdep 2)) (fun L u W hG hdep => (oE (.bool false) hG hdep 8))
     intro L13 u13f W13f hall hJ hG
     have hb := hJ.all rfl
     have hbel := Below.call hbel hb
     have hm5 := hm5.later hb
     have hm7 := hm7.later hb
     have hm8 := hm8.later hb
     have hm9 := hm9.later hb
     have hm10 := hm10.later hb
     have ht2 := there_later ht2 hb
     have ht5 := there_later ht5 hb
     have ht7 := there_later ht7 hb
     have ht8 := there_later ht8 hb
     have ht9 := there_later ht9 hb
     have ht10 := there_later ht10 hb
     have HC59 := oC (.bool false) hG 1
     have HC60 := oC (.bool false) hG 2
     have HC63 := oC (.bool false) hG 5
     have HC64 := oC (.bool false) hG 6
     have HC66 := oC (.bool false) hG 8
     have HC67 := oC (.bool false) hG 9
     have hbel0 := hbel
     clear hJ hG hall hb
     have hx : u13f 9 = .bool false := HC67.out
     go_wp2_with fail
     rw [hx]
     clear hx
     go_upto_region 15 with fail
     refine rgT [(69, 0)] [.oth (fun v => v = .bool false)] ?_ ?_
     ·intro hs
      refine ⟨?_, trivial⟩
      ·exact mvK hs fun _ => HC12.out
     intro L15 u15f W15f hall hJ hG
     have hb := hJ.all rfl
     have hbel := Below.call hbel hb
     have hm5 := hm5.later hb
     have hm7 := hm7.later hb
     have hm8 := hm8.later hb
     have hm9 := hm9.later hb
     have hm10 := hm10.later hb
     have ht2 := there_later ht2 hb
     have ht5 := there_later ht5 hb
     have ht7 := there_later ht7 hb
     have ht8 := there_later ht8 hb
     have ht9 := there_later ht9 hb
     have ht10 := there_later ht10 hb
     have HC69 := oC (.bool false) hG 0
     have hbel0 := hbel
     clear hJ hG hall hb
     have hx : u15f 0 = .bool false := HC69.out
     go_wp2_with fail
     rw [hx]
     clear hx
     go_upto_region 17 with fail
     refine rgM [(3, 5), (68, 0), (0, 1), (0, 2), (0, 3)] [.val rR [X], .val rR [y], .val rR [fn 1], .val rR [X, y, fn 1], .sto q2 rR [X, y, fn 1], .oth (fun v => v = .int .i64 0)] ?_ ?_
     ·intro hs
      refine ⟨?_, ?_, ?_, ?_, ?_, ?_, trivial⟩
      ·exact step_load q10 0 hs Wn rfl rfl tyFe (fun _ => E10.out) hm10.lt hm10 (apN HD10_q2.out)
      ·exact step_load q5 0 hs Wn rfl rfl tyFe (fun _ => E5.out) hm5.lt hm5 (apN HD5_q2.out)
      ·refine step_call hs Wn rfl fun L u W hJ hG hL hdep K hK => ?_
       go_simp
       go_at_call 77
       (with_reducible refine (kSmallI (n := 1) (z := 1) rfl (by omega) _).mono ?_); rintro e w1 ⟨r, rfl, hr, hb⟩
       exact hK.out _ _ hr hb
      ·refine step_pure hs Wn rfl fun L u W hG hdep => ?_
       have a0 := (vE rR [X] hG hdep 0)
       have a1 := (vE rR [y] hG hdep 1)
       have a2 := (vE rR [fn 1] hG hdep 2)
       obtain ⟨r, hr, hx⟩ := build_Pt a0 a1 a2 W
       exact ⟨r, run_build3 rfl hr, hx⟩
      ·refine step_storeO q2 48 hs Wn rfl rfl (by kernel_rfl) (fun k hk => ?_) (fun _ => E2.out) (there_lt ht2 (by omega)) ht2 (gO 3) tyPt3 rfl
       rcases k with _ | _ | _ | _ | _ | _ | k
       all_goals first | (exact absurd rfl hk) | (intro e; cases e; done)
      ·exact mvK hs fun _ => rfl
     intro L17 u17f W17f hall hJ hG
     have hb := hJ.beN hbel
     have hbel := hbel.trans hb
     have hm5 := kB hm5 hJ HD5_q2.out
     have hm7 := kB hm7 hJ HD7_q2.out
     have hm8 := kB hm8 hJ HD8_q2.out
     have hm9 := kB hm9 hJ HD9_q2.out
     have hm10 := kB hm10 hJ HD10_q2.out
     have ht5 := tB ht5 hJ HD5_q2.out
     have ht7 := tB ht7 hJ HD7_q2.out
     have ht8 := tB ht8 hJ HD8_q2.out
     have ht9 := tB ht9 hJ HD9_q2.out
     have ht10 := tB ht10 hJ HD10_q2.out
     obtain ⟨_, hs17_4t, hs17_4⟩ := oT 48 rR [X, y, fn 1] hG 4
     have HC3 := oC (.int .i64 0) hG 5
     have hbel0 := hbel
     clear hJ hG hall hb
     go_wp2
     exact ret_cell_slot (R := rR) Tryz.results46 (by exact E2.out) (by exact HC3.out) hs17_4 tyPt3 rfl (fun r hr => ⟨r, by rw [(dec_yes HL.out HLW.out HY.out HRC.out HS.out (fun k => HX0.out (HX.out.symm.trans k.2))).1], isQ hr (dec_prep (by rw [(dec_yes HL.out HLW.out HY.out HRC.out HS.out (fun k => HX0.out (HX.out.symm.trans k.2))).2.1, HX.out]; rfl) (dec_yes HL.out HLW.out HY.out HRC.out HS.out (fun k => HX0.out (HX.out.symm.trans k.2))).2.2), hbel⟩)
   ·skip
    by_cases hx0 : X = 0
    ·have HX0 := Lib.hid hx0; clear hx0
     go_upto_region 13 with fail
     refine rgT [(58, 0), (0, 1), (0, 2), (0, 3), (0, 4), (0, 5), (0, 6), (0, 7), (0, 8), (0, 9)] [.oth (fun v => v = .int .i64 0), .oth (fun v => v = .bool false), .oth (fun v => v = .bool false), .val rR [X], .val rR [0], .oth (fun v => v = .bool true), .oth (fun v => v = .bool true), .oth (fun v => v = .bool true), .oth (fun v => v = .bool true), .oth (fun v => v = .bool true)] ?_ ?_
     ·intro hs
      refine ⟨?_, ?_, ?_, ?_, ?_, ?_, ?_, ?_, ?_, ?_, trivial⟩
      ·exact mvK hs fun _ => HC11.out
      ·refine step_pureO hs Wn rfl fun L u W hG hdep => ⟨_, ?_, rfl⟩
       have e0 := (oE (.int .i64 0) hG hdep 0)
       go_simp
       try simp [bne]
      ·exact mvO 1 hs
      ·exact step_load q10 0 hs (wants_on 2 rfl rfl (by kernel_rfl) (fun _ => rfl)) rfl rfl tyFe (fun _ => E10.out) hm10.lt hm10 Na
      ·exact step_pure hs (wants_on 2 rfl rfl (by kernel_rfl) (fun _ => rfl)) rfl fun L u W hG hdep => run_build0 rfl (buildFe0 W)
      ·exact step_pureO hs (wants_on 2 rfl rfl (by kernel_rfl) (fun _ => rfl)) rfl fun L u W hG hdep => ⟨_, run_eqlR rfl (vE rR [X] hG hdep 3) (vE rR [0] hG hdep 4), by rw [decide_eq_true HX0.out]⟩
      ·exact step_pureO hs (wants_on 2 rfl rfl (by kernel_rfl) (fun _ => rfl)) rfl fun L u W hG hdep => ⟨_, run_move rfl, (oE (.bool true) hG hdep 5)⟩
      ·exact step_pureO hs (wants_on 6 rfl rfl (by kernel_rfl) (fun _ => rfl)) rfl fun L u W hG hdep => ⟨_, run_move rfl, HC12.out⟩
      ·exact step_pick true hs (wants_on 2 rfl rfl (by kernel_rfl) (fun _ => rfl)) rfl rfl (fun L u W hG hdep => (oE (.bool true) hG hdep 6)) (fun L u W hG hdep => (oE (.bool true) hG hdep 7))
      ·exact step_pick false hs Wn rfl rfl (fun L u W hG hdep => (oE (.bool false) hG hdep 2)) (fun L u W hG hdep => (oE (.bool true) hG hdep 8))
     intro L13 u13e W13e hall hJ hG
     have hb := hJ.all rfl
     have hbel := Below.call hbel hb
     have hm5 := hm5.later hb
     have hm7 := hm7.later hb
     have hm8 := hm8.later hb
     have hm9 := hm9.later hb
     have hm10 := hm10.later hb
     have ht2 := there_later ht2 hb
     have ht5 := there_later ht5 hb
     have ht7 := there_later ht7 hb
     have ht8 := there_later ht8 hb
     have ht9 := there_later ht9 hb
     have ht10 := there_later ht10 hb
     have HC59 := oC (.bool false) hG 1
     have HC60 := oC (.bool false) hG 2
     have HC63 := oC (.bool true) hG 5
     have HC64 := oC (.bool true) hG 6
     have HC65 := oC (.bool true) hG 7
     have HC66 := oC (.bool true) hG 8
     have HC67 := oC (.bool true) hG 9
     have hbel0 := hbel
     clear hJ hG hall hb
     have hx : u13e 9 = .bool true := HC67.out
     go_wp2_with fail
     rw [hx]
     clear hx
     go_upto_region 14 with fail
     refine rgT [(3, 2), (64, 0)] [.val rQ [Cp.zero], .sto q2 rQ [Cp.zero], .oth (fun v => v = .int .i64 12)] ?_ ?_
     ·intro hs
      refine ⟨?_, ?_, ?_, trivial⟩
      ·refine step_call hs Wn rfl fun L u W hJ hG hL hdep K hK => ?_
       go_simp
       go_at_call 82
       (with_reducible refine (kZero _).mono ?_); rintro e w1 ⟨r, rfl, hr, hb⟩
       exact hK.out _ _ hr hb
      ·refine step_storeO q2 48 hs Wn rfl rfl (by kernel_rfl) (fun k hk => ?_) (fun _ => E2.out) (there_lt ht2 (by omega)) ht2 (gO 0) tyPt rfl
       rcases k with _ | _ | _ | k
       all_goals first | (exact absurd rfl hk) | (intro e; cases e; done)
      ·exact mvK hs fun _ => rfl
     intro L14 u14e W14e hall hJ hG
     have hb := hJ.beN hbel
     have hbel := hbel.trans hb
     have hm5 := kB hm5 hJ HD5_q2.out
     have hm7 := kB hm7 hJ HD7_q2.out
     have hm8 := kB hm8 hJ HD8_q2.out
     have hm9 := kB hm9 hJ HD9_q2.out
     have hm10 := kB hm10 hJ HD10_q2.out
     have ht5 := tB ht5 hJ HD5_q2.out
     have ht7 := tB ht7 hJ HD7_q2.out
     have ht8 := tB ht8 hJ HD8_q2.out
     have ht9 := tB ht9 hJ HD9_q2.out
     have ht10 := tB ht10 hJ HD10_q2.out
     obtain ⟨_, hs14_1t, hs14_1⟩ := oT 48 rQ [Cp.zero] hG 1
     have HC3 := oC (.int .i64 12) hG 2
     have hbel0 := hbel
     clear hJ hG hall hb
     go_wp2
     exact ret_cell_slot (R := rQ) Tryz.results46 (by exact E2.out) (by exact HC3.out) hs14_1 tyPt rfl (fun r hr => ⟨r, by rw [(dec_sgn HL.out HLW.out HY.out HRC.out HS.out (HX.out.trans HX0.out)).2], by rw [(dec_sgn HL.out HLW.out HY.out HRC.out HS.out (HX.out.trans HX0.out)).1]; exact hr, hbel⟩)
    ·have HX0 := Lib.hid hx0; clear hx0
     go_upto_region 13 with fail
     refine rgT [(58, 0), (0, 1), (0, 2), (0, 3), (0, 4), (0, 5), (0, 6), (0, 7), (0, 8), (0, 9)] [.oth (fun v => v = .int .i64 0), .oth (fun v => v = .bool false), .oth (fun v => v = .bool false), .val rR [X], .val rR [0], .oth (fun v => v = .bool false), .oth (fun v => v = .bool false), .oth (fun v => v = undef), .oth (fun v => v = .bool false), .oth (fun v => v = .bool false)] ?_ ?_
     ·intro hs
      refine ⟨?_, ?_, ?_, ?_, ?_, ?_, ?_, ?_, ?_, ?_, trivial⟩
      ·exact mvK hs fun _ => HC11.out
      ·refine step_pureO hs Wn rfl fun L u W hG hdep => ⟨_, ?_, rfl⟩
       have e0 := (oE (.int .i64 0) hG hdep 0)
       go_simp
       try simp [bne]
      ·exact mvO 1 hs
      ·exact step_load q10 0 hs (wants_on 2 rfl rfl (by kernel_rfl) (fun _ => rfl)) rfl rfl tyFe (fun _ => E10.out) hm10.lt hm10 Na
      ·exact step_pure hs (wants_on 2 rfl rfl (by kernel_rfl) (fun _ => rfl)) rfl fun L u W hG hdep => run_build0 rfl (buildFe0 W)
      ·exact step_pureO hs (wants_on 2 rfl rfl (by kernel_rfl) (fun _ => rfl)) rfl fun L u W hG hdep => ⟨_, run_eqlR rfl (vE rR [X] hG hdep 3) (vE rR [0] hG hdep 4), by rw [decide_eq_false HX0.out]⟩
      ·exact step_pureO hs (wants_on 2 rfl rfl (by kernel_rfl) (fun _ => rfl)) rfl fun L u W hG hdep => ⟨_, run_move rfl, (oE (.bool false) hG hdep 5)⟩
      ·exact step_outU hs (wants_off 6 rfl rfl rfl (by kernel_rfl) (fun _ => rfl)) rfl
      ·exact step_pick false hs (wants_on 2 rfl rfl (by kernel_rfl) (fun _ => rfl)) rfl rfl (fun L u W hG hdep => (oE (.bool false) hG hdep 6)) (fun L u W hG hdep => rfl)
      ·exact step_pick false hs Wn rfl rfl (fun L u W hG hdep => (oE (.bool false) hG hdep 2)) (fun L u W hG hdep => (oE (.bool false) hG hdep 8))
     intro L13 u13f W13f hall hJ hG
     have hb := hJ.all rfl
     have hbel := Below.call hbel hb
     have hm5 := hm5.later hb
     have hm7 := hm7.later hb
     have hm8 := hm8.later hb
     have hm9 := hm9.later hb
     have hm10 := hm10.later hb
     have ht2 := there_later ht2 hb
     have ht5 := there_later ht5 hb
     have ht7 := there_later ht7 hb
     have ht8 := there_later ht8 hb
     have ht9 := there_later ht9 hb
     have ht10 := there_later ht10 hb
     have HC59 := oC (.bool false) hG 1
     have HC60 := oC (.bool false) hG 2
     have HC63 := oC (.bool false) hG 5
     have HC64 := oC (.bool false) hG 6
     have HC66 := oC (.bool false) hG 8
     have HC67 := oC (.bool false) hG 9
     have hbel0 := hbel
     clear hJ hG hall hb
     have hx : u13f 9 = .bool false := HC67.out
     go_wp2_with fail
     rw [hx]
     clear hx
     go_upto_region 15 with fail
     refine rgT [(69, 0)] [.oth (fun v => v = .bool true)] ?_ ?_
     ·intro hs
      refine ⟨?_, trivial⟩
      ·exact mvK hs fun _ => HC12.out
     intro L15 u15f W15f hall hJ hG
     have hb := hJ.all rfl
     have hbel := Below.call hbel hb
     have hm5 := hm5.later hb
     have hm7 := hm7.later hb
     have hm8 := hm8.later hb
     have hm9 := hm9.later hb
     have hm10 := hm10.later hb
     have ht2 := there_later ht2 hb
     have ht5 := there_later ht5 hb
     have ht7 := there_later ht7 hb
     have ht8 := there_later ht8 hb
     have ht9 := there_later ht9 hb
     have ht10 := there_later ht10 hb
     have HC69 := oC (.bool true) hG 0
     have hbel0 := hbel
     clear hJ hG hall hb
     have hx : u15f 0 = .bool true := HC69.out
     go_wp2_with fail
     rw [hx]
     clear hx
     go_upto_region 16 with fail
     refine rgT [(70, 0), (0, 1)] [.val rR [X], .val rR [-X], .sto q10 rR [-X]] ?_ ?_
     ·intro hs
      refine ⟨?_, ?_, ?_, trivial⟩
      ·exact step_load q10 0 hs Wn rfl rfl tyFe (fun _ => E10.out) hm10.lt hm10 Na
      ·refine step_call hs Wn rfl fun L u W hJ hG hL hdep K hK => ?_
       have a0 := (vE rR [X] hG hdep 0)
       go_simp
       go_at_call 104
       (with_reducible refine (kNeg a0 _).mono ?_); rintro e w1 ⟨r, rfl, hr, hb⟩
       exact hK.out _ _ hr hb
      ·refine step_storeO q10 16 hs Wn rfl rfl (by kernel_rfl) (fun k hk => ?_) (fun _ => E10.out) (there_lt ht10 (by omega)) ht10 (gO 1) tyFe rfl
       rcases k with _ | _ | _ | k
       all_goals first | (exact absurd rfl hk) | (intro e; cases e; done)
     intro L16 u16f W16f hall hJ hG
     have hb := hJ.beN hbel
     have hbel := hbel.trans hb
     have hm5 := kC hm5 hJ HD10_q5.out
     have hm7 := kC hm7 hJ HD10_q7.out
     have hm8 := kC hm8 hJ HD10_q8.out
     have hm9 := kC hm9 hJ HD10_q9.out
     have ht2 := tC ht2 hJ HD10_q2.out
     have ht5 := tC ht5 hJ HD10_q5.out
     have ht7 := tC ht7 hJ HD10_q7.out
     have ht8 := tC ht8 hJ HD10_q8.out
     have ht9 := tC ht9 hJ HD10_q9.out
     obtain ⟨_, hs16_2t, hs16_2⟩ := oT 16 rR [-X] hG 2
     have hbel0 := hbel
     clear hJ hG hall hb
     go_upto_region 17 with fail
     refine rgM [(3, 5), (68, 0), (0, 1), (0, 2), (0, 3)] [.val rR [-X], .val rR [y], .val rR [fn 1], .val rR [-X, y, fn 1], .sto q2 rR [-X, y, fn 1], .oth (fun v => v = .int .i64 0)] ?_ ?_
     ·intro hs
      refine ⟨?_, ?_, ?_, ?_, ?_, ?_, trivial⟩
      ·exact step_load q10 0 hs Wn rfl rfl tyFe (fun _ => E10.out) hs16_2.lt hs16_2 (apN HD10_q2.out)
      ·exact step_load q5 0 hs Wn rfl rfl tyFe (fun _ => E5.out) hm5.lt hm5 (apN HD5_q2.out)
      ·refine step_call hs Wn rfl fun L u W hJ hG hL hdep K hK => ?_
       go_simp
       go_at_call 77
       (with_reducible refine (kSmallI (n := 1) (z := 1) rfl (by omega) _).mono ?_); rintro e w1 ⟨r, rfl, hr, hb⟩
       exact hK.out _ _ hr hb
      ·refine step_pure hs Wn rfl fun L u W hG hdep => ?_
       have a0 := (vE rR [-X] hG hdep 0)
       have a1 := (vE rR [y] hG hdep 1)
       have a2 := (vE rR [fn 1] hG hdep 2)
       obtain ⟨r, hr, hx⟩ := build_Pt a0 a1 a2 W
       exact ⟨r, run_build3 rfl hr, hx⟩
      ·refine step_storeO q2 48 hs Wn rfl rfl (by kernel_rfl) (fun k hk => ?_) (fun _ => E2.out) (there_lt ht2 (by omega)) ht2 (gO 3) tyPt3 rfl
       rcases k with _ | _ | _ | _ | _ | _ | k
       all_goals first | (exact absurd rfl hk) | (intro e; cases e; done)
      ·exact mvK hs fun _ => rfl
     intro L17 u17f W17f hall hJ hG
     have hb := hJ.beN hbel
     have hbel := hbel.trans hb
     have hm5 := kB hm5 hJ HD5_q2.out
     have hm7 := kB hm7 hJ HD7_q2.out
     have hm8 := kB hm8 hJ HD8_q2.out
     have hm9 := kB hm9 hJ HD9_q2.out
     have hs16_2 := kB hs16_2 hJ HD10_q2.out
     have ht5 := tB ht5 hJ HD5_q2.out
     have ht7 := tB ht7 hJ HD7_q2.out
     have ht8 := tB ht8 hJ HD8_q2.out
     have ht9 := tB ht9 hJ HD9_q2.out
     have hs16_2t := tB hs16_2t hJ HD10_q2.out
     obtain ⟨_, hs17_4t, hs17_4⟩ := oT 48 rR [-X, y, fn 1] hG 4
     have HC3 := oC (.int .i64 0) hG 5
     have hbel0 := hbel
     clear hJ hG hall hb
     go_wp2
     exact ret_cell_slot (R := rR) Tryz.results46 (by exact E2.out) (by exact HC3.out) hs17_4 tyPt3 rfl (fun r hr => ⟨r, by rw [(dec_yes HL.out HLW.out HY.out HRC.out HS.out (fun k => HX0.out (HX.out.symm.trans k.2))).1], isQ hr (dec_prep (by rw [(dec_yes HL.out HLW.out HY.out HRC.out HS.out (fun k => HX0.out (HX.out.symm.trans k.2))).2.1, HX.out]; rfl) (dec_yes HL.out HLW.out HY.out HRC.out HS.out (fun k => HX0.out (HX.out.symm.trans k.2))).2.2), hbel⟩)
theorem kDecode {a : Option Addr} {n cap : Nat} {l : List UInt8} {P : EP} {c : Int} {w : World} (hP : decV l = P) (hc : decC l = c) (h : RdB w a n cap l) :
  Calls Tryz.prog 46 #[.slice a n cap] w fun e w' => ∃ r, e = .returned (.tuple #[r, .int .i64 c]) ∧ IsFs rQ r [P] ∧ Below w.heap.size w w' := by
 subst hP hc
 by_cases hn : n = 32
 ·subst hn
  obtain ⟨b, q, rfl, hc0⟩ := h.get 31 (by rw [h.hlen]; omega)
  exact qdecode_32 w rfl h
 ·obtain ⟨e1, e2⟩ := dec_len (b := l) (by rw [h.hlen]; exact hn)
  rw [e1, e2]
  exact qdecode_len w hn
theorem base_y : fn 4 * finv (fn 5) = base.y := by
 have h1 : base.y * fn 5 = fn 4 := by show baseY * fn 5 = fn 4; decide +kernel
 have h3 := finv_mul (x := fn 5) (by decide +kernel)
 rw [← h1]
 generalize finv (fn 5) = u at *
 generalize fn 5 = v at *
 generalize base.y = b at *
 clear h1
 grind
theorem base_even : ¬ base.x.val % 2 = 1 := by show ¬ baseX.val % 2 = 1; decide +kernel
theorem dec_base2 : decV (leB 32 (fn 4 * finv (fn 5)).val) = base ∧ decC (leB 32 (fn 4 * finv (fn 5)).val) = 0 := by
 rw [base_y, enc_even base_even]
 unfold decV decC
 rw [decP_enc]
 exact ⟨rfl, rfl⟩
set_option maxHeartbeats 4000000 in
theorem kBase  (w : World) :
  Calls Tryz.prog 32 #[] w fun e w' => ∃ r, e = .returned r ∧ IsFs rQ r [base] ∧ Below w.heap.size w w' := by
 go_enter Tryz.func32, Tryz.ntmps32
 have hbel : Below w.heap.size w w := Below.refl _ _
 have hbel0 := hbel
 go_upto_region 0 with fail
 refine rgT [(0, 0)] [.new 48] ?_ ?_
 ·intro hs
  refine ⟨?_, trivial⟩
  ·exact step_alloc hs Wn rfl rfl (by omega) rfl allocPt
 intro L0 u0 W0 hall hJ hG
 obtain ⟨q0, e0, hq0, _, ht0⟩ := oN 48 hG 0
 have hq0 : w.heap.size ≤ q0 := by have := hbel0.size; omega
 have E0 := Lib.hid e0; clear e0
 have hb := hJ.all rfl
 have hbel := Below.call hbel hb
 have hbel0 := hbel
 clear hJ hG hall hb
 go_upto_region 1 with fail
 refine rgT [(1, 4), (2, 0), (0, 1), (0, 2), (0, 3)] [.val rR [fn 4], .val rR [fn 5], .val rR [finv (fn 5)], .val rR [(fn 4) * (finv (fn 5))], .new 16, .st 4 rR [(fn 4) * (finv (fn 5))]] ?_ ?_
 ·intro hs
  refine ⟨?_, ?_, ?_, ?_, ?_, ?_, trivial⟩
  ·refine step_call hs Wn rfl fun L u W hJ hG hL hdep K hK => ?_
   go_simp
   go_at_call 77
   (with_reducible refine (kSmallI (n := 4) (z := 4) rfl (by omega) _).mono ?_); rintro e w1 ⟨r, rfl, hr, hb⟩
   exact hK.out _ _ hr hb
  ·refine step_call hs Wn rfl fun L u W hJ hG hL hdep K hK => ?_
   go_simp
   go_at_call 77
   (with_reducible refine (kSmallI (n := 5) (z := 5) rfl (by omega) _).mono ?_); rintro e w1 ⟨r, rfl, hr, hb⟩
   exact hK.out _ _ hr hb
  ·refine step_call hs Wn rfl fun L u W hJ hG hL hdep K hK => ?_
   have a0 := (vE rR [fn 5] hG hdep 1)
   go_simp
   go_at_call 79
   (with_reducible refine (kInv a0 _).mono ?_); rintro e w1 ⟨r, rfl, hr, hb⟩
   exact hK.out _ _ hr hb
  ·refine step_call hs Wn rfl fun L u W hJ hG hL hdep K hK => ?_
   have a0 := (vE rR [fn 4] hG hdep 0)
   have a1 := (vE rR [finv (fn 5)] hG hdep 2)
   go_simp
   go_at_call 78
   (with_reducible refine (kMul a0 a1 _).mono ?_); rintro e w1 ⟨r, rfl, hr, hb⟩
   exact hK.out _ _ hr hb
  ·exact step_alloc hs Wn rfl rfl (by omega) rfl allocFe
  ·exact step_store 4 hs (by kernel_rfl) Wn rfl rfl rfl (by kernel_rfl) (by kernel_rfl) (by kernel_rfl) (by kernel_rfl) (fun _ => rfl) (gO 3) tyFe rfl
 intro L1 u1 W1 hall hJ hG
 obtain ⟨q1, e1, hq1, _, ht1⟩ := oN 16 hG 4
 have hm1 := oS rR [(fn 4) * (finv (fn 5))] hG 5 e1
 have HD1_q0 := Lib.hid (show q0 ≠ q1 by have := there_lt ht0 (by omega); omega)
 have hq1 : w.heap.size ≤ q1 := by have := hbel0.size; omega
 have E1 := Lib.hid e1; clear e1
 have hb := hJ.all rfl
 have hbel := Below.call hbel hb
 have ht0 := there_later ht0 hb
 have hbel0 := hbel
 clear hJ hG hall hb
 go_upto_region 2 with fail
 refine rgT [(2, 6), (0, 8), (4, 3), (0, 0), (0, 1), (0, 2), (0, 4), (0, 5)] [.val rR [(fn 4) * (finv (fn 5))], .rdt (leB 32 ((fn 4) * (finv (fn 5))).val) 2, .oth (fun v => IsTV rQ v [base] (.int .i64 0)), .oth (fun v => IsTV rQ v [base] (.int .i64 0)), .val rQ [base], .oth (fun v => v = .int .i64 0), .new 48, .st 6 rQ [base], .oth (fun v => v = .int .i64 0)] ?_ ?_
 ·intro hs
  refine ⟨?_, ?_, ?_, ?_, ?_, ?_, ?_, ?_, ?_, trivial⟩
  ·exact step_load q1 0 hs Wn rfl rfl tyFe (fun _ => E1.out) hm1.lt hm1 Na
  ·refine step_callRt hs Wn rfl fun L u W hJ hG hL hdep K hK => ?_
   have a0 := (vE rR [(fn 4) * (finv (fn 5))] hG hdep 0)
   go_simp
   go_at_call 80
   (with_reducible refine (kBytes a0 _).mono ?_); rintro e w1 ⟨g, n, cap, r, rfl, h1, h2, h3, h4, h5, hb⟩
   exact hK.out _ _ _ _ _ h1 h2 h3 h4 h5 hb
  ·refine step_callO hs Wn rfl fun L u W hJ hG hL hdep K hK => ?_
   obtain ⟨gR0, nR0, cR0, rR0, x0, _, hRn0, hRc0, hRm0, hR0⟩ := (show ∃ g n cap r, u 1 = .slice (some ⟨g, 0, none⟩) n cap ∧ W1.heap.size ≤ g ∧ (leB 32 ((fn 4) * (finv (fn 5))).val).length = n ∧ n ≤ cap ∧ cap ≤ maxLen ∧ (L 2 = false → Blk W g ((leB 32 ((fn 4) * (finv (fn 5))).val).map bV ++ r) 5) from hG 1 (hdep 1 (by kernel_rfl)))
   have hB0 := RdB.blk rR0 (hR0 hL) hRn0 hRc0 hRm0
   go_simp
   go_at_call 46
   (with_reducible refine (kDecode dec_base2.1 dec_base2.2 hB0).mono ?_); rintro e w1 ⟨r, rfl, hr, hb⟩
   have hk := hK.out _ _ ⟨r, rfl, hr⟩ hb
   simp only [x0] at hk
   exact hk
  ·exact step_pureO hs Wn rfl fun L u W hG hdep => ⟨_, run_move rfl, (show IsTV rQ (u 2) [base] (.int .i64 0) from hG 2 (hdep 2 (by kernel_rfl)))⟩
  ·exact step_pure hs Wn rfl fun L u W hG hdep => run_extractV0 rfl (show IsTV rQ (u 3) [base] (.int .i64 0) from hG 3 (hdep 3 (by kernel_rfl)))
  ·exact step_pureO hs Wn rfl fun L u W hG hdep => run_extractV1 rfl (show IsTV rQ (u 3) [base] (.int .i64 0) from hG 3 (hdep 3 (by kernel_rfl)))
  ·exact step_alloc hs Wn rfl rfl (by omega) rfl allocPt
  ·exact step_store 6 hs (by kernel_rfl) Wn rfl rfl rfl (by kernel_rfl) (by kernel_rfl) (by kernel_rfl) (by kernel_rfl) (fun _ => rfl) (gO 4) tyPt rfl
  ·exact mvO 5 hs
 intro L2 u2 W2 hall hJ hG
 obtain ⟨q2, e2, hq2, _, ht2⟩ := oN 48 hG 6
 have hm2 := oS rQ [base] hG 7 e2
 have HD2_q0 := Lib.hid (show q0 ≠ q2 by have := there_lt ht0 (by omega); omega)
 have HD2_q1 := Lib.hid (show q1 ≠ q2 by have := there_lt ht1 (by omega); omega)
 have hq2 : w.heap.size ≤ q2 := by have := hbel0.size; omega
 have E2 := Lib.hid e2; clear e2
 have hb := hJ.all rfl
 have hbel := Below.call hbel hb
 have hm1 := hm1.later hb
 have ht0 := there_later ht0 hb
 have ht1 := there_later ht1 hb
 have hbel0 := hbel
 clear hJ hG hall hb
 go_upto_region 3 with fail
 refine rgT [(14, 0)] [.val rQ [base], .sto q0 rQ [base]] ?_ ?_
 ·intro hs
  refine ⟨?_, ?_, trivial⟩
  ·exact step_load q2 0 hs Wn rfl rfl tyPt (fun _ => E2.out) hm2.lt hm2 (apN HD2_q0.out)
  ·refine step_storeO q0 48 hs Wn rfl rfl (by kernel_rfl) (fun k hk => ?_) (fun _ => E0.out) (there_lt ht0 (by omega)) ht0 (gO 0) tyPt rfl
   rcases k with _ | _ | k
   all_goals first | (exact absurd rfl hk) | (intro e; cases e; done)
 intro L3 u3 W3 hall hJ hG
 have hb := hJ.beN hbel
 have hbel := hbel.trans hb
 have hm1 := kB hm1 hJ HD1_q0.out
 have hm2 := kB hm2 hJ HD2_q0.out
 have ht1 := tB ht1 hJ HD1_q0.out
 have ht2 := tB ht2 hJ HD2_q0.out
 obtain ⟨_, hs3_1t, hs3_1⟩ := oT 48 rQ [base] hG 1
 have hbel0 := hbel
 clear hJ hG hall hb
 go_wp2
 exact ret_cell1 (R := rQ) Tryz.results32 (by exact E0.out) hs3_1 tyPt rfl (fun r hr => ⟨r, rfl, hr, hbel⟩)
theorem dec_no {l : List UInt8} (h : ¬ decC l = 0) : decC l = 12 := by
 unfold decC at *
 split
 ·rename_i h1; rw [if_pos h1] at h; exact absurd rfl h
 ·rfl
theorem scOk_len {l : List UInt8} (h : l.length ≠ 32) : scOk l = false := by simp [scOk, h]
theorem wS_32 {l : List UInt8} (h : l.length = 32) : (wS l).val = leN l % Lq := by
 unfold wS
 rw [fn_sc (Nat.mod_lt _ Lq_0), leN_first, List.take_of_length_le (by omega)]
theorem scOk_back (l : List UInt8) (h : l.length = 32) : decide (leB 32 (wS l).val = l) = scOk l := by
 rw [wS_32 h]
 unfold scOk
 rw [decide_eq_true h, Bool.true_and, decide_eq_decide]
 exact sc_back l h
theorem wS_ok {l : List UInt8} (h : scOk l = true) : wS l = fn (leN l) := by
 simp only [scOk, Bool.and_eq_true, decide_eq_true_eq] at h
 apply F.ext'
 rw [wS_32 h.1, fn_sc h.2, Nat.mod_eq_of_lt h.2]
set_option maxHeartbeats 4000000 in
theorem rstrictSc_len {a : Option Addr} {n cap : Nat} (w : World) (hn : n ≠ 32) :
  Calls Tryz.prog 48 #[.slice a n cap] w fun e w' => ∃ r, e = .returned (.tuple #[r, .int .i64 2]) ∧ IsFs rC r [0] ∧ Below w.heap.size w w' := by
 have f1 : (((n : Nat) : Int) != 32) = true := by simp; omega
 have F1 := Lib.hid f1
 clear hn f1
 go_enter Tryz.func48, Tryz.ntmps48
 have hbel : Below w.heap.size w w := Below.refl _ _
 have hbel0 := hbel
 go_upto_region 0 with fail
 refine rgT [(2, 0), (0, 1)] [.new 32, .oth (fun v => v = .int .i64 0)] ?_ ?_
 ·intro hs
  refine ⟨?_, ?_, trivial⟩
  ·exact step_alloc hs Wn rfl rfl (by omega) rfl allocSc
  ·exact mvK hs fun _ => rfl
 intro L0 u0 W0 hall hJ hG
 obtain ⟨q2, e2, hq2, _, ht2⟩ := oN 32 hG 0
 have hq2 : w.heap.size ≤ q2 := by have := hbel0.size; omega
 have E2 := Lib.hid e2; clear e2
 have hb := hJ.all rfl
 have hbel := Below.call hbel hb
 have HC3 := oC (.int .i64 0) hG 1
 have hbel0 := hbel
 clear hJ hG hall hb
 go_upto_region 1 with fail
 refine rgM [(4, 0), (0, 1), (0, 2), (0, 3), (0, 4), (0, 5), (0, 6), (0, 7), (0, 8), (0, 9), (0, 10), (0, 11)] [.oth (fun v => v = .slice a n cap), .oth (fun v => v = .int .i64 (n : Nat)), .oth (fun v => v = .bool true), .oth (fun v => v = .bool true), .any, .any, .any, .any, .any, .any, .any, .oth (fun v => v = .bool true)] ?_ ?_
 ·intro hs
  refine ⟨?_, ?_, ?_, ?_, ?_, ?_, ?_, ?_, ?_, ?_, ?_, ?_, trivial⟩
  ·exact mvK hs fun _ => rfl
  ·refine step_pureO hs Wn rfl fun L u W hG hdep => ⟨_, ?_, rfl⟩
   have e0 := (oE (.slice a n cap) hG hdep 0)
   go_simp
  ·refine step_pureO hs Wn rfl fun L u W hG hdep => ⟨_, ?_, rfl⟩
   have e0 := (oE (.int .i64 (n : Nat)) hG hdep 1)
   have f1 := F1.out
   go_simp
  ·exact mvO 2 hs
  ·exact step_out hs (wants_off 3 rfl rfl rfl (by kernel_rfl) (fun _ => rfl)) rfl
  ·exact step_out hs (wants_off 3 rfl rfl rfl (by kernel_rfl) (fun _ => rfl)) rfl
  ·exact step_out hs (wants_off 3 rfl rfl rfl (by kernel_rfl) (fun _ => rfl)) rfl
  ·exact step_out hs (wants_off 3 rfl rfl rfl (by kernel_rfl) (fun _ => rfl)) rfl
  ·exact step_out hs (wants_off 3 rfl rfl rfl (by kernel_rfl) (fun _ => rfl)) rfl
  ·exact step_out hs (wants_off 3 rfl rfl rfl (by kernel_rfl) (fun _ => rfl)) rfl
  ·exact step_out hs (wants_off 3 rfl rfl rfl (by kernel_rfl) (fun _ => rfl)) rfl
  ·exact step_pick true hs Wn rfl rfl (fun L u W hG hdep => (oE (.bool true) hG hdep 3)) (fun L u W hG hdep => rfl)
 intro L1 u1 W1 hall hJ hG
 have hb := hJ.all rfl
 have hbel := Below.call hbel hb
 have ht2 := there_later ht2 hb
 have HC6 := oC (.bool true) hG 2
 have HC7 := oC (.bool true) hG 3
 have HC15 := oC (.bool true) hG 11
 have hbel0 := hbel
 clear hJ hG hall hb
 have hx : u1 11 = .bool true := HC15.out
 go_wp2_with fail
 rw [hx]
 clear hx
 go_upto_region 2 with fail
 refine rgT [(3, 2), (12, 0)] [.val rC [0], .sto q2 rC [0], .oth (fun v => v = .int .i64 2)] ?_ ?_
 ·intro hs
  refine ⟨?_, ?_, ?_, trivial⟩
  ·exact step_pure hs Wn rfl fun L u W hG hdep => run_build0 rfl (buildSc0 W)
  ·refine step_storeO q2 32 hs Wn rfl rfl (by kernel_rfl) (fun k hk => ?_) (fun _ => E2.out) (there_lt ht2 (by omega)) ht2 (gO 0) tySc rfl
   rcases k with _ | _ | _ | k
   all_goals first | (exact absurd rfl hk) | (intro e; cases e; done)
  ·exact mvK hs fun _ => rfl
 intro L2 u2 W2 hall hJ hG
 have hb := hJ.beN hbel
 have hbel := hbel.trans hb
 obtain ⟨_, hs2_1t, hs2_1⟩ := oT 32 rC [0] hG 1
 have HC3 := oC (.int .i64 2) hG 2
 have hbel0 := hbel
 clear hJ hG hall hb
 go_wp2
 exact ret_cell_slot (R := rC) Tryz.results48 (by exact E2.out) (by exact HC3.out) hs2_1 tySc rfl (fun s hs => ⟨s, rfl, hs, hbel⟩)
set_option maxHeartbeats 4000000 in
theorem rstrictSc_yes {a : Option Addr} {n cap : Nat} {l : List UInt8} (w : World) (ha : RdB w a n cap l) (hn : n = 32) (hok : scOk l = true) :
  Calls Tryz.prog 48 #[.slice a n cap] w fun e w' => ∃ r, e = .returned (.tuple #[r, .int .i64 0]) ∧ IsFs rC r [wS l] ∧ Below w.heap.size w w' := by
 have HQ := Lib.hid (show decide (leB 32 (wS l).val = l) = true from by rw [scOk_back l (by rw [ha.hlen, hn]), hok])
 subst hn
 clear hok
 go_enter Tryz.func48, Tryz.ntmps48
 have hbel : Below w.heap.size w w := Below.refl _ _
 have hbel0 := hbel
 go_upto_region 0 with fail
 refine rgT [(2, 0), (0, 1)] [.new 32, .oth (fun v => v = .int .i64 0)] ?_ ?_
 ·intro hs
  refine ⟨?_, ?_, trivial⟩
  ·exact step_alloc hs Wn rfl rfl (by omega) rfl allocSc
  ·exact mvK hs fun _ => rfl
 intro L0 u0 W0 hall hJ hG
 obtain ⟨q2, e2, hq2, _, ht2⟩ := oN 32 hG 0
 have hq2 : w.heap.size ≤ q2 := by have := hbel0.size; omega
 have E2 := Lib.hid e2; clear e2
 have hb := hJ.all rfl
 have hbel := Below.call hbel hb
 have HC3 := oC (.int .i64 0) hG 1
 have hbel0 := hbel
 clear hJ hG hall hb
 go_upto_region 1 with fail
 refine rgM [(4, 0), (0, 1), (0, 2), (0, 3), (0, 4), (0, 5), (0, 6), (0, 7), (0, 8), (0, 9), (0, 10), (0, 11)] [.oth (fun v => v = .slice a 32 cap), .oth (fun v => v = .int .i64 32), .oth (fun v => v = .bool false), .oth (fun v => v = .bool false), .oth (fun v => v = .slice a 32 cap), .val rC [wS l], .rd (leB 32 (wS l).val), .oth (fun v => v = (.string (bs (leB 32 (wS l).val)))), .oth (fun v => v = .slice a 32 cap), .oth (fun v => v = (.string (bs l))), .oth (fun v => v = .bool false), .oth (fun v => v = .bool false)] ?_ ?_
 ·intro hs
  refine ⟨?_, ?_, ?_, ?_, ?_, ?_, ?_, ?_, ?_, ?_, ?_, ?_, trivial⟩
  ·exact mvK hs fun _ => rfl
  ·refine step_pureO hs Wn rfl fun L u W hG hdep => ⟨_, ?_, rfl⟩
   have e0 := (oE (.slice a 32 cap) hG hdep 0)
   go_simp
  ·refine step_pureO hs Wn rfl fun L u W hG hdep => ⟨_, ?_, rfl⟩
   have e0 := (oE (.int .i64 32) hG hdep 1)
   go_simp
   try simp [bne]
  ·exact mvO 2 hs
  ·exact step_pureO hs (wants_on 3 rfl rfl (by kernel_rfl) (fun _ => rfl)) rfl fun L u W hG hdep => ⟨_, run_move rfl, rfl⟩
  ·refine step_call hs (wants_on 3 rfl rfl (by kernel_rfl) (fun _ => rfl)) rfl fun L u W hJ hG hL hdep K hK => ?_
   have x0 := (oE (.slice a 32 cap) hG hdep 4)
   have hRB0 := (ha.below hbel).below (hJ.all rfl)
   go_simp
   go_at_call 34
   (with_reducible refine (kWide rfl hRB0).mono ?_); rintro e w1 ⟨r, rfl, hr, hb⟩
   have hk := hK.out _ _ hr hb
   simp only [x0] at hk
   exact hk
  ·refine step_callB hs (wants_on 3 rfl rfl (by kernel_rfl) (fun _ => rfl)) rfl fun L u W hJ hG hL hdep K hK => ?_
   have a0 := (vE rC [wS l] hG hdep 5)
   go_simp
   go_at_call 40
   (with_reducible refine (kScBytes a0 _).mono ?_); rintro e w1 ⟨g, n, cap, r, rfl, h1, h2, h3, h4, h5, hb⟩
   exact hK.out _ _ _ _ _ h1 h2 h3 h4 h5 hb
  ·exact step_conv 6 hs (wants_on 3 rfl rfl (by kernel_rfl) (fun _ => rfl)) rfl rfl rfl (by kernel_rfl) (fun _ => rfl)
  ·exact step_pureO hs (wants_on 3 rfl rfl (by kernel_rfl) (fun _ => rfl)) rfl fun L u W hG hdep => ⟨_, run_move rfl, rfl⟩
  ·exact step_convC hs (wants_on 3 rfl rfl (by kernel_rfl) (fun _ => rfl)) rfl rfl (ha.below hbel) (by kernel_rfl) (fun L u W hG hdep => (oE (.slice a 32 cap) hG hdep 8))
  ·exact step_pureO hs (wants_on 3 rfl rfl (by kernel_rfl) (fun _ => rfl)) rfl fun L u W hG hdep => ⟨_, run_neqS rfl (oE ((.string (bs (leB 32 (wS l).val)))) hG hdep 7) (oE ((.string (bs l))) hG hdep 9), by rw [HQ.out]; rfl⟩
  ·exact step_pick false hs Wn rfl rfl (fun L u W hG hdep => (oE (.bool false) hG hdep 3)) (fun L u W hG hdep => (oE (.bool false) hG hdep 10))
 intro L1 u1 W1 hall hJ hG
 have hb := hJ.all rfl
 have hbel := Below.call hbel hb
 have ht2 := there_later ht2 hb
 have HC6 := oC (.bool false) hG 2
 have HC7 := oC (.bool false) hG 3
 have HC14 := oC (.bool false) hG 10
 have HC15 := oC (.bool false) hG 11
 have hbel0 := hbel
 clear hJ hG hall hb
 have hx : u1 11 = .bool false := HC15.out
 go_wp2_with fail
 rw [hx]
 clear hx
 go_upto_region 3 with fail
 refine rgT [(3, 3), (13, 0), (0, 1)] [.oth (fun v => v = .slice a 32 cap), .val rC [wS l], .sto q2 rC [wS l], .oth (fun v => v = .int .i64 0)] ?_ ?_
 ·intro hs
  refine ⟨?_, ?_, ?_, ?_, trivial⟩
  ·exact mvK hs fun _ => rfl
  ·refine step_call hs Wn rfl fun L u W hJ hG hL hdep K hK => ?_
   have x0 := (oE (.slice a 32 cap) hG hdep 0)
   have hRB0 := (ha.below (hbel.trans (hJ.below (by have := hbel.size; omega) (fun k b hf => by rcases k with _ | _ | _ | _ | k <;> first | (cases hf; done) | (cases hf; omega)))))
   go_simp
   go_at_call 34
   (with_reducible refine (kWide rfl hRB0).mono ?_); rintro e w1 ⟨r, rfl, hr, hb⟩
   have hk := hK.out _ _ hr hb
   simp only [x0] at hk
   exact hk
  ·refine step_storeO q2 32 hs Wn rfl rfl (by kernel_rfl) (fun k hk => ?_) (fun _ => E2.out) (there_lt ht2 (by omega)) ht2 (gO 1) tySc rfl
   rcases k with _ | _ | _ | _ | k
   all_goals first | (exact absurd rfl hk) | (intro e; cases e; done)
  ·exact mvK hs fun _ => rfl
 intro L3 u3 W3 hall hJ hG
 have hb := hJ.beN hbel
 have hbel := hbel.trans hb
 obtain ⟨_, hs3_2t, hs3_2⟩ := oT 32 rC [wS l] hG 2
 have HC3 := oC (.int .i64 0) hG 3
 have hbel0 := hbel
 clear hJ hG hall hb
 go_wp2
 exact ret_cell_slot (R := rC) Tryz.results48 (by exact E2.out) (by exact HC3.out) hs3_2 tySc rfl (fun s hs => ⟨s, rfl, hs, hbel⟩)
set_option maxHeartbeats 4000000 in
theorem rstrictSc_no {a : Option Addr} {n cap : Nat} {l : List UInt8} (w : World) (ha : RdB w a n cap l) (hn : n = 32) (hok : scOk l = false) :
  Calls Tryz.prog 48 #[.slice a n cap] w fun e w' => ∃ r, e = .returned (.tuple #[r, .int .i64 2]) ∧ IsFs rC r [0] ∧ Below w.heap.size w w' := by
 have HQ := Lib.hid (show decide (leB 32 (wS l).val = l) = false from by rw [scOk_back l (by rw [ha.hlen, hn]), hok])
 subst hn
 clear hok
 go_enter Tryz.func48, Tryz.ntmps48
 have hbel : Below w.heap.size w w := Below.refl _ _
 have hbel0 := hbel
 go_upto_region 0 with fail
 refine rgT [(2, 0), (0, 1)] [.new 32, .oth (fun v => v = .int .i64 0)] ?_ ?_
 ·intro hs
  refine ⟨?_, ?_, trivial⟩
  ·exact step_alloc hs Wn rfl rfl (by omega) rfl allocSc
  ·exact mvK hs fun _ => rfl
 intro L0 u0 W0 hall hJ hG
 obtain ⟨q2, e2, hq2, _, ht2⟩ := oN 32 hG 0
 have hq2 : w.heap.size ≤ q2 := by have := hbel0.size; omega
 have E2 := Lib.hid e2; clear e2
 have hb := hJ.all rfl
 have hbel := Below.call hbel hb
 have HC3 := oC (.int .i64 0) hG 1
 have hbel0 := hbel
 clear hJ hG hall hb
 go_upto_region 1 with fail
 refine rgM [(4, 0), (0, 1), (0, 2), (0, 3), (0, 4), (0, 5), (0, 6), (0, 7), (0, 8), (0, 9), (0, 10), (0, 11)] [.oth (fun v => v = .slice a 32 cap), .oth (fun v => v = .int .i64 32), .oth (fun v => v = .bool false), .oth (fun v => v = .bool false), .oth (fun v => v = .slice a 32 cap), .val rC [wS l], .rd (leB 32 (wS l).val), .oth (fun v => v = (.string (bs (leB 32 (wS l).val)))), .oth (fun v => v = .slice a 32 cap), .oth (fun v => v = (.string (bs l))), .oth (fun v => v = .bool true), .oth (fun v => v = .bool true)] ?_ ?_
 ·intro hs
  refine ⟨?_, ?_, ?_, ?_, ?_, ?_, ?_, ?_, ?_, ?_, ?_, ?_, trivial⟩
  ·exact mvK hs fun _ => rfl
  ·refine step_pureO hs Wn rfl fun L u W hG hdep => ⟨_, ?_, rfl⟩
   have e0 := (oE (.slice a 32 cap) hG hdep 0)
   go_simp
  ·refine step_pureO hs Wn rfl fun L u W hG hdep => ⟨_, ?_, rfl⟩
   have e0 := (oE (.int .i64 32) hG hdep 1)
   go_simp
   try simp [bne]
  ·exact mvO 2 hs
  ·exact step_pureO hs (wants_on 3 rfl rfl (by kernel_rfl) (fun _ => rfl)) rfl fun L u W hG hdep => ⟨_, run_move rfl, rfl⟩
  ·refine step_call hs (wants_on 3 rfl rfl (by kernel_rfl) (fun _ => rfl)) rfl fun L u W hJ hG hL hdep K hK => ?_
   have x0 := (oE (.slice a 32 cap) hG hdep 4)
   have hRB0 := (ha.below hbel).below (hJ.all rfl)
   go_simp
   go_at_call 34
   (with_reducible refine (kWide rfl hRB0).mono ?_); rintro e w1 ⟨r, rfl, hr, hb⟩
   have hk := hK.out _ _ hr hb
   simp only [x0] at hk
   exact hk
  ·refine step_callB hs (wants_on 3 rfl rfl (by kernel_rfl) (fun _ => rfl)) rfl fun L u W hJ hG hL hdep K hK => ?_
   have a0 := (vE rC [wS l] hG hdep 5)
   go_simp
   go_at_call 40
   (with_reducible refine (kScBytes a0 _).mono ?_); rintro e w1 ⟨g, n, cap, r, rfl, h1, h2, h3, h4, h5, hb⟩
   exact hK.out _ _ _ _ _ h1 h2 h3 h4 h5 hb
  ·exact step_conv 6 hs (wants_on 3 rfl rfl (by kernel_rfl) (fun _ => rfl)) rfl rfl rfl (by kernel_rfl) (fun _ => rfl)
  ·exact step_pureO hs (wants_on 3 rfl rfl (by kernel_rfl) (fun _ => rfl)) rfl fun L u W hG hdep => ⟨_, run_move rfl, rfl⟩
  ·exact step_convC hs (wants_on 3 rfl rfl (by kernel_rfl) (fun _ => rfl)) rfl rfl (ha.below hbel) (by kernel_rfl) (fun L u W hG hdep => (oE (.slice a 32 cap) hG hdep 8))
  ·exact step_pureO hs (wants_on 3 rfl rfl (by kernel_rfl) (fun _ => rfl)) rfl fun L u W hG hdep => ⟨_, run_neqS rfl (oE ((.string (bs (leB 32 (wS l).val)))) hG hdep 7) (oE ((.string (bs l))) hG hdep 9), by rw [HQ.out]; rfl⟩
  ·exact step_pick false hs Wn rfl rfl (fun L u W hG hdep => (oE (.bool false) hG hdep 3)) (fun L u W hG hdep => (oE (.bool true) hG hdep 10))
 intro L1 u1 W1 hall hJ hG
 have hb := hJ.all rfl
 have hbel := Below.call hbel hb
 have ht2 := there_later ht2 hb
 have HC6 := oC (.bool false) hG 2
 have HC7 := oC (.bool false) hG 3
 have HC14 := oC (.bool true) hG 10
 have HC15 := oC (.bool true) hG 11
 have hbel0 := hbel
 clear hJ hG hall hb
 have hx : u1 11 = .bool true := HC15.out
 go_wp2_with fail
 rw [hx]
 clear hx
 go_upto_region 2 with fail
 refine rgT [(3, 2), (12, 0)] [.val rC [0], .sto q2 rC [0], .oth (fun v => v = .int .i64 2)] ?_ ?_
 ·intro hs
  refine ⟨?_, ?_, ?_, trivial⟩
  ·exact step_pure hs Wn rfl fun L u W hG hdep => run_build0 rfl (buildSc0 W)
  ·refine step_storeO q2 32 hs Wn rfl rfl (by kernel_rfl) (fun k hk => ?_) (fun _ => E2.out) (there_lt ht2 (by omega)) ht2 (gO 0) tySc rfl
   rcases k with _ | _ | _ | k
   all_goals first | (exact absurd rfl hk) | (intro e; cases e; done)
  ·exact mvK hs fun _ => rfl
 intro L2 u2 W2 hall hJ hG
 have hb := hJ.beN hbel
 have hbel := hbel.trans hb
 obtain ⟨_, hs2_1t, hs2_1⟩ := oT 32 rC [0] hG 1
 have HC3 := oC (.int .i64 2) hG 2
 have hbel0 := hbel
 clear hJ hG hall hb
 go_wp2
 exact ret_cell_slot (R := rC) Tryz.results48 (by exact E2.out) (by exact HC3.out) hs2_1 tySc rfl (fun s hs => ⟨s, rfl, hs, hbel⟩)
theorem kScStrict {a : Option Addr} {n cap : Nat} {l : List UInt8} {x : F} {c : Int} {w : World} (hx : ssV l = x) (hc : ssC l = c) (h : RdB w a n cap l) :
  Calls Tryz.prog 48 #[.slice a n cap] w fun e w' => ∃ r, e = .returned (.tuple #[r, .int .i64 c]) ∧ IsFs rC r [x] ∧ Below w.heap.size w w' := by
 subst hx hc
 have hlen := h.hlen
 by_cases hn : n = 32
 ·cases e : scOk l
  ·rw [ssV, ssC, e]
   exact rstrictSc_no w h hn e
  ·rw [ssV, ssC, e, if_pos rfl, if_pos rfl, ← wS_ok e]
   exact rstrictSc_yes w h hn e
 ·have e := scOk_len (l := l) (by omega)
  rw [ssV, ssC, e]
  exact rstrictSc_len w hn
def verC (pub sig l : List UInt8) : Int :=
 if decC pub = 0 then
  if Cp.mul 8 (decV pub) = Cp.zero then 12
  else if sig.length = 64 then
   if decC (sig.take 32) = 0 then
    if ssC (sig.drop 32) = 0 then
     if Cp.mul (ssV (sig.drop 32)).val base = Cp.add (decV (sig.take 32)) (Cp.mul (wS (sha512 (sig.take 32 ++ (pub ++ l)))).val (decV pub)) then 0 else 3
    else 3
   else 3
  else 3
 else 12
theorem gVerify {v0 v1 v2 : Value} {pub sig l : List UInt8} {ls : List (List UInt8)} {w : World} (hp : (IsB pub).P v0 w) (hs : (IsB sig).P v1 w) (h1 : (IsR ls).P v2 w) (hl : ls.flatten = l) (hm : l.length ≤ 100000) :
  Calls Tryz.prog 15 #[v0, v1, v2] w fun e w' => e = .returned (.int .i64 (verC pub sig l)) ∧ Below w.heap.size w w' := by
 unfold verC
 by_cases c1 : decC pub = 0
 ·rw [if_pos c1]
  by_cases c2 : Cp.mul 8 (decV pub) = Cp.zero
  ·rw [if_pos c2]; exact ver_small hp hs h1 hl hm rfl c1 (decide_eq_true c2)
  ·rw [if_neg c2]
   by_cases c3 : sig.length = 64
   ·rw [if_pos c3]
    by_cases c4 : decC (sig.take 32) = 0
    ·rw [if_pos c4]
     by_cases c5 : ssC (sig.drop 32) = 0
     ·rw [if_pos c5]
      have hk : pub.length = 32 := by
       by_cases h : pub.length = 32
       ·exact h
       ·have := (dec_len h).2; omega
      split
      ·rename_i c6; exact ver_true hp hs h1 hl hm rfl c1 (decide_eq_false c2) c3 rfl c4 rfl c5 hk (decide_eq_true c6)
      ·rename_i c6; exact ver_false hp hs h1 hl hm rfl c1 (decide_eq_false c2) c3 rfl c4 rfl c5 hk (decide_eq_false c6)
     ·rw [if_neg c5]; exact ver_S hp hs h1 hl hm rfl c1 (decide_eq_false c2) c3 rfl c4 rfl (ss_no c5)
    ·rw [if_neg c4]; exact ver_R hp hs h1 hl hm rfl c1 (decide_eq_false c2) c3 rfl (dec_no c4)
   ·rw [if_neg c3]
    exact ver_len hp hs h1 hl hm rfl c1 (decide_eq_false c2) rfl (by simp; omega)
 ·rw [if_neg c1]; exact ver_pt hp hs h1 hl hm rfl (dec_no c1)
def awSeed : List UInt8 := [157, 97, 177, 157, 239, 253, 90, 96, 186, 132, 74, 244, 146, 236, 44, 196, 68, 73, 197, 105, 123, 50, 105, 25, 112, 59, 172, 3, 28, 174, 127, 96]
def awX : F := fn 38815646466658113194383306759739515082307681141926459231621296960732224964046
def awY : F := fn 11903303657706407974989296177215005343713679411332034699907763981919547054807
def awN : Nat := 7196903412274038802701538263280187907152860435200743670699908441353638128764
theorem aw_num : (edA awSeed).val = awN := by decide +kernel
theorem aw_pt : (Cp.mul awN base).x = awX ∧ (Cp.mul awN base).y = awY := by
 obtain ⟨X, Y, Z, e, hz, hx, hy⟩ := mulN_ok 253 awN (by decide +kernel)
 have h : (mulN 253 awN).1 = mulQ awX.val (mulN 253 awN).2.2 ∧ (mulN 253 awN).2.1 = mulQ awY.val (mulN 253 awN).2.2 := by decide +kernel
 rw [e] at h
 obtain ⟨h1, h2⟩ := h
 have hX : X = awX * Z := F.ext' h1
 have hY : Y = awY * Z := F.ext' h2
 generalize awX = ax at *
 generalize awY = ay at *
 generalize (Cp.mul awN base).x = x at *
 generalize (Cp.mul awN base).y = y at *
 have e1 : (x - ax) * Z = 0 := by clear h1 h2 e hz hy hY; grind
 have e2 : (y - ay) * Z = 0 := by clear h1 h2 e hz hx hX e1; grind
 constructor
 ·rcases F.dom e1 with h | h
  ·exact sub_nil h
  ·exact absurd h hz
 ·rcases F.dom e2 with h | h
  ·exact sub_nil h
  ·exact absurd h hz
theorem aw_pub : (edPub awSeed).take 4 = [215, 90, 152, 1] := by
 unfold edPub encP
 rw [aw_num, aw_pt.1, aw_pt.2]
 decide +kernel
def held (n : Int) : Int := if n ≤ 1099511627776 then n else 1099511627776
set_option maxHeartbeats 1000000 in
theorem sum2_any {g : Nat} {n x : Int} (w : World) (h : Blk w g [.int .i64 x, .int .i64 1] 3) (hn : 0 ≤ n) (hn2 : n ≤ 1099511627776) (hx : 0 ≤ x) (hx2 : x ≤ 9223372036854775807) :
  Calls Tryz.prog 17 #[.int .i64 n, .slice (some ⟨g, 0, none⟩) 2 2] w fun e w' => e = .returned (.int .i64 (held (n + x + 1))) ∧ Below w.heap.size w w' := by
 have c0 : w.cell? ⟨g, 0, none⟩ = some (.int .i64 x) := h.cell 0
 have c1 : w.cell? ⟨g, 1, none⟩ = some (.int .i64 1) := h.cell 1
 have hg0 : decide (1099511627776 < n) = false := decide_eq_false (by omega)
 have hw : IntKind.i64.wrap (1099511627776 - n) = 1099511627776 - n := by rw [IntKind.wrap_i64]; omega
 clear h
 by_cases h1 : 1099511627776 - n < x
 ·have HF : Hid (held (n + x + 1) = 1099511627776) := Lib.hid (by unfold held; rw [if_neg (by omega)])
  have hd : decide (1099511627776 - n < x) = true := decide_eq_true h1
  go_enter Tryz.func17, Tryz.ntmps17
  go_wp2
  refine wp_loop_rounds 1 ?_
  rw [rounds_succ]
  go_wp2
  go_ret
  exact ⟨by rw [HF.out]; rfl, belowBy⟩
 ·have hd : decide (1099511627776 - n < x) = false := decide_eq_false h1
  obtain ⟨m, hm⟩ : ∃ m, m = n + x := ⟨_, rfl⟩
  have hm0 : 0 ≤ m := by omega
  have hm1 : m ≤ 1099511627776 := by omega
  have hw2 : IntKind.i64.wrap (n + x) = m := by rw [IntKind.wrap_i64]; omega
  have hg1 : decide (1099511627776 < m) = false := decide_eq_false (by omega)
  have hw3 : IntKind.i64.wrap (1099511627776 - m) = 1099511627776 - m := by rw [IntKind.wrap_i64]; omega
  have HM := Lib.hid hm
  clear hm
  by_cases h2 : 1099511627776 - m < 1
  ·have HF : Hid (held (n + x + 1) = 1099511627776) := Lib.hid (by unfold held; rw [if_neg (by have := HM.out; omega)])
   have hd2 : decide (1099511627776 - m < 1) = true := decide_eq_true h2
   go_enter Tryz.func17, Tryz.ntmps17
   go_wp2
   refine wp_loop_rounds 2 ?_
   rw [rounds_succ]
   go_wp2
   rw [rounds_succ]
   go_wp2
   go_ret
   exact ⟨by rw [HF.out]; rfl, belowBy⟩
  ·have HF : Hid (held (n + x + 1) = m + 1) := Lib.hid (by unfold held; rw [if_pos (by have := HM.out; omega), HM.out])
   have hd2 : decide (1099511627776 - m < 1) = false := decide_eq_false h2
   go_enter Tryz.func17, Tryz.ntmps17
   go_wp2
   refine wp_loop_rounds 3 ?_
   rw [rounds_succ]
   go_wp2
   rw [rounds_succ]
   go_wp2
   rw [rounds_succ]
   go_wp2
   go_ret
   exact ⟨by rw [HF.out]; rfl, belowBy⟩
def allN (ls : List (List UInt8)) (k : Nat) : Int := held ((lens ls k : Int) + (k : Int))
theorem held_add {a b : Int} (hb : 0 ≤ b) : held (held a + b) = held (a + b) := by unfold held; split <;> split <;> (try split) <;> omega
theorem allN_succ {ls : List (List UInt8)} {k : Nat} (h : k < ls.length) : held (allN ls k + (ls[k].length : Int) + 1) = allN ls (k + 1) := by
 unfold allN
 rw [lens_succ ls k h, Int.add_assoc, held_add (by omega)]
 congr 1
 omega
theorem allN_le (ls : List (List UInt8)) (k : Nat) : 0 ≤ allN ls k ∧ allN ls k ≤ 1099511627776 := by unfold allN held; split <;> omega
def allF (ls : List (List UInt8)) : Nat → Nat → Int
 | 0, k => allN ls k
 | f + 1, k => if allN ls k ≤ 300 then allF ls f (k + 1) else allN ls k
def allZ (ls : List (List UInt8)) : Int := allF ls ls.length 0
theorem allF_few (ls : List (List UInt8)) : ∀ f k, f + k = ls.length → allF ls f k ≤ 300 → allN ls ls.length ≤ 300
 | 0, k, h, h2 => by rw [Nat.zero_add] at h; subst h; exact h2
 | f + 1, k, h, h2 => by
  rw [allF] at h2
  split at h2
  ·exact allF_few ls f (k + 1) (by omega) h2
  ·rename_i h3; exact absurd h2 h3
theorem allZ_few {ls : List (List UInt8)} (h : allZ ls ≤ 300) : ls.flatten.length ≤ 300 := by
 have h2 := allF_few ls _ _ rfl h
 have e : lens ls ls.length = ls.flatten.length := by unfold lens; rw [List.take_length]
 unfold allN held at h2
 rw [e] at h2
 split at h2 <;> omega
set_option maxHeartbeats 1000000 in
theorem all_any {a : Option Addr} {n cap : Nat} {ls : List (List UInt8)} {z : Int} {w : World} (h : RdRows w a n cap ls) (hz : allZ ls = z) :
  Calls Tryz.prog 5 #[.slice a n cap, .int .i64 300] w fun e w' => e = .returned (.int .i64 z) ∧ Below w.heap.size w w' := by
 have HZ : Hid (allF ls n 0 = z) := Lib.hid (by rw [← hz, ← h.hlen]; rfl)
 clear hz
 have HL := Lib.hid h.hlen
 have HR := Lib.hid h
 have hm63 : (n : Int) ≤ 9223372036854775807 := by have := h.hcap; have := h.hmax; unfold maxLen at *; omega
 clear h
 go_enter Tryz.func5, Tryz.ntmps5
 go_wp2
 go_loopw [5, 6] (fun s i wr => ∃ k : Nat, k ≤ n ∧ i = .int .i64 k ∧ s = .int .i64 (allN ls k) ∧ allF ls (n - k) k = z ∧ Below w.heap.size w wr) (fun _ i _ => n - (intOf i).toNat)
 case atStart => exact ⟨0, by omega, rfl, rfl, HZ.out, Below.refl _ _⟩
 case round =>
  obtain ⟨k, hk, rfl, rfl, hF, hbel⟩ := hrel
  obtain ⟨hp0, hp1⟩ := allN_le ls k
  by_cases hlt : k < n
  ·by_cases h3 : allN ls k ≤ 300
   ·have hd3 : decide (allN ls k ≤ 300) = true := decide_eq_true h3
    have HF : Hid (allF ls (n - (k + 1)) (k + 1) = z) := Lib.hid (by
     rw [show n - k = (n - (k + 1)) + 1 by omega, allF, if_pos h3] at hF; exact hF)
    clear hF
    have hkl : k < ls.length := by rw [HL.out]; exact hlt
    rcases HR.out.cases with ⟨h0, _⟩ | ⟨b, o, _, rfl, hget⟩
    ·omega
    ·obtain ⟨sa, sn, sc, hc, hr⟩ := hget k hkl
     have hc2 : wr.cell? ⟨b, o + k, none⟩ = some (.slice sa sn sc) := by rw [hbel.cell (cell_lt hc)]; exact hc
     have HS : Hid (held (allN ls k + (sn : Int) + 1) = allN ls (k + 1)) := Lib.hid (by have := allN_succ hkl; rw [hr.hlen] at this; exact this)
     have hsn : (sn : Int) ≤ 9223372036854775807 := by have := hr.hcap; have := hr.hmax; unfold maxLen at *; omega
     clear hc hr hget
     generalize allN ls k = zk at *
     go_wp2_with (go_at_call 17; go_must (refine (sum2_any (x := (sn : Int)) _ (Blk.new wr #[.int .i64 (sn : Int), .int .i64 1] 3) hp0 hp1 (by omega) (by omega)).mono ?_; rintro e w1 ⟨rfl, hb⟩; (rw [HS.out]); have hbel1 := Below.call (Below.alloc' hbel _) hb; clear hb))
     go_roundw
     case rel => exact ⟨k + 1, by omega, by go_num, rfl, HF.out, hbel1⟩
     case measure => simp [intOf]; omega
   ·have hd3 : decide (allN ls k ≤ 300) = false := decide_eq_false h3
    have HF : Hid (allN ls k = z) := Lib.hid (by
     rw [show n - k = (n - (k + 1)) + 1 by omega, allF, if_neg h3] at hF; exact hF)
    clear hF
    generalize allN ls k = zk at *
    go_wp2
    go_ret
    exact ⟨by rw [← HF.out]; rfl, belowBy⟩
  ·obtain rfl : k = n := by omega
   rw [Nat.sub_self] at hF
   have HF : Hid (allN ls k = z) := Lib.hid hF
   clear hF
   generalize allN ls k = zk at *
   go_wp2
   go_ret
   exact ⟨by rw [← HF.out]; rfl, belowBy⟩
theorem gAll {v : Value} {ls : List (List UInt8)} {z : Int} {w : World} (hz : allZ ls = z) (h : (IsR ls).P v w) :
  Calls Tryz.prog 5 #[v, .int .i64 300] w fun e w' => e = .returned (.int .i64 z) ∧ Below w.heap.size w w' := by
 obtain ⟨a, n, cap, rfl, hr⟩ := h
 exact all_any hr hz
set_option maxHeartbeats 1000000 in
theorem aCat_any {a : Option Addr} {n cap : Nat} {ls : List (List UInt8)} {w : World} (h : RdRows w a n cap ls) (hs : ls.flatten.length ≤ 70368744177664) :
  Calls Tryz.prog 14 #[.slice a n cap] w fun e w' => ∃ v, e = .returned v ∧ w'.ownsRow w.heap.size 5 1 v ls.flatten.length (ls.flatten.map bV) ∧ Below w.heap.size w w' := by
 have HL := Lib.hid h.hlen
 have HS := Lib.hid hs
 have HR := Lib.hid h
 have hm63 : (n : Int) ≤ 9223372036854775807 := by have := h.hcap; have := h.hmax; unfold maxLen at *; omega
 clear h hs
 go_enter Tryz.func14, Tryz.ntmps14
 go_wp2
 go_loopw [3, 4] (fun s i wr => ∃ k : Nat, k ≤ n ∧ i = .int .i64 k ∧ wr.ownsRow w.heap.size 5 1 s (lens ls k) ((ls.take k).flatten.map bV) ∧ Below w.heap.size w wr) (fun _ i _ => n - (intOf i).toNat)
 case atStart => exact ⟨0, by omega, rfl, World.ownsRow_nil _ _ _ _, Below.refl _ _⟩
 case round =>
  obtain ⟨k, hk, rfl, ho, hbel⟩ := hrel
  by_cases hlt : k < n
  ·have hkl : k < ls.length := by rw [HL.out]; exact hlt
   rcases HR.out.cases with ⟨h0, _⟩ | ⟨b, o, _, rfl, hget⟩
   ·omega
   ·obtain ⟨sa, sn, sc, hc, hr⟩ := hget k hkl
    have hc2 : wr.cell? ⟨b, o + k, none⟩ = some (.slice sa sn sc) := by rw [hbel.cell (cell_lt hc)]; exact hc
    have e1 := lens_succ ls k hkl
    rw [hr.hlen] at e1
    have h2 := lens_le ls (k + 1)
    have hsum : lens ls k + sn ≤ 70368744177664 := by have := HS.out; omega
    have HE := Lib.hid e1
    have HF := Lib.hid (flat_succ ls k hkl)
    have HRD := Lib.hid (hr.below hbel)
    have HO := Lib.hid ho
    have HSM := Lib.hid hsum
    clear h2 e1 hc hr hget ho hsum
    go_wp2_with (at_builtin; go_must (refine app_bytes _ rfl (.tmp 11) (.tmp 15) rfl w.heap.size _ (lens ls k) ((ls.take k).flatten) rfl HO.out sa sn sc ls[k] rfl HRD.out HSM.out hbel.size w hbel ?_; intro v' w2 hown2 hbel2; have HO2 : Hid (w2.ownsRow w.heap.size 5 1 v' (lens ls (k + 1)) ((ls.take (k + 1)).flatten.map bV)) := Lib.hid (by rw [HE.out, HF.out]; exact hown2); clear hown2))
    go_roundw
    case rel => exact ⟨k + 1, by omega, by go_num, HO2.out, hbel2⟩
    case measure => simp [intOf]; omega
  ·obtain rfl : k = n := by omega
   have e : lens ls k = ls.flatten.length := by unfold lens; rw [List.take_of_length_le (by rw [HL.out]; omega)]
   rw [e, List.take_of_length_le (by rw [HL.out]; omega)] at ho
   have HO := Lib.hid ho
   clear ho e
   go_wp2
   go_ret
   exact ⟨_, rfl, HO.out, hbel⟩
theorem gACat {v : Value} {ls : List (List UInt8)} {l : List UInt8} {w : World} (h : (IsR ls).P v w) (hl : ls.flatten = l) (hs : l.length ≤ 1000000) :
  Calls Tryz.prog 14 #[v] w fun e w' => ∃ r, e = .returned r ∧ (IsB l).P r w' ∧ Below w.heap.size w w' := by
 obtain ⟨a, n, cap, rfl, hr⟩ := h
 subst hl
 exact (aCat_any hr (by omega)).mono fun _ _ ⟨v, he, ho, hb⟩ => ⟨v, he, IsB.own ho, hb⟩
end Go.Proofs.YtielgpefoameiaaGreat
namespace Go.Proofs.YtielgpefoameiaaGreat
open Go.RowKit
def hexd (c : UInt8) : Nat := if c.toNat ≤ 57 then c.toNat - 48 else c.toNat - 87
def hexc (c : UInt8) : Bool := (decide (48 ≤ c.toNat) && decide (c.toNat ≤ 57)) || (decide (97 ≤ c.toNat) && decide (c.toNat ≤ 102))
def hexB : List UInt8 → List UInt8 → Bool
 | [], [] => true
 | a :: b :: s, c :: l => hexc a && hexc b && decide (16 * hexd a + hexd b = c.toNat) && hexB s l
 | _, _ => false
theorem hexB_len : ∀ (l s : List UInt8), hexB s l = true → s.length = 2 * l.length
 | [], [], _ => rfl
 | [], _ :: _, h => by simp [hexB] at h
 | c :: l, [], h => by simp [hexB] at h
 | c :: l, [_], h => by simp [hexB] at h
 | c :: l, a :: b :: s, h => by
  simp only [hexB, Bool.and_eq_true] at h
  have := hexB_len l s h.2
  simp; omega
theorem hexB_at : ∀ (l s : List UInt8) (_ : hexB s l = true) (i : Nat) (hi : i < l.length), hexc (s.getD (2 * i) 0) = true ∧ hexc (s.getD (2 * i + 1) 0) = true ∧ 16 * hexd (s.getD (2 * i) 0) + hexd (s.getD (2 * i + 1) 0) = l[i].toNat
 | [], s, h, i, hi => by simp at hi
 | c :: l, [], h, i, hi => by simp [hexB] at h
 | c :: l, [_], h, i, hi => by simp [hexB] at h
 | c :: l, a :: b :: s, h, i, hi => by
  simp only [hexB, Bool.and_eq_true, decide_eq_true_eq] at h
  obtain ⟨⟨⟨h1, h2⟩, h3⟩, h4⟩ := h
  cases i with
  | zero => exact ⟨h1, h2, h3⟩
  | succ i =>
   have := hexB_at l s h4 i (by simpa using hi)
   rw [show 2 * (i + 1) = 2 * i + 1 + 1 by omega]
   exact this
theorem hexc_cases {c : UInt8} (h : hexc c = true) : (48 ≤ (c.toNat : Int) ∧ (c.toNat : Int) ≤ 57 ∧ (hexd c : Int) = (c.toNat : Int) - 48) ∨ (97 ≤ (c.toNat : Int) ∧ (c.toNat : Int) ≤ 102 ∧ (hexd c : Int) = (c.toNat : Int) - 97 + 10) := by
 simp only [hexc, Bool.or_eq_true, Bool.and_eq_true, decide_eq_true_eq] at h
 rcases h with ⟨h1, h2⟩ | ⟨h1, h2⟩
 ·left; refine ⟨by omega, by omega, ?_⟩; unfold hexd; rw [if_pos h2]; omega
 ·right; refine ⟨by omega, by omega, ?_⟩; unfold hexd; rw [if_neg (by omega)]; omega
set_option maxHeartbeats 1000000 in
theorem unhex_any (s : ByteArray) (l : List UInt8) (h : hexB s.data.toList l = true) (h0 : 0 < l.length) (hm : l.length ≤ 10000) (w : World) :
  Calls Tryz.prog 18 #[.string s] w fun e w' => ∃ g cap r, e = .returned (.tuple #[.slice (some ⟨g, 0, none⟩) l.length cap, .bool true]) ∧ w.heap.size ≤ g ∧ Blk w' g (l.map bV ++ r) 5 ∧ l.length ≤ cap ∧ cap ≤ maxLen ∧ Below w.heap.size w w' := by
 have hlen := hexB_len _ _ h
 have hsz : s.size = 2 * l.length := by rw [← hlen]; rfl
 have HAt := Lib.hid (hexB_at _ _ h)
 obtain ⟨n, hn⟩ : ∃ n, n = l.length := ⟨_, rfl⟩
 have hs0 : (s.size : Int) = 2 * n := by omega
 have hmod : ((2 : Int) * n).tmod 2 = 0 := by rw [Int.mul_comm, Int.mul_tmod_left]
 have HN := Lib.hid hn
 have HSZ := Lib.hid hsz
 rw [← hn] at hm h0
 clear h hlen hn hsz
 have hn0 : (0 : Int) ≤ (n : Int) := by omega
 have hn1 : (n : Int) ≤ 10000 := by omega
 go_enter Tryz.func18, Tryz.ntmps18
 go_wp2
 go_loopw [4, 5] (fun v i wr => ∃ (k : Nat) (I : Int), k ≤ n ∧ I = 2 * (k : Int) ∧ i = .int .i64 I ∧ wr.ownsRow w.heap.size 5 1 v k ((l.take k).map bV) ∧ Below w.heap.size w wr) (fun _ i _ => 2 * n - (intOf i).toNat)
 case atStart => exact ⟨0, 0, by omega, rfl, rfl, World.ownsRow_nil _ _ _ _, Below.refl _ _⟩
 case round =>
  obtain ⟨k, I, hk, hI, rfl, hown, hbel⟩ := hrel
  by_cases hlt : k < n
  ·obtain ⟨q1, q2, q3⟩ := HAt.out k (by have := HN.out; omega)
   obtain ⟨C0, hC0⟩ : ∃ C : Int, C = ((s.data.toList.getD (2 * k) 0).toNat : Int) := ⟨_, rfl⟩
   obtain ⟨C1, hC1⟩ : ∃ C : Int, C = ((s.data.toList.getD (2 * k + 1) 0).toNat : Int) := ⟨_, rfl⟩
   obtain ⟨D0, hD0⟩ : ∃ D : Int, D = (hexd (s.data.toList.getD (2 * k) 0) : Int) := ⟨_, rfl⟩
   obtain ⟨D1, hD1⟩ : ∃ D : Int, D = (hexd (s.data.toList.getD (2 * k + 1) 0) : Int) := ⟨_, rfl⟩
   have hi0 : ∀ h, ((s[I.toNat]'h).toNat : Int) = C0 := fun h => by
    rw [hC0]
    have e : I.toNat = 2 * k := by omega
    rw [List.getD_eq_getElem?_getD, List.getElem?_eq_getElem (by have := HSZ.out; have := HN.out; show 2 * k < s.size; omega)]
    simp only [e]; rfl
   have hi1 : ∀ h, ((s[(I + 1).toNat]'h).toNat : Int) = C1 := fun h => by
    rw [hC1]
    have e : (I + 1).toNat = 2 * k + 1 := by omega
    rw [List.getD_eq_getElem?_getD, List.getElem?_eq_getElem (by have := HSZ.out; have := HN.out; show 2 * k + 1 < s.size; omega)]
    simp only [e]; rfl
   obtain ⟨c, hc⟩ : ∃ c, c = l[k]'(by have := HN.out; omega) := ⟨_, rfl⟩
   rw [← hc] at q3
   have hsum : 16 * D0 + D1 = (c.toNat : Int) := by omega
   have hcl := c.toNat_lt
   have HTK : Hid (l.take (k + 1) = l.take k ++ [c]) := Lib.hid (by rw [hc, List.take_succ_eq_append_getElem])
   have k0 := hexc_cases q1
   have k1 := hexc_cases q2
   rw [← hC0, ← hD0] at k0
   rw [← hC1, ← hD1] at k1
   have t1 : 0 ≤ I := by omega
   have t2 : I + 1 < 2 * (n : Int) := by omega
   have d1 : 0 ≤ D0 := by omega
   have d2 : D0 ≤ 15 := by omega
   obtain ⟨V, hV⟩ : ∃ V, V = 16 * D0 + D1 := ⟨_, rfl⟩
   have v1 : 0 ≤ V := by omega
   have v2 : V < 256 := by omega
   have HVS := Lib.hid (show V = (c.toNat : Int) by omega)
   have HV := Lib.hid hV
   clear hV
   have HI := Lib.hid hI; have HSUM := Lib.hid hsum; have HK0 := Lib.hid k0; have HK1 := Lib.hid k1
   have t3 : I < 2 * (n : Int) := by omega
   clear hc hcl q1 q2 q3 hC0 hC1 hD0 hD1 hI hsum k0 k1
   go_wp2
   go_loop [6, 7] (fun v q => (v = .int .i64 0 ∧ q = .int .i64 0) ∨ (v = .int .i64 D0 ∧ q = .int .i64 1) ∨ (v = .int .i64 V ∧ q = .int .i64 2)) (fun _ q => (2 - intOf q).toNat)
   case atStart => exact .inl ⟨rfl, rfl⟩
   case round =>
    rcases hrel with ⟨rfl, rfl⟩ | ⟨rfl, rfl⟩ | ⟨rfl, rfl⟩
    ·rcases HK0.out with ⟨a1, a2, a3⟩ | ⟨a1, a2, a3⟩
     ·have A3 := Lib.hid a3
      clear a3
      go_wp2
      go_round
      case rel => exact .inr (.inl ⟨by rw [A3.out], rfl⟩)
      case measure => simp [intOf]
     ·have A3 := Lib.hid a3
      clear a3
      have a4 : ¬ C0 ≤ 57 := by omega
      have a5 : 48 ≤ C0 := by omega
      go_wp2
      go_round
      case rel => exact .inr (.inl ⟨by rw [A3.out], rfl⟩)
      case measure => simp [intOf]
    ·rcases HK1.out with ⟨a1, a2, a3⟩ | ⟨a1, a2, a3⟩
     ·have A3 := Lib.hid a3
      clear a3
      go_wp2
      go_round
      case rel => exact .inr (.inr ⟨by rw [HV.out, A3.out], rfl⟩)
      case measure => simp [intOf]
     ·have A3 := Lib.hid a3
      clear a3
      have a4 : ¬ C1 ≤ 57 := by omega
      have a5 : 48 ≤ C1 := by omega
      go_wp2
      go_round
      case rel => exact .inr (.inr ⟨by rw [HV.out, A3.out]; go_num, rfl⟩)
      case measure => simp [intOf]
    ·clear hi0 hi1
     have HO := Lib.hid hown
     clear hown
     have hRD : ∀ W : World, ∀ g, g = W.heap.size → RdB (W.alloc (.cells #[.int .u8 V] 5)) (some ⟨g, 0, none⟩) 1 1 [c] := fun W g hg => by
      subst hg
      rw [HVS.out]
      exact RdB.blk (l := [c]) [] (Blk.new W #[bV c] 5) rfl (by omega) (by unfold maxLen; omega)
     have HR := Lib.hid hRD
     clear hRD
     go_wp2_with (at_builtin; refine app_bytes _ rfl (.tmp 55) (.tmp 58) rfl w.heap.size _ k (l.take k) rfl (own_below HO.out belowBy) _ 1 1 [c] rfl (HR.out _ _ rfl) (by omega) (by have := hbel.size; simp; omega) w belowBy ?_; intro v' w2 hown2 hbel2; have HO2 : Hid (w2.ownsRow w.heap.size 5 1 v' (k + 1) ((l.take (k + 1)).map bV)) := Lib.hid (by rw [HTK.out]; exact hown2); clear hown2)
     go_roundw
     case rel => exact ⟨k + 1, I + 2, by omega, by rw [HI.out]; omega, rfl, HO2.out, hbel2⟩
     case measure => simp [intOf]; omega
  ·obtain rfl : k = n := by omega
   rw [List.take_of_length_le (by rw [← HN.out]; omega)] at hown
   obtain ⟨g, cap, r, rfl, hg, hB, hl, hc, hm'⟩ := own_rdb hown h0
   have t9 : ¬ I < 2 * (k : Int) := by omega
   have HB := Lib.hid hB
   have HI := Lib.hid hI
   clear hB hown hI hlt hl
   go_wp2
   go_ret2
   exact ⟨g, cap, by rw [HN.out]; rfl, hg, ⟨r, HB.out⟩, by rw [← HN.out]; exact hc, hm', hbel⟩
end Go.Proofs.YtielgpefoameiaaGreat
namespace Go.Proofs.YtielgpefoameiaaGreat
open Go Go.RowKit
theorem gPublicW {v : Value} {w : World} {seed : List UInt8} (h : (IsB seed).P v w) (hl : seed.length = 32) :
  Calls Tryz.prog 7 #[v] w fun e w' => ∃ r, e = .returned r ∧ (TwV (IsB (edPub seed)) (.int .i64 0)).P r w' ∧ Below w.heap.size w w' :=
 (gPublic h hl).mono fun _ _ ⟨r, he, hr, hb⟩ => ⟨_, he, ⟨r, rfl, hr⟩, hb⟩
theorem gVerifyC {v0 v1 v2 : Value} {pub sig l : List UInt8} {ls : List (List UInt8)} {c : Int} {w : World} (hp : (IsB pub).P v0 w) (hs : (IsB sig).P v1 w) (h1 : (IsR ls).P v2 w) (hl : ls.flatten = l) (hm : l.length ≤ 100000) (hc : verC pub sig l = c) :
  Calls Tryz.prog 15 #[v0, v1, v2] w fun e w' => e = .returned (.int .i64 c) ∧ Below w.heap.size w w' := by subst hc; exact gVerify hp hs h1 hl hm
theorem gUnhex {s : ByteArray} {l : List UInt8} {w : World} (h : hexB s.data.toList l = true) (h0 : 0 < l.length) (hm : l.length ≤ 10000) :
  Calls Tryz.prog 18 #[.string s] w fun e w' => ∃ r, e = .returned r ∧ (TwV (IsB l) (.bool true)).P r w' ∧ Below w.heap.size w w' := by
 refine (unhex_any s l h h0 hm w).mono ?_
 rintro e w' ⟨g, c, r, rfl, _, hB, h1, h2, hb⟩
 exact ⟨_, rfl, ⟨_, rfl, IsB.mk (RdB.blk r hB rfl h1 h2)⟩, hb⟩
set_option maxHeartbeats 4000000 in
theorem law9awake_any (w : World) :
  Calls Tryz.prog 6 #[] w fun e w' => e = .returned (.bool true) ∧ Below w.heap.size w w' := by
 obtain ⟨SD, hK⟩ : ∃ SD, SD = awSeed := ⟨_, rfl⟩
 have HK := Lib.hid hK
 have HP : Hid ((edPub SD).take 4 = [215, 90, 152, 1]) := Lib.hid (by rw [hK]; exact aw_pub)
 have HKL : Hid (SD.length = 32) := Lib.hid (by rw [hK]; rfl)
 clear hK
 go_enter Tryz.func6, Tryz.ntmps6
 have hbel : Below w.heap.size w w := Below.refl _ _
 have hbel0 := hbel
 go_upto_region 0 with fail
 refine rgT [(0, 0)] [.oth (fun v => v = .bool false)] ?_ ?_
 ·intro hs
  refine ⟨?_, trivial⟩
  ·exact mvK hs fun _ => rfl
 intro L0 u0 W0 hall hJ hG
 have hb := hJ.all rfl
 have hbel := Below.call hbel hb
 have HC0 := oC (.bool false) hG 0
 have hbel0 := hbel
 clear hJ hG hall hb
 go_upto_region 1 with fail
 refine rgT [(1, 4), (0, 5), (4, 1), (0, 0), (0, 2), (0, 3)] [.wld (TwV (IsB SD) (.bool true)) none, .wld (TwV (IsB SD) (.bool true)) none, .wld (IsB SD) none, .oth (fun v => v = .bool true), .wld (IsB SD) none, .oth (fun v => v = .bool true)] ?_ ?_
 ·intro hs
  refine ⟨?_, ?_, ?_, ?_, ?_, ?_, trivial⟩
  ·refine step_callP hs Wn rfl fun L u W hJ hG hL hdep K hK => ?_
   go_simp
   go_at_call 18
   (with_reducible refine (gUnhex (l := SD) (by rw [HK.out]; decide +kernel) (by rw [HKL.out]; omega) (by rw [HKL.out]; omega)).mono ?_); rintro e w1 ⟨r, rfl, hr, hb⟩
   exact hK.out _ _ hr hb
  ·exact step_runP hs Wn rfl fun L u W hJ hG hL hdep => run_moveP (.inl rfl) (hW (TwV (IsB SD) (.bool true)) hG hdep 0)
  ·exact step_runP hs Wn rfl fun L u W hJ hG hL hdep => run_tw0 rfl (hW (TwV (IsB SD) (.bool true)) hG hdep 1)
  ·exact step_runO hs Wn rfl fun L u W hJ hG hL hdep => run_tw1 rfl (hW (TwV (IsB SD) (.bool true)) hG hdep 1)
  ·exact step_runP hs Wn rfl fun L u W hJ hG hL hdep => run_moveP (.inr rfl) (hW (IsB SD) hG hdep 2)
  ·exact mvO 3 hs
 intro L1 u1 W1 hall hJ hG
 have hb := hJ.all rfl
 have hbel := Below.call hbel hb
 have hw1 := oW (IsB SD) hG 4
 have HC10 := oC (.bool true) hG 3
 have HC2 := oC (.bool true) hG 5
 have hbel0 := hbel
 clear hJ hG hall hb
 go_upto_region 2 with fail
 refine rgT [(3, 5), (0, 6), (6, 2), (0, 0), (0, 1), (0, 3), (0, 4)] [.wld (IsB SD) none, .wld (TwV (IsB (edPub SD)) (.int .i64 0)) none, .wld (TwV (IsB (edPub SD)) (.int .i64 0)) none, .wld (IsB (edPub SD)) none, .oth (fun v => v = .int .i64 0), .wld (IsB (edPub SD)) none, .oth (fun v => v = .int .i64 0)] ?_ ?_
 ·intro hs
  refine ⟨?_, ?_, ?_, ?_, ?_, ?_, ?_, trivial⟩
  ·exact step_runP hs Wn rfl fun L u W hJ hG hL hdep => run_moveP (.inl rfl) ((IsB SD).st _ _ _ hw1 (hJ.all rfl))
  ·refine step_callP hs Wn rfl fun L u W hJ hG hL hdep K hK => ?_
   go_simp
   go_at_call 7
   (with_reducible refine (gPublicW (holds_wld (φ := IsB SD) (hG 0 (hdep 0 (by kernel_rfl))) rfl till_none) (HKL.out)).mono ?_); rintro e w1 ⟨r, rfl, hr, hb⟩
   exact hK.out _ _ hr hb
  ·exact step_runP hs Wn rfl fun L u W hJ hG hL hdep => run_moveP (.inl rfl) (hW (TwV (IsB (edPub SD)) (.int .i64 0)) hG hdep 1)
  ·exact step_runP hs Wn rfl fun L u W hJ hG hL hdep => run_tw0 rfl (hW (TwV (IsB (edPub SD)) (.int .i64 0)) hG hdep 2)
  ·exact step_runO hs Wn rfl fun L u W hJ hG hL hdep => run_tw1 rfl (hW (TwV (IsB (edPub SD)) (.int .i64 0)) hG hdep 2)
  ·exact step_runP hs Wn rfl fun L u W hJ hG hL hdep => run_moveP (.inr rfl) (hW (IsB (edPub SD)) hG hdep 3)
  ·exact mvO 4 hs
 intro L2 u2 W2 hall hJ hG
 have hb := hJ.all rfl
 have hbel := Below.call hbel hb
 have hw1 := (IsB SD).st _ _ _ hw1 hb
 have hw3 := oW (IsB (edPub SD)) hG 5
 have HC4 := oC (.int .i64 0) hG 6
 have hbel0 := hbel
 clear hJ hG hall hb
 go_upto_region 3 with fail
 refine rgT [(5, 4), (0, 5), (9, 1), (0, 0), (0, 2), (0, 3)] [.oth (fun v => v = .tuple #[.slice none 0 0, .int .i64 1]), .oth (fun v => v = .tuple #[.slice none 0 0, .int .i64 1]), .oth (fun v => v = .slice none 0 0), .oth (fun v => v = .int .i64 1), .oth (fun v => v = .slice none 0 0), .oth (fun v => v = .int .i64 1)] ?_ ?_
 ·intro hs
  refine ⟨?_, ?_, ?_, ?_, ?_, ?_, trivial⟩
  ·refine step_callO hs Wn rfl fun L u W hJ hG hL hdep K hK => ?_
   go_simp
   go_at_call 8
   (with_reducible refine (gSign_no (l := ([])) (IsB.nil W) (IsR.nil W) (rfl) (by simp) (N := 0) rfl (by omega)).mono ?_); rintro e w1 ⟨rfl, hb⟩
   exact hK.out _ _ rfl hb
  ·exact mvO 0 hs
  ·refine step_pureO hs Wn rfl fun L u W hG hdep => ⟨_, ?_, rfl⟩
   have e0 := (oE (.tuple #[.slice none 0 0, .int .i64 1]) hG hdep 1)
   unfold execOp
   go_simp
  ·refine step_pureO hs Wn rfl fun L u W hG hdep => ⟨_, ?_, rfl⟩
   have e0 := (oE (.tuple #[.slice none 0 0, .int .i64 1]) hG hdep 1)
   unfold execOp
   go_simp
  ·exact mvO 2 hs
  ·exact mvO 3 hs
 intro L3 u3 W3 hall hJ hG
 have hb := hJ.all rfl
 have hbel := Below.call hbel hb
 have hw1 := (IsB SD).st _ _ _ hw1 hb
 have hw3 := (IsB (edPub SD)).st _ _ _ hw3 hb
 have HC6 := oC (.int .i64 1) hG 5
 have hbel0 := hbel
 clear hJ hG hall hb
 go_upto_region 4 with fail
 refine rgT [(0, 17), (19, 0), (0, 1), (0, 2), (0, 3), (0, 4), (0, 5), (0, 6), (0, 7), (0, 8), (0, 9), (0, 10), (0, 11), (0, 12), (0, 13), (0, 14), (0, 15), (0, 16)] [.oth (fun v => v = .int .i64 0), .oth (fun v => v = .bool true), .oth (fun v => v = .bool true), .wld (IsB (edPub SD)) none, .oth (fun v => v = .int .i64 32), .oth (fun v => v = .bool true), .oth (fun v => v = .bool true), .oth (fun v => v = .bool true), .wld (IsB (edPub SD)) none, .wld (IsB ((edPub SD).take 4)) none, .oth (fun v => v = (.string (bs ((edPub SD).take 4)))), .oth (fun v => v = .bool true), .oth (fun v => v = .bool true), .oth (fun v => v = .bool true), .oth (fun v => v = .int .i64 1), .oth (fun v => v = .bool true), .oth (fun v => v = .bool true), .oth (fun v => v = .bool true)] ?_ ?_
 ·intro hs
  refine ⟨?_, ?_, ?_, ?_, ?_, ?_, ?_, ?_, ?_, ?_, ?_, ?_, ?_, ?_, ?_, ?_, ?_, ?_, trivial⟩
  ·exact mvK hs fun _ => HC4.out
  ·refine step_pureO hs Wn rfl fun L u W hG hdep => ⟨_, ?_, rfl⟩
   have e0 := (oE (.int .i64 0) hG hdep 0)
   go_simp
   try simp [bne]
  ·exact mvO 1 hs
  ·exact step_runP hs (wants_on 2 rfl rfl (by kernel_rfl) (fun _ => rfl)) rfl fun L u W hJ hG hL hdep => run_moveP (.inl rfl) ((IsB (edPub SD)).st _ _ _ hw3 (hJ.all rfl))
  ·exact step_runO hs (wants_on 2 rfl rfl (by kernel_rfl) (fun _ => rfl)) rfl fun L u W hJ hG hL hdep => run_lenP rfl (hW (IsB (edPub SD)) hG hdep 3) (by rw [edPub_len]; rfl)
  ·refine step_pureO hs (wants_on 2 rfl rfl (by kernel_rfl) (fun _ => rfl)) rfl fun L u W hG hdep => ⟨_, ?_, rfl⟩
   have e0 := (oE (.int .i64 32) hG hdep 4)
   go_simp
   try simp [bne]
  ·exact step_pick true hs Wn rfl rfl (fun L u W hG hdep => (oE (.bool true) hG hdep 2)) (fun L u W hG hdep => (oE (.bool true) hG hdep 5))
  ·exact mvO 6 hs
  ·exact step_runP hs (wants_on 7 rfl rfl (by kernel_rfl) (fun _ => rfl)) rfl fun L u W hJ hG hL hdep => run_moveP (.inl rfl) ((IsB (edPub SD)).st _ _ _ hw3 (hJ.all rfl))
  ·exact step_runP hs (wants_on 7 rfl rfl (by kernel_rfl) (fun _ => rfl)) rfl fun L u W hJ hG hL hdep => run_toP (k := 4) rfl rfl (hW (IsB (edPub SD)) hG hdep 8) (by have h9 : ((edPub SD).length : Int) = 32 := (by rw [edPub_len]; rfl); omega)
  ·exact step_runO hs (wants_on 7 rfl rfl (by kernel_rfl) (fun _ => rfl)) rfl fun L u W hJ hG hL hdep => run_convP rfl (hW (IsB ((edPub SD).take 4)) hG hdep 9)
  ·exact step_pureO hs (wants_on 7 rfl rfl (by kernel_rfl) (fun _ => rfl)) rfl fun L u W hG hdep => ⟨_, run_eqlS rfl (oE ((.string (bs ((edPub SD).take 4)))) hG hdep 10) rfl, by rw [HP.out]; simp⟩
  ·exact step_pick true hs Wn rfl rfl (fun L u W hG hdep => (oE (.bool true) hG hdep 7)) (fun L u W hG hdep => (oE (.bool true) hG hdep 11))
  ·exact mvO 12 hs
  ·exact step_pureO hs (wants_on 13 rfl rfl (by kernel_rfl) (fun _ => rfl)) rfl fun L u W hG hdep => ⟨_, run_move rfl, HC6.out⟩
  ·refine step_pureO hs (wants_on 13 rfl rfl (by kernel_rfl) (fun _ => rfl)) rfl fun L u W hG hdep => ⟨_, ?_, rfl⟩
   have e0 := (oE (.int .i64 1) hG hdep 14)
   go_simp
   try simp [bne]
  ·exact step_pick true hs Wn rfl rfl (fun L u W hG hdep => (oE (.bool true) hG hdep 13)) (fun L u W hG hdep => (oE (.bool true) hG hdep 15))
  ·exact mvO 16 hs
 intro L4 u4 W4 hall hJ hG
 have hb := hJ.all rfl
 have hbel := Below.call hbel hb
 have hw1 := (IsB SD).st _ _ _ hw1 hb
 have hw3 := (IsB (edPub SD)).st _ _ _ hw3 hb
 have HC21 := oC (.bool true) hG 1
 have HC22 := oC (.bool true) hG 2
 have HC25 := oC (.bool true) hG 5
 have HC26 := oC (.bool true) hG 6
 have HC27 := oC (.bool true) hG 7
 have HC31 := oC (.bool true) hG 11
 have HC32 := oC (.bool true) hG 12
 have HC33 := oC (.bool true) hG 13
 have HC35 := oC (.bool true) hG 15
 have HC36 := oC (.bool true) hG 16
 have HC0 := oC (.bool true) hG 17
 have hbel0 := hbel
 clear hJ hG hall hb
 go_wp2
 go_ret
 exact ⟨by rw [HC0.out]; rfl, hbel⟩
theorem rot_int2 (x : UInt64) (n m : Nat) (A B : Int) (h : 64 - n = m) (hA : ((2 ^ m : Nat) : Int) = A) (hB : ((2 ^ n : Nat) : Int) = B) : bits BinOp.or IntKind.u64 ((x.toNat : Int) / B) (IntKind.u64.wrap ((x.toNat : Int) * A)) = ((rotr x n).toNat : Int) := by
 subst h hA hB
 unfold rotr
 rw [← uo_int, ← usl_int, ← ush_int]
 simp
set_option maxHeartbeats 400000 in
theorem rrot_1 {x : UInt64} (w : World) : Calls Tryz.prog 76 #[.int .u64 (x.toNat : Int), .int .i64 1] w fun e w' => e = .returned (.int .u64 ((rotr x 1).toNat : Int)) ∧ Below w.heap.size w w' := by
 have HE := Lib.hid (rot_int2 x 1 63 9223372036854775808 2 rfl rfl rfl)
 go_enter Tryz.func76, Tryz.ntmps76
 go_wp2
 go_region
 go_wp2
 go_ret
 exact ⟨ret_int HE.out, (Below.refl _ _).drew⟩
set_option maxHeartbeats 400000 in
theorem rrot_8 {x : UInt64} (w : World) : Calls Tryz.prog 76 #[.int .u64 (x.toNat : Int), .int .i64 8] w fun e w' => e = .returned (.int .u64 ((rotr x 8).toNat : Int)) ∧ Below w.heap.size w w' := by
 have HE := Lib.hid (rot_int2 x 8 56 72057594037927936 256 rfl rfl rfl)
 go_enter Tryz.func76, Tryz.ntmps76
 go_wp2
 go_region
 go_wp2
 go_ret
 exact ⟨ret_int HE.out, (Below.refl _ _).drew⟩
set_option maxHeartbeats 400000 in
theorem rrot_19 {x : UInt64} (w : World) : Calls Tryz.prog 76 #[.int .u64 (x.toNat : Int), .int .i64 19] w fun e w' => e = .returned (.int .u64 ((rotr x 19).toNat : Int)) ∧ Below w.heap.size w w' := by
 have HE := Lib.hid (rot_int2 x 19 45 35184372088832 524288 rfl rfl rfl)
 go_enter Tryz.func76, Tryz.ntmps76
 go_wp2
 go_region
 go_wp2
 go_ret
 exact ⟨ret_int HE.out, (Below.refl _ _).drew⟩
set_option maxHeartbeats 400000 in
theorem rrot_61 {x : UInt64} (w : World) : Calls Tryz.prog 76 #[.int .u64 (x.toNat : Int), .int .i64 61] w fun e w' => e = .returned (.int .u64 ((rotr x 61).toNat : Int)) ∧ Below w.heap.size w w' := by
 have HE := Lib.hid (rot_int2 x 61 3 8 2305843009213693952 rfl rfl rfl)
 go_enter Tryz.func76, Tryz.ntmps76
 go_wp2
 go_region
 go_wp2
 go_ret
 exact ⟨ret_int HE.out, (Below.refl _ _).drew⟩
set_option maxHeartbeats 400000 in
theorem rrot_14 {x : UInt64} (w : World) : Calls Tryz.prog 76 #[.int .u64 (x.toNat : Int), .int .i64 14] w fun e w' => e = .returned (.int .u64 ((rotr x 14).toNat : Int)) ∧ Below w.heap.size w w' := by
 have HE := Lib.hid (rot_int2 x 14 50 1125899906842624 16384 rfl rfl rfl)
 go_enter Tryz.func76, Tryz.ntmps76
 go_wp2
 go_region
 go_wp2
 go_ret
 exact ⟨ret_int HE.out, (Below.refl _ _).drew⟩
set_option maxHeartbeats 400000 in
theorem rrot_18 {x : UInt64} (w : World) : Calls Tryz.prog 76 #[.int .u64 (x.toNat : Int), .int .i64 18] w fun e w' => e = .returned (.int .u64 ((rotr x 18).toNat : Int)) ∧ Below w.heap.size w w' := by
 have HE := Lib.hid (rot_int2 x 18 46 70368744177664 262144 rfl rfl rfl)
 go_enter Tryz.func76, Tryz.ntmps76
 go_wp2
 go_region
 go_wp2
 go_ret
 exact ⟨ret_int HE.out, (Below.refl _ _).drew⟩
set_option maxHeartbeats 400000 in
theorem rrot_41 {x : UInt64} (w : World) : Calls Tryz.prog 76 #[.int .u64 (x.toNat : Int), .int .i64 41] w fun e w' => e = .returned (.int .u64 ((rotr x 41).toNat : Int)) ∧ Below w.heap.size w w' := by
 have HE := Lib.hid (rot_int2 x 41 23 8388608 2199023255552 rfl rfl rfl)
 go_enter Tryz.func76, Tryz.ntmps76
 go_wp2
 go_region
 go_wp2
 go_ret
 exact ⟨ret_int HE.out, (Below.refl _ _).drew⟩
set_option maxHeartbeats 400000 in
theorem rrot_28 {x : UInt64} (w : World) : Calls Tryz.prog 76 #[.int .u64 (x.toNat : Int), .int .i64 28] w fun e w' => e = .returned (.int .u64 ((rotr x 28).toNat : Int)) ∧ Below w.heap.size w w' := by
 have HE := Lib.hid (rot_int2 x 28 36 68719476736 268435456 rfl rfl rfl)
 go_enter Tryz.func76, Tryz.ntmps76
 go_wp2
 go_region
 go_wp2
 go_ret
 exact ⟨ret_int HE.out, (Below.refl _ _).drew⟩
set_option maxHeartbeats 400000 in
theorem rrot_34 {x : UInt64} (w : World) : Calls Tryz.prog 76 #[.int .u64 (x.toNat : Int), .int .i64 34] w fun e w' => e = .returned (.int .u64 ((rotr x 34).toNat : Int)) ∧ Below w.heap.size w w' := by
 have HE := Lib.hid (rot_int2 x 34 30 1073741824 17179869184 rfl rfl rfl)
 go_enter Tryz.func76, Tryz.ntmps76
 go_wp2
 go_region
 go_wp2
 go_ret
 exact ⟨ret_int HE.out, (Below.refl _ _).drew⟩
set_option maxHeartbeats 400000 in
theorem rrot_39 {x : UInt64} (w : World) : Calls Tryz.prog 76 #[.int .u64 (x.toNat : Int), .int .i64 39] w fun e w' => e = .returned (.int .u64 ((rotr x 39).toNat : Int)) ∧ Below w.heap.size w w' := by
 have HE := Lib.hid (rot_int2 x 39 25 33554432 549755813888 rfl rfl rfl)
 go_enter Tryz.func76, Tryz.ntmps76
 go_wp2
 go_region
 go_wp2
 go_ret
 exact ⟨ret_int HE.out, (Below.refl _ _).drew⟩
set_option maxHeartbeats 400000 in
theorem rgetbig_any {a : Option Addr} {n cap : Nat} {l : List UInt8} {x : UInt64} {w : World} (h : RdB w a n cap l) (hx : beW (first l 8) = x) :
  Calls Tryz.prog 75 #[.slice a n cap, .int .i64 8] w fun e w' => e = .returned (.int .u64 (x.toNat : Int)) ∧ Below w.heap.size w w' := by
 have HL := Lib.hid h.hlen
 have HG := Lib.hid h
 have HE := Lib.hid (beW_beK l)
 have HX := Lib.hid hx
 have hmx : (n : Int) ≤ 9223372036854775807 := by have := h.hcap; have := h.hmax; unfold maxLen at *; omega
 clear h hx
 go_enter Tryz.func75, Tryz.ntmps75
 go_wp2
 go_loop [5, 6] (fun v i => ∃ k : Nat, k ≤ 8 ∧ i = .int .i64 k ∧ v = .int .u64 (beK l k : Nat)) (fun _ i => 8 - (intOf i).toNat)
 case atStart => exact ⟨0, by omega, rfl, by rw [show beK l 0 = 0 from by simp [beK, first, leN]]; rfl⟩
 case round =>
  obtain ⟨k, hk, rfl, rfl⟩ := hrel
  by_cases hlt : k < 8
  ·have e1 := beK_succ l k
   have h2 : beK l k < 72057594037927936 := Nat.lt_of_lt_of_le (beK_lt l k) (Nat.le_trans (Nat.pow_le_pow_right (by omega) (show k ≤ 7 by omega)) (by decide))
   have HB := Lib.hid e1
   clear e1
   generalize beK l k = m at *
   have hw : IntKind.u64.wrap ((m : Int) * 256) = (m : Int) * 256 := by rw [IntKind.wrap_u64]; omega
   by_cases hkn : k < n
   ·have hkl : k < l.length := by rw [HL.out]; exact hkn
    obtain ⟨b, o, rfl, hc⟩ := HG.out.get k hkl
    have hor := orByte m l[k].toNat h2 l[k].toNat_lt
    have HB2 : Hid (((beK l (k + 1) : Nat) : Int) = (m : Int) * 256 + (l[k].toNat : Int)) := Lib.hid (by rw [HB.out, List.getD_eq_getElem?_getD, List.getElem?_eq_getElem hkl, Option.getD_some]; omega)
    have hwc : IntKind.u64.wrap (l[k].toNat : Int) = (l[k].toNat : Int) := by have := l[k].toNat_lt; rw [IntKind.wrap_u64]; omega
    unfold bV at hc
    clear HB h2
    go_wp2
    go_round
    case rel => exact ⟨k + 1, by omega, by go_num, by rw [HB2.out]⟩
    case measure => simp [intOf]; omega
   ·have HB2 : Hid (((beK l (k + 1) : Nat) : Int) = (m : Int) * 256) := Lib.hid (by rw [HB.out, List.getD_eq_getElem?_getD, List.getElem?_eq_none (by rw [HL.out]; omega)]; simp)
    clear HB h2
    go_wp2
    go_round
    case rel => exact ⟨k + 1, by omega, by go_num, by rw [HB2.out]⟩
    case measure => simp [intOf]; omega
  ·obtain rfl : k = 8 := by omega
   go_wp2
   go_ret
   exact ⟨ret_int (by rw [← HE.out, HX.out]), Below.refl _ _⟩
theorem rmake8 (w : World) : (Instr.makeSlice 22 (.int .i64 8) (.int .i64 8)).run Tryz.prog w = .ok (.slice (some ⟨w.heap.size, 0, none⟩) 8 8) (w.alloc (.cells ((List.replicate 8 (0 : UInt8)).map bV).toArray 5)) := by kernel_rfl
def bigV (x : Nat) (k i : Nat) : Value := if 8 - k ≤ i then .int .u8 ((x / 2 ^ (8 * (7 - i)) % 256 : Nat) : Int) else .int .u8 0
theorem bigV_start (x : Nat) : (List.replicate 8 (0 : UInt8)).map bV = row 8 (bigV x 0) := by
 apply List.ext_getElem
 ·simp [row]
 ·intro i h1 h2
  have hi : i < 8 := by simpa [row] using h2
  simp only [row, List.getElem_map, List.getElem_range, List.getElem_replicate]
  unfold bigV
  rw [if_neg (by omega)]; rfl
theorem bigV_step (x k : Nat) (hk : k < 8) : (row 8 (bigV x k)).set (7 - k) (.int .u8 ((x / 2 ^ (8 * k) % 256 : Nat) : Int)) = row 8 (bigV x (k + 1)) := by
 refine row_set (7 - k) _ (by simp only [bigV]; rw [if_pos (by omega), show 7 - (7 - k) = k by omega]) (fun i _ hi => ?_)
 unfold bigV
 by_cases h : 8 - k ≤ i
 ·rw [if_pos h, if_pos (by omega)]
 ·rw [if_neg h, if_neg (by omega)]
theorem bigV_end (x : UInt64) : row 8 (bigV x.toNat 8) = (be8 x).map bV := by
 apply List.ext_getElem
 ·simp [row, be8, leB_len]
 ·intro i h1 h2
  have hi : i < 8 := by simpa [row] using h1
  simp only [row, List.getElem_map, List.getElem_range]
  unfold bigV be8
  rw [if_pos (by omega), List.getElem_reverse, leB_get]
  unfold bV
  rw [UInt8.toNat_ofNat', leB_len, show 8 - 1 - i = 7 - i by omega]
theorem shr8 (x : UInt64) (k : Nat) : IntKind.u8.wrap ((x.toNat : Int) / ((2 ^ (8 * k) : Nat) : Int)) = ((x.toNat / 2 ^ (8 * k) % 256 : Nat) : Int) := by
 rw [IntKind.wrap_u8]; omega
set_option maxHeartbeats 1000000 in
theorem rbig_any {x : UInt64} (w : World) :
  Calls Tryz.prog 74 #[.int .u64 (x.toNat : Int), .int .i64 8] w fun e w' => e = .returned (.slice (some ⟨w.heap.size, 0, none⟩) 8 8) ∧ Blk w' w.heap.size ((be8 x).map bV) 5 ∧ Below w.heap.size w w' := by
 have hmk := rmake8
 have hS := Blk.new w ((List.replicate 8 (0 : UInt8)).map bV).toArray 5
 rw [List.toList_toArray, bigV_start x.toNat] at hS
 have HS := Lib.hid hS
 clear hS
 go_enter Tryz.func74, Tryz.ntmps74
 go_wp2
 go_loopw [6] (fun i wr => ∃ k : Nat, k ≤ 8 ∧ i = .int .i64 k ∧ Blk wr w.heap.size (row 8 (bigV x.toNat k)) 5 ∧ Below w.heap.size w wr) (fun i _ => 8 - (intOf i).toNat)
 case atStart => exact ⟨0, by omega, rfl, HS.out, (Below.refl _ _).alloc (Nat.le_refl _) _⟩
 case round =>
  obtain ⟨k, hk, rfl, hB, hb⟩ := hrel
  clear hmk
  by_cases hlt : k < 8
  ·have hk8 : k = 0 ∨ k = 1 ∨ k = 2 ∨ k = 3 ∨ k = 4 ∨ k = 5 ∨ k = 6 ∨ k = 7 := by omega
   have hx := shr8 x k
   have hx0 : k = 0 → (x.toNat : Int) % 256 = ((x.toNat / 2 ^ (8 * k) % 256 : Nat) : Int) := by rintro rfl; simp
   have hst := bigV_step x.toNat k hlt
   have hf := hB.frozen (7 - k)
   have hc := hB.at (k := 7 - k) (by omega)
   unfold bigV at hc
   rw [if_neg (by omega)] at hc
   have HB := Lib.hid (hst ▸ hB.set (7 - k) (.int .u8 ((x.toNat / 2 ^ (8 * k) % 256 : Nat) : Int)))
   have Hb := Lib.hid (hb.setCell (p := ⟨w.heap.size, 7 - k, none⟩) (Nat.le_refl _) (.int .u8 ((x.toNat / 2 ^ (8 * k) % 256 : Nat) : Int)))
   clear hB hb hst
   generalize x.toNat / 2 ^ (8 * k) % 256 = c at *
   rcases hk8 with rfl | rfl | rfl | rfl | rfl | rfl | rfl | rfl
   ·have hx0 := hx0 rfl
    simp only [Nat.reduceMul, Nat.reducePow, Nat.reduceSub, Int.cast_ofNat_Int] at hx hc hf HB Hb
    go_wp2
    go_roundw
    case rel => exact ⟨1, by omega, by go_num, HB.out, Hb.out⟩
    case measure => simp [intOf]
   ·clear hx0
    simp only [Nat.reduceMul, Nat.reducePow, Nat.reduceSub, Int.cast_ofNat_Int] at hx hc hf HB Hb
    go_wp2
    go_roundw
    case rel => exact ⟨2, by omega, by go_num, HB.out, Hb.out⟩
    case measure => simp [intOf]
   ·clear hx0
    simp only [Nat.reduceMul, Nat.reducePow, Nat.reduceSub, Int.cast_ofNat_Int] at hx hc hf HB Hb
    go_wp2
    go_roundw
    case rel => exact ⟨3, by omega, by go_num, HB.out, Hb.out⟩
    case measure => simp [intOf]
   ·clear hx0
    simp only [Nat.reduceMul, Nat.reducePow, Nat.reduceSub, Int.cast_ofNat_Int] at hx hc hf HB Hb
    go_wp2
    go_roundw
    case rel => exact ⟨4, by omega, by go_num, HB.out, Hb.out⟩
    case measure => simp [intOf]
   ·clear hx0
    simp only [Nat.reduceMul, Nat.reducePow, Nat.reduceSub, Int.cast_ofNat_Int] at hx hc hf HB Hb
    go_wp2
    go_roundw
    case rel => exact ⟨5, by omega, by go_num, HB.out, Hb.out⟩
    case measure => simp [intOf]
   ·clear hx0
    simp only [Nat.reduceMul, Nat.reducePow, Nat.reduceSub, Int.cast_ofNat_Int] at hx hc hf HB Hb
    go_wp2
    go_roundw
    case rel => exact ⟨6, by omega, by go_num, HB.out, Hb.out⟩
    case measure => simp [intOf]
   ·clear hx0
    simp only [Nat.reduceMul, Nat.reducePow, Nat.reduceSub, Int.cast_ofNat_Int] at hx hc hf HB Hb
    go_wp2
    go_roundw
    case rel => exact ⟨7, by omega, by go_num, HB.out, Hb.out⟩
    case measure => simp [intOf]
   ·clear hx0
    simp only [Nat.reduceMul, Nat.reducePow, Nat.reduceSub, Int.cast_ofNat_Int] at hx hc hf HB Hb
    go_wp2
    go_roundw
    case rel => exact ⟨8, by omega, by go_num, HB.out, Hb.out⟩
    case measure => simp [intOf]
  ·obtain rfl : k = 8 := by omega
   rw [bigV_end] at hB
   go_wp2
   go_ret
   exact ⟨rfl, hB, hb⟩
set_option maxHeartbeats 1000000 in
theorem r1Cat_any {a : Option Addr} {n cap : Nat} {ls : List (List UInt8)} {w : World} (h : RdRows w a n cap ls) (hs : ls.flatten.length ≤ 70368744177664) :
  Calls Tryz.prog 37 #[.slice a n cap] w fun e w' => ∃ v, e = .returned v ∧ w'.ownsRow w.heap.size 5 1 v ls.flatten.length (ls.flatten.map bV) ∧ Below w.heap.size w w' := by
 have HL := Lib.hid h.hlen
 have HS := Lib.hid hs
 have HR := Lib.hid h
 have hm63 : (n : Int) ≤ 9223372036854775807 := by have := h.hcap; have := h.hmax; unfold maxLen at *; omega
 clear h hs
 go_enter Tryz.func37, Tryz.ntmps37
 go_wp2
 go_loopw [3, 4] (fun s i wr => ∃ k : Nat, k ≤ n ∧ i = .int .i64 k ∧ wr.ownsRow w.heap.size 5 1 s (lens ls k) ((ls.take k).flatten.map bV) ∧ Below w.heap.size w wr) (fun _ i _ => n - (intOf i).toNat)
 case atStart => exact ⟨0, by omega, rfl, World.ownsRow_nil _ _ _ _, Below.refl _ _⟩
 case round =>
  obtain ⟨k, hk, rfl, ho, hbel⟩ := hrel
  by_cases hlt : k < n
  ·have hkl : k < ls.length := by rw [HL.out]; exact hlt
   rcases HR.out.cases with ⟨h0, _⟩ | ⟨b, o, _, rfl, hget⟩
   ·omega
   ·obtain ⟨sa, sn, sc, hc, hr⟩ := hget k hkl
    have hc2 : wr.cell? ⟨b, o + k, none⟩ = some (.slice sa sn sc) := by rw [hbel.cell (cell_lt hc)]; exact hc
    have e1 := lens_succ ls k hkl
    rw [hr.hlen] at e1
    have h2 := lens_le ls (k + 1)
    have hsum : lens ls k + sn ≤ 70368744177664 := by have := HS.out; omega
    have HE := Lib.hid e1
    have HF := Lib.hid (flat_succ ls k hkl)
    have HRD := Lib.hid (hr.below hbel)
    have HO := Lib.hid ho
    have HSM := Lib.hid hsum
    clear h2 e1 hc hr hget ho hsum
    go_wp2_with (at_builtin; go_must (refine app_bytes _ rfl (.tmp 11) (.tmp 15) rfl w.heap.size _ (lens ls k) ((ls.take k).flatten) rfl HO.out sa sn sc ls[k] rfl HRD.out HSM.out hbel.size w hbel ?_; intro v' w2 hown2 hbel2; have HO2 : Hid (w2.ownsRow w.heap.size 5 1 v' (lens ls (k + 1)) ((ls.take (k + 1)).flatten.map bV)) := Lib.hid (by rw [HE.out, HF.out]; exact hown2); clear hown2))
    go_roundw
    case rel => exact ⟨k + 1, by omega, by go_num, HO2.out, hbel2⟩
    case measure => simp [intOf]; omega
  ·obtain rfl : k = n := by omega
   have e : lens ls k = ls.flatten.length := by unfold lens; rw [List.take_of_length_le (by rw [HL.out]; omega)]
   rw [e, List.take_of_length_le (by rw [HL.out]; omega)] at ho
   have HO := Lib.hid ho
   clear ho e
   go_wp2
   go_ret
   exact ⟨_, rfl, HO.out, hbel⟩
theorem gRCat {v : Value} {ls : List (List UInt8)} {l : List UInt8} {w : World} (h : (IsR ls).P v w) (hl : ls.flatten = l) (hs : l.length ≤ 1000000) :
  Calls Tryz.prog 37 #[v] w fun e w' => ∃ r, e = .returned r ∧ (IsB l).P r w' ∧ Below w.heap.size w w' := by
 obtain ⟨a, n, cap, rfl, hr⟩ := h
 subst hl
 exact (r1Cat_any hr (by omega)).mono fun _ _ ⟨v, he, ho, hb⟩ => ⟨v, he, IsB.own ho, hb⟩
end Go.Proofs.YtielgpefoameiaaGreat
