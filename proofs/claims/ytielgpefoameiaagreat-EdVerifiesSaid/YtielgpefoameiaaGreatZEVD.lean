/- What EV rests on, part 4 of 6: my own texts, put together (merge.py). -/
import Derived.Deep.RegionHeld3
import Derived.WalkKit
import Derived.ProofKit
import Derived.Lib.Hide
import Derived.OpenShut
import Derived.Deep.MidRow
import Derived.Test.YtielgpefoameiaaGreatRows
import Derived.WalkSpells
import Derived.StillTactics
import Derived.Laws.Pointers
import Derived.Laws.CopyOwn
import Derived.Laws.AppendOwnNone
import Derived.RowKit3
import Derived.BigQuiet
import Derived.Deep.QuietTactic
import Derived.Deep.LoopGhost
import Derived.Deep.DeepFit
import Derived.WalkLawsBesides
import Derived.Shelf.Spec.BitsCarry
import Derived.Laws.IdiomStrings
import Derived.Deep.WholeRow
import Derived.Laws.Rows
import Derived.Deep.DeepCutAuto
import Derived.Lib.AppendZerosOnto
import Derived.Lib.SliceRun
import Derived.Deep.Matrix
import Derived.Deep.AppendLies
import Derived.ShutString
import Derived.ChangeOld
import Derived.Test.YtielgpefoameiaaGreatZEVC
set_option maxRecDepth 100000
namespace Go.Proofs.YtielgpefoameiaaGreat
open Go Go.RowKit
set_option maxHeartbeats 4000000 in
theorem cPoint {v0 v1 : Value} {x y : F} (h0 : IsFs rE v0 [x]) (h1 : IsFs rE v1 [y]) (w : World) :
  Calls Tryz.prog 95 #[v0, v1] w fun e w' => ∃ r, e = .returned r ∧ IsFs rE r [x, y, fn 1, x * y] ∧ Below w.heap.size w w' := by
 go_enter Tryz.func95, Tryz.ntmps95
 have hbel : Below w.heap.size w w := Below.refl _ _
 have hbel0 := hbel
 go_upto_region 0 with fail
 refine rgT [(2, 0), (0, 1), (0, 2)] [.box rE [x], .box rE [y], .new 20] ?_ ?_
 ·intro hs
  refine ⟨?_, ?_, ?_, trivial⟩
  ·exact step_box hs Wn rfl rfl (gives_c h0 (fun _ => rfl))
  ·exact step_box hs Wn rfl rfl (gives_c h1 (fun _ => rfl))
  ·exact step_alloc hs Wn rfl rfl (by omega) rfl allocP
 intro L0 u0 W0 hall hJ hG
 obtain ⟨q2, e2, ⟨hq2, _⟩, ht2, hm2⟩ := oB 5 rE [x] hG 0
 have hq2 : w.heap.size ≤ q2 := by have := hbel0.size; omega
 have E2 := Lib.hid e2; clear e2
 obtain ⟨q3, e3, ⟨hq3, _⟩, ht3, hm3⟩ := oB 5 rE [y] hG 1
 have hq3 : w.heap.size ≤ q3 := by have := hbel0.size; omega
 have E3 := Lib.hid e3; clear e3
 obtain ⟨q4, e4, hq4, _, ht4⟩ := oN 20 hG 2
 have hq4 : w.heap.size ≤ q4 := by have := hbel0.size; omega
 have E4 := Lib.hid e4; clear e4
 have hb := hJ.all rfl
 have hbel := Below.call hbel hb
 have HN2_4 := Lib.hid (show q2 ≠ q4 from fun e => hJ.apart 0 2 _ (by omega) (hall _ (by simp)) (hall _ (by simp)) rfl rfl (E2.out.trans (by rw [e])) E4.out)
 have HN3_4 := Lib.hid (show q3 ≠ q4 from fun e => hJ.apart 1 2 _ (by omega) (hall _ (by simp)) (hall _ (by simp)) rfl rfl (E3.out.trans (by rw [e])) E4.out)
 have hbel0 := hbel
 clear hJ hG hall hb
 go_upto_region 1 with fail
 refine rgM [(5, 0), (0, 1), (0, 2), (0, 3), (0, 4), (0, 5), (0, 6)] [.val rE [x], .val rE [y], .val rE [fn 1], .val rE [x], .val rE [y], .val rE [x * y], .val rE [x, y, fn 1, x * y], .sto q4 rE [x, y, fn 1, x * y]] ?_ ?_
 ·intro hs
  refine ⟨?_, ?_, ?_, ?_, ?_, ?_, ?_, ?_, trivial⟩
  ·exact step_load q2 0 hs Wn rfl rfl tyE (fun _ => E2.out) hm2.lt hm2 (apN (Ne.symm HN2_4.out))
  ·exact step_load q3 0 hs Wn rfl rfl tyE (fun _ => E3.out) hm3.lt hm3 (apN (Ne.symm HN3_4.out))
  ·refine step_call hs Wn rfl fun L u W hJ hG hL hdep K hK => ?_
   go_simp
   go_at_call 89
   (with_reducible refine (cSmallI (n := 1) (z := 1) rfl (by omega) _).mono ?_); rintro e w1 ⟨r, rfl, hr, hb⟩
   exact hK.out _ _ hr hb
  ·exact step_load q2 0 hs Wn rfl rfl tyE (fun _ => E2.out) hm2.lt hm2 (apN (Ne.symm HN2_4.out))
  ·exact step_load q3 0 hs Wn rfl rfl tyE (fun _ => E3.out) hm3.lt hm3 (apN (Ne.symm HN3_4.out))
  ·refine step_call hs Wn rfl fun L u W hJ hG hL hdep K hK => ?_
   have a0 := (vE rE [x] hG hdep 3)
   have a1 := (vE rE [y] hG hdep 4)
   go_simp
   go_at_call 63
   (with_reducible refine (cMul a0 a1 _).mono ?_); rintro e w1 ⟨r, rfl, hr, hb⟩
   exact hK.out _ _ hr hb
  ·refine step_pure hs Wn rfl fun L u W hG hdep => ?_
   have a0 := (vE rE [x] hG hdep 0)
   have a1 := (vE rE [y] hG hdep 1)
   have a2 := (vE rE [fn 1] hG hdep 2)
   have a3 := (vE rE [x * y] hG hdep 5)
   obtain ⟨r, hr, hx⟩ := build_P a0 a1 a2 a3 W
   exact ⟨r, run_build4 rfl hr, hx⟩
  ·refine step_storeO q4 20 hs Wn rfl rfl (by kernel_rfl) (fun k hk => ?_) (fun _ => E4.out) (there_lt ht4 (by omega)) ht4 (gO 6) tyP4 rfl
   rcases k with _ | _ | _ | _ | _ | _ | _ | _ | k
   all_goals first | (exact absurd rfl hk) | (intro e; cases e; done)
 intro L1 u1 W1 hall hJ hG
 have hb := hJ.beN hbel
 have hbel := hbel.trans hb
 have hm2 := kC hm2 hJ HN2_4.out
 have hm3 := kC hm3 hJ HN3_4.out
 have ht2 := tC ht2 hJ HN2_4.out
 have ht3 := tC ht3 hJ HN3_4.out
 obtain ⟨_, hs1_7t, hs1_7⟩ := oT 20 rE [x, y, fn 1, x * y] hG 7
 have hbel0 := hbel
 clear hJ hG hall hb
 go_wp2
 exact ret_cell1 (R := rE) Tryz.results95 (by exact E4.out) hs1_7 tyP4 rfl (fun r hr => ⟨r, rfl, hr, hbel⟩)
set_option maxHeartbeats 4000000 in
theorem ready_no {v0 : Value} {x y z t : F} (h0 : IsFs rE v0 [x, y, z, t]) (hz : z ≠ 0) (w : World) :
  Calls Tryz.prog 58 #[v0] w fun e w' => ∃ r, e = .returned r ∧ IsFs rE r [x, y, z, t] ∧ Below w.heap.size w w' := by
 have HZ := Lib.hid hz; clear hz
 go_enter Tryz.func58, Tryz.ntmps58
 have hbel : Below w.heap.size w w := Below.refl _ _
 have hbel0 := hbel
 go_upto_region 0 with fail
 refine rgT [(1, 0), (0, 1)] [.box rE [x, y, z, t], .new 20] ?_ ?_
 ·intro hs
  refine ⟨?_, ?_, trivial⟩
  ·exact step_box hs Wn rfl rfl (gives_c h0 (fun _ => rfl))
  ·exact step_alloc hs Wn rfl rfl (by omega) rfl allocP
 intro L0 u0 W0 hall hJ hG
 obtain ⟨q1, e1, ⟨hq1, _⟩, ht1, hm1⟩ := oB 20 rE [x, y, z, t] hG 0
 have hq1 : w.heap.size ≤ q1 := by have := hbel0.size; omega
 have E1 := Lib.hid e1; clear e1
 obtain ⟨q2, e2, hq2, _, ht2⟩ := oN 20 hG 1
 have hq2 : w.heap.size ≤ q2 := by have := hbel0.size; omega
 have E2 := Lib.hid e2; clear e2
 have hb := hJ.all rfl
 have hbel := Below.call hbel hb
 have HN1_2 := Lib.hid (show q1 ≠ q2 from fun e => hJ.apart 0 1 _ (by omega) (hall _ (by simp)) (hall _ (by simp)) rfl rfl (E1.out.trans (by rw [e])) E2.out)
 have hbel0 := hbel
 clear hJ hG hall hb
 go_upto_region 1 with fail
 refine rgT [(3, 0), (0, 1), (0, 2), (0, 3)] [.ptr q1 10, .val rE [z], .val rE [0], .oth (fun v => v = .bool false)] ?_ ?_
 ·intro hs
  refine ⟨?_, ?_, ?_, ?_, trivial⟩
  ·exact step_field hs Wn rfl rfl (fun _ => E1.out) (field_P2 _)
  ·exact step_loadF 0 q1 10 hs Wn rfl rfl tyE (fun _ => rfl) rfl (by kernel_rfl) hm1.lt (hm1.fld 2 1) Na
  ·exact step_pure hs Wn rfl fun L u W hG hdep => run_build0 rfl (buildE0 W)
  ·refine step_callO hs Wn rfl fun L u W hJ hG hL hdep K hK => ?_
   have a0 := (vE rE [z] hG hdep 1)
   have a1 := (vE rE [0] hG hdep 2)
   go_simp
   go_at_call 94
   (with_reducible refine (cSame (b := false) (decide_eq_false HZ.out) a0 a1 _).mono ?_); rintro e w1 ⟨rfl, hb⟩
   exact hK.out _ _ rfl hb
 intro L1 u1 W1 hall hJ hG
 have hb := hJ.all rfl
 have hbel := Below.call hbel hb
 have hm1 := hm1.later hb
 have ht1 := there_later ht1 hb
 have ht2 := there_later ht2 hb
 have HC6 := oC (.bool false) hG 3
 have hbel0 := hbel
 clear hJ hG hall hb
 have hx : u1 3 = .bool false := HC6.out
 go_wp2_with fail
 rw [hx]
 clear hx
 go_upto_region 3 with fail
 refine rgT [(10, 0)] [.val rE [x, y, z, t], .sto q2 rE [x, y, z, t]] ?_ ?_
 ·intro hs
  refine ⟨?_, ?_, trivial⟩
  ·exact step_load q1 0 hs Wn rfl rfl tyP4 (fun _ => E1.out) hm1.lt hm1 (apN (Ne.symm HN1_2.out))
  ·refine step_storeO q2 20 hs Wn rfl rfl (by kernel_rfl) (fun k hk => ?_) (fun _ => E2.out) (there_lt ht2 (by omega)) ht2 (gO 0) tyP4 rfl
   rcases k with _ | _ | k
   all_goals first | (exact absurd rfl hk) | (intro e; cases e; done)
 intro L3 u3 W3 hall hJ hG
 have hb := hJ.beN hbel
 have hbel := hbel.trans hb
 have hm1 := kC hm1 hJ HN1_2.out
 have ht1 := tC ht1 hJ HN1_2.out
 obtain ⟨_, hs3_1t, hs3_1⟩ := oT 20 rE [x, y, z, t] hG 1
 have hbel0 := hbel
 clear hJ hG hall hb
 go_wp2
 exact ret_cell1 (R := rE) Tryz.results58 (by exact E2.out) hs3_1 tyP4 rfl (fun r hr => ⟨r, rfl, hr, hbel⟩)
set_option maxHeartbeats 4000000 in
theorem ready_yes {v0 : Value} {x y t : F} (h0 : IsFs rE v0 [x, y, 0, t]) (w : World) :
  Calls Tryz.prog 58 #[v0] w fun e w' => ∃ r, e = .returned r ∧ IsFs rE r [0, fn 1, fn 1, 0 * fn 1] ∧ Below w.heap.size w w' := by
 go_enter Tryz.func58, Tryz.ntmps58
 have hbel : Below w.heap.size w w := Below.refl _ _
 have hbel0 := hbel
 go_upto_region 0 with fail
 refine rgT [(1, 0), (0, 1)] [.box rE [x, y, 0, t], .new 20] ?_ ?_
 ·intro hs
  refine ⟨?_, ?_, trivial⟩
  ·exact step_box hs Wn rfl rfl (gives_c h0 (fun _ => rfl))
  ·exact step_alloc hs Wn rfl rfl (by omega) rfl allocP
 intro L0 u0 W0 hall hJ hG
 obtain ⟨q1, e1, ⟨hq1, _⟩, ht1, hm1⟩ := oB 20 rE [x, y, 0, t] hG 0
 have hq1 : w.heap.size ≤ q1 := by have := hbel0.size; omega
 have E1 := Lib.hid e1; clear e1
 obtain ⟨q2, e2, hq2, _, ht2⟩ := oN 20 hG 1
 have hq2 : w.heap.size ≤ q2 := by have := hbel0.size; omega
 have E2 := Lib.hid e2; clear e2
 have hb := hJ.all rfl
 have hbel := Below.call hbel hb
 have HN1_2 := Lib.hid (show q1 ≠ q2 from fun e => hJ.apart 0 1 _ (by omega) (hall _ (by simp)) (hall _ (by simp)) rfl rfl (E1.out.trans (by rw [e])) E2.out)
 have hbel0 := hbel
 clear hJ hG hall hb
 go_upto_region 1 with fail
 refine rgT [(3, 0), (0, 1), (0, 2), (0, 3)] [.ptr q1 10, .val rE [0], .val rE [0], .oth (fun v => v = .bool true)] ?_ ?_
 ·intro hs
  refine ⟨?_, ?_, ?_, ?_, trivial⟩
  ·exact step_field hs Wn rfl rfl (fun _ => E1.out) (field_P2 _)
  ·exact step_loadF 0 q1 10 hs Wn rfl rfl tyE (fun _ => rfl) rfl (by kernel_rfl) hm1.lt (hm1.fld 2 1) Na
  ·exact step_pure hs Wn rfl fun L u W hG hdep => run_build0 rfl (buildE0 W)
  ·refine step_callO hs Wn rfl fun L u W hJ hG hL hdep K hK => ?_
   have a0 := (vE rE [0] hG hdep 1)
   have a1 := (vE rE [0] hG hdep 2)
   go_simp
   go_at_call 94
   (with_reducible refine (cSame (b := true) (decide_eq_true rfl) a0 a1 _).mono ?_); rintro e w1 ⟨rfl, hb⟩
   exact hK.out _ _ rfl hb
 intro L1 u1 W1 hall hJ hG
 have hb := hJ.all rfl
 have hbel := Below.call hbel hb
 have hm1 := hm1.later hb
 have ht1 := there_later ht1 hb
 have ht2 := there_later ht2 hb
 have HC6 := oC (.bool true) hG 3
 have hbel0 := hbel
 clear hJ hG hall hb
 have hx : u1 3 = .bool true := HC6.out
 go_wp2_with fail
 rw [hx]
 clear hx
 go_upto_region 2 with fail
 refine rgT [(7, 0), (0, 1), (0, 2)] [.val rE [0], .val rE [fn 1], .val rE [0, fn 1, fn 1, 0 * (fn 1)], .sto q2 rE [0, fn 1, fn 1, 0 * (fn 1)]] ?_ ?_
 ·intro hs
  refine ⟨?_, ?_, ?_, ?_, trivial⟩
  ·exact step_pure hs Wn rfl fun L u W hG hdep => run_build0 rfl (buildE0 W)
  ·refine step_call hs Wn rfl fun L u W hJ hG hL hdep K hK => ?_
   go_simp
   go_at_call 89
   (with_reducible refine (cSmallI (n := 1) (z := 1) rfl (by omega) _).mono ?_); rintro e w1 ⟨r, rfl, hr, hb⟩
   exact hK.out _ _ hr hb
  ·refine step_call hs Wn rfl fun L u W hJ hG hL hdep K hK => ?_
   have a0 := (vE rE [0] hG hdep 0)
   have a1 := (vE rE [fn 1] hG hdep 1)
   go_simp
   go_at_call 95
   (with_reducible refine (cPoint a0 a1 _).mono ?_); rintro e w1 ⟨r, rfl, hr, hb⟩
   exact hK.out _ _ hr hb
  ·refine step_storeO q2 20 hs Wn rfl rfl (by kernel_rfl) (fun k hk => ?_) (fun _ => E2.out) (there_lt ht2 (by omega)) ht2 (gO 2) tyP4 rfl
   rcases k with _ | _ | _ | _ | k
   all_goals first | (exact absurd rfl hk) | (intro e; cases e; done)
 intro L2 u2 W2 hall hJ hG
 have hb := hJ.beN hbel
 have hbel := hbel.trans hb
 have hm1 := kC hm1 hJ HN1_2.out
 have ht1 := tC ht1 hJ HN1_2.out
 obtain ⟨_, hs2_3t, hs2_3⟩ := oT 20 rE [0, fn 1, fn 1, 0 * (fn 1)] hG 3
 have hbel0 := hbel
 clear hJ hG hall hb
 go_wp2
 exact ret_cell1 (R := rE) Tryz.results58 (by exact E2.out) hs2_3 tyP4 rfl (fun r hr => ⟨r, rfl, hr, hbel⟩)
theorem cReady {v : Value} {P : EP} (h : IsFs rP v [P]) (w : World) :
  Calls Tryz.prog 58 #[v] w fun e w' => ∃ r, e = .returned r ∧ IsFs rPr r [P] ∧ Below w.heap.size w w' := by
 obtain ⟨x, y, z, t, hn, hp⟩ := of_isP h
 rcases hp with hp | ⟨rfl, rfl⟩
 ·exact (ready_no hn hp.p.z w).mono fun _ _ ⟨r, he, hr, hb⟩ => ⟨r, he, isPr hr hp, hb⟩
 ·exact (ready_yes hn w).mono fun _ _ ⟨r, he, hr, hb⟩ => ⟨r, he, isPr hr (by rw [show (0 : F) * fn 1 = 0 by decide +kernel, show fn 1 = (1 : F) from rfl]; exact Pext.zero), hb⟩
theorem d_is : -fn 121665 * finv (fn 121666) = dE := by
 have h1 := dE_eq
 have h2 : fn 121665 + 1 = fn 121666 := by decide +kernel
 rw [h2] at h1
 have h3 := finv_mul (x := fn 121666) (by decide +kernel)
 rw [← h1]
 generalize finv (fn 121666) = u at *
 generalize fn 121666 = v at *
 generalize dE = d at *
 clear h1 h2
 grind
set_option maxHeartbeats 4000000 in
theorem d_any  (w : World) :
  Calls Tryz.prog 91 #[] w fun e w' => ∃ r, e = .returned r ∧ IsFs rE r [-fn 121665 * finv (fn 121666)] ∧ Below w.heap.size w w' := by
 go_enter Tryz.func91, Tryz.ntmps91
 have hbel : Below w.heap.size w w := Below.refl _ _
 have hbel0 := hbel
 go_upto_region 0 with fail
 refine rgT [(0, 0)] [.new 5] ?_ ?_
 ·intro hs
  refine ⟨?_, trivial⟩
  ·exact step_alloc hs Wn rfl rfl (by omega) rfl allocE
 intro L0 u0 W0 hall hJ hG
 obtain ⟨q0, e0, hq0, _, ht0⟩ := oN 5 hG 0
 have hq0 : w.heap.size ≤ q0 := by have := hbel0.size; omega
 have E0 := Lib.hid e0; clear e0
 have hb := hJ.all rfl
 have hbel := Below.call hbel hb
 have hbel0 := hbel
 clear hJ hG hall hb
 go_upto_region 1 with fail
 refine rgT [(1, 0), (0, 1), (0, 2), (0, 3), (0, 4)] [.val rE [fn 121665], .val rE [-(fn 121665)], .val rE [fn 121666], .val rE [finv (fn 121666)], .val rE [(-(fn 121665)) * (finv (fn 121666))], .sto q0 rE [(-(fn 121665)) * (finv (fn 121666))]] ?_ ?_
 ·intro hs
  refine ⟨?_, ?_, ?_, ?_, ?_, ?_, trivial⟩
  ·refine step_call hs Wn rfl fun L u W hJ hG hL hdep K hK => ?_
   go_simp
   go_at_call 89
   (with_reducible refine (cSmallI (n := 121665) (z := 121665) rfl (by omega) _).mono ?_); rintro e w1 ⟨r, rfl, hr, hb⟩
   exact hK.out _ _ hr hb
  ·refine step_call hs Wn rfl fun L u W hJ hG hL hdep K hK => ?_
   have a0 := (vE rE [fn 121665] hG hdep 0)
   go_simp
   go_at_call 97
   (with_reducible refine (cNeg a0 _).mono ?_); rintro e w1 ⟨r, rfl, hr, hb⟩
   exact hK.out _ _ hr hb
  ·refine step_call hs Wn rfl fun L u W hJ hG hL hdep K hK => ?_
   go_simp
   go_at_call 89
   (with_reducible refine (cSmallI (n := 121666) (z := 121666) rfl (by omega) _).mono ?_); rintro e w1 ⟨r, rfl, hr, hb⟩
   exact hK.out _ _ hr hb
  ·refine step_call hs Wn rfl fun L u W hJ hG hL hdep K hK => ?_
   have a0 := (vE rE [fn 121666] hG hdep 2)
   go_simp
   go_at_call 62
   (with_reducible refine (cInv a0 _).mono ?_); rintro e w1 ⟨r, rfl, hr, hb⟩
   exact hK.out _ _ hr hb
  ·refine step_call hs Wn rfl fun L u W hJ hG hL hdep K hK => ?_
   have a0 := (vE rE [-(fn 121665)] hG hdep 1)
   have a1 := (vE rE [finv (fn 121666)] hG hdep 3)
   go_simp
   go_at_call 63
   (with_reducible refine (cMul a0 a1 _).mono ?_); rintro e w1 ⟨r, rfl, hr, hb⟩
   exact hK.out _ _ hr hb
  ·refine step_storeO q0 5 hs Wn rfl rfl (by kernel_rfl) (fun k hk => ?_) (fun _ => E0.out) (there_lt ht0 (by omega)) ht0 (gO 4) tyE rfl
   rcases k with _ | _ | _ | _ | _ | _ | k
   all_goals first | (exact absurd rfl hk) | (intro e; cases e; done)
 intro L1 u1 W1 hall hJ hG
 have hb := hJ.beN hbel
 have hbel := hbel.trans hb
 obtain ⟨_, hs1_5t, hs1_5⟩ := oT 5 rE [(-(fn 121665)) * (finv (fn 121666))] hG 5
 have hbel0 := hbel
 clear hJ hG hall hb
 go_wp2
 exact ret_cell1 (R := rE) Tryz.results91 (by exact E0.out) hs1_5 tyE rfl (fun r hr => ⟨r, rfl, hr, hbel⟩)
theorem cD (w : World) : Calls Tryz.prog 91 #[] w fun e w' => ∃ r, e = .returned r ∧ IsFs rE r [dE] ∧ Below w.heap.size w w' := by
 have h := d_any w
 rw [d_is] at h
 exact h
def twB : List UInt8 := [0x59, 0xf1, 0xb2, 0x26, 0x94, 0x9b, 0xd6, 0xeb, 0x56, 0xb1, 0x83, 0x82, 0x9a, 0x14, 0xe0, 0x00, 0x30, 0xd1, 0xf3, 0xee, 0xf2, 0x80, 0x8e, 0x19, 0xe7, 0xfc, 0xdf, 0x56, 0xdc, 0xd9, 0x06, 0x24]
theorem twB_is : feF twB = dE2 := by decide +kernel
theorem twB_len : twB.length = 32 := rfl
theorem twB_cells : [.int .u8 89, .int .u8 241, .int .u8 178, .int .u8 38, .int .u8 148, .int .u8 155, .int .u8 214, .int .u8 235, .int .u8 86, .int .u8 177, .int .u8 131, .int .u8 130, .int .u8 154, .int .u8 20, .int .u8 224, .int .u8 0, .int .u8 48, .int .u8 209, .int .u8 243, .int .u8 238, .int .u8 242, .int .u8 128, .int .u8 142, .int .u8 25, .int .u8 231, .int .u8 252, .int .u8 223, .int .u8 86, .int .u8 220, .int .u8 217, .int .u8 6, .int .u8 36] = twB.map bV := by simp [twB, bV]
theorem twB_run (w : World) : (Instr.build 67 #[(0, .int .u8 89), (1, .int .u8 241), (2, .int .u8 178), (3, .int .u8 38), (4, .int .u8 148), (5, .int .u8 155), (6, .int .u8 214), (7, .int .u8 235), (8, .int .u8 86), (9, .int .u8 177), (10, .int .u8 131), (11, .int .u8 130), (12, .int .u8 154), (13, .int .u8 20), (14, .int .u8 224), (15, .int .u8 0), (16, .int .u8 48), (17, .int .u8 209), (18, .int .u8 243), (19, .int .u8 238), (20, .int .u8 242), (21, .int .u8 128), (22, .int .u8 142), (23, .int .u8 25), (24, .int .u8 231), (25, .int .u8 252), (26, .int .u8 223), (27, .int .u8 86), (28, .int .u8 220), (29, .int .u8 217), (30, .int .u8 6), (31, .int .u8 36)]).run Tryz.prog w = .ok (.agg #[.int .u8 89, .int .u8 241, .int .u8 178, .int .u8 38, .int .u8 148, .int .u8 155, .int .u8 214, .int .u8 235, .int .u8 86, .int .u8 177, .int .u8 131, .int .u8 130, .int .u8 154, .int .u8 20, .int .u8 224, .int .u8 0, .int .u8 48, .int .u8 209, .int .u8 243, .int .u8 238, .int .u8 242, .int .u8 128, .int .u8 142, .int .u8 25, .int .u8 231, .int .u8 252, .int .u8 223, .int .u8 86, .int .u8 220, .int .u8 217, .int .u8 6, .int .u8 36]) w := by kernel_rfl
theorem twB_build {a : Act} {o : Oper} {w : World} (ho : o.op = .build 67 #[(0, .const (.int .u8 89)), (1, .const (.int .u8 241)), (2, .const (.int .u8 178)), (3, .const (.int .u8 38)), (4, .const (.int .u8 148)), (5, .const (.int .u8 155)), (6, .const (.int .u8 214)), (7, .const (.int .u8 235)), (8, .const (.int .u8 86)), (9, .const (.int .u8 177)), (10, .const (.int .u8 131)), (11, .const (.int .u8 130)), (12, .const (.int .u8 154)), (13, .const (.int .u8 20)), (14, .const (.int .u8 224)), (15, .const (.int .u8 0)), (16, .const (.int .u8 48)), (17, .const (.int .u8 209)), (18, .const (.int .u8 243)), (19, .const (.int .u8 238)), (20, .const (.int .u8 242)), (21, .const (.int .u8 128)), (22, .const (.int .u8 142)), (23, .const (.int .u8 25)), (24, .const (.int .u8 231)), (25, .const (.int .u8 252)), (26, .const (.int .u8 223)), (27, .const (.int .u8 86)), (28, .const (.int .u8 220)), (29, .const (.int .u8 217)), (30, .const (.int .u8 6)), (31, .const (.int .u8 36))]) : ∃ v, (execOp a.eval o).run Tryz.prog w = .ok (.value v) w ∧ IsFs rB32 v [twB] := by
 refine ⟨.agg #[.int .u8 89, .int .u8 241, .int .u8 178, .int .u8 38, .int .u8 148, .int .u8 155, .int .u8 214, .int .u8 235, .int .u8 86, .int .u8 177, .int .u8 131, .int .u8 130, .int .u8 154, .int .u8 20, .int .u8 224, .int .u8 0, .int .u8 48, .int .u8 209, .int .u8 243, .int .u8 238, .int .u8 242, .int .u8 128, .int .u8 142, .int .u8 25, .int .u8 231, .int .u8 252, .int .u8 223, .int .u8 86, .int .u8 220, .int .u8 217, .int .u8 6, .int .u8 36], ?_, _, rfl, Lims.single (R := rB32) ⟨twB_len, twB_cells⟩⟩
 unfold execOp
 simp only [ho]
 simp [Act.eval, twB_run]
set_option maxHeartbeats 4000000 in
theorem cTwice  (w : World) :
  Calls Tryz.prog 59 #[] w fun e w' => ∃ r, e = .returned r ∧ IsFs rE r [dE2] ∧ Below w.heap.size w w' := by
 go_enter Tryz.func59, Tryz.ntmps59
 have hbel : Below w.heap.size w w := Below.refl _ _
 have hbel0 := hbel
 go_upto_region 0 with fail
 refine rgT [(0, 0)] [.new 5] ?_ ?_
 ·intro hs
  refine ⟨?_, trivial⟩
  ·exact step_alloc hs Wn rfl rfl (by omega) rfl allocE
 intro L0 u0 W0 hall hJ hG
 obtain ⟨q0, e0, hq0, _, ht0⟩ := oN 5 hG 0
 have hq0 : w.heap.size ≤ q0 := by have := hbel0.size; omega
 have E0 := Lib.hid e0; clear e0
 have hb := hJ.all rfl
 have hbel := Below.call hbel hb
 have hbel0 := hbel
 clear hJ hG hall hb
 go_upto_region 1 with fail
 refine rgT [(1, 1), (0, 0)] [.val rB32 [twB], .new 32, .st 1 rB32 [twB]] ?_ ?_
 ·intro hs
  refine ⟨?_, ?_, ?_, trivial⟩
  ·exact step_pure hs Wn rfl fun L u W hG hdep => twB_build rfl
  ·exact step_alloc hs Wn rfl rfl (by omega) rfl alloca32
  ·exact step_store 1 hs (by kernel_rfl) Wn rfl rfl rfl (by kernel_rfl) (by kernel_rfl) (by kernel_rfl) (by kernel_rfl) (fun _ => rfl) (gO 0) tya32 rfl
 intro L1 u1 W1 hall hJ hG
 obtain ⟨q1, e1, hq1, _, ht1⟩ := oN 32 hG 1
 have hm1 := oS rB32 [twB] hG 2 e1
 have HD1_q0 := Lib.hid (show q0 ≠ q1 by have := there_lt ht0 (by omega); omega)
 have hq1 : w.heap.size ≤ q1 := by have := hbel0.size; omega
 have E1 := Lib.hid e1; clear e1
 have hb := hJ.all rfl
 have hbel := Below.call hbel hb
 have ht0 := there_later ht0 hb
 have hbel0 := hbel
 clear hJ hG hall hb
 go_upto_region 2 with fail
 refine rgT [(3, 0), (0, 1)] [.oth (fun v => v = .slice (some ⟨q1, 0, none⟩) 32 32), .val rE [dE2], .sto q0 rE [dE2]] ?_ ?_
 ·intro hs
  refine ⟨?_, ?_, ?_, trivial⟩
  ·refine step_pureO hs Wn rfl fun L u W hG hdep => ⟨_, ?_, rfl⟩
   have e0 := E1.out
   go_simp
  ·refine step_call hs Wn rfl fun L u W hJ hG hL hdep K hK => ?_
   have x0 := (oE (.slice (some ⟨q1, 0, none⟩) 32 32) hG hdep 0)
   have hRB0 := (hm1.blk (hJ.block _ hm1.lt (fun k hk => by rcases k with _ | _ | _ | k <;> first | (cases hk; done) | (cases hk; exact absurd rfl HD1_q0.out)))).rdb
   go_simp
   go_at_call 110
   (with_reducible refine (cOf' twB_is hRB0).mono ?_); rintro e w1 ⟨r, rfl, hr, hb⟩
   have hk := hK.out _ _ hr hb
   simp only [x0] at hk
   exact hk
  ·refine step_storeO q0 5 hs Wn rfl rfl (by kernel_rfl) (fun k hk => ?_) (fun _ => E0.out) (there_lt ht0 (by omega)) ht0 (gO 1) tyE rfl
   rcases k with _ | _ | _ | k
   all_goals first | (exact absurd rfl hk) | (intro e; cases e; done)
 intro L2 u2 W2 hall hJ hG
 have hb := hJ.beN hbel
 have hbel := hbel.trans hb
 have hm1 := kB hm1 hJ HD1_q0.out
 have ht1 := tB ht1 hJ HD1_q0.out
 obtain ⟨_, hs2_2t, hs2_2⟩ := oT 5 rE [dE2] hG 2
 have hbel0 := hbel
 clear hJ hG hall hb
 go_wp2
 exact ret_cell1 (R := rE) Tryz.results59 (by exact E0.out) hs2_2 tyE rfl (fun r hr => ⟨r, rfl, hr, hbel⟩)
set_option maxHeartbeats 4000000 in
theorem sum_any {v0 v1 v2 : Value} {X Y Z T X' Y' Z' T' D : F} (h0 : IsFs rE v0 [X, Y, Z, T]) (h1 : IsFs rE v1 [X', Y', Z', T']) (h2 : IsFs rE v2 [D]) (w : World) :
  Calls Tryz.prog 60 #[v0, v1, v2] w fun e w' => ∃ r, e = .returned r ∧ IsFs rE r [(((Y + X) * (Y' + X')) - ((Y - X) * (Y' - X'))) * (((Z * Z') + (Z * Z')) - ((T * D) * T')), (((Z * Z') + (Z * Z')) + ((T * D) * T')) * (((Y + X) * (Y' + X')) + ((Y - X) * (Y' - X'))), (((Z * Z') + (Z * Z')) - ((T * D) * T')) * (((Z * Z') + (Z * Z')) + ((T * D) * T')), (((Y + X) * (Y' + X')) - ((Y - X) * (Y' - X'))) * (((Y + X) * (Y' + X')) + ((Y - X) * (Y' - X')))] ∧ Below w.heap.size w w' := by
 go_enter Tryz.func60, Tryz.ntmps60
 have hbel : Below w.heap.size w w := Below.refl _ _
 have hbel0 := hbel
 go_upto_region 0 with fail
 refine rgT [(3, 0), (0, 1), (0, 2), (0, 3)] [.box rE [X, Y, Z, T], .box rE [X', Y', Z', T'], .box rE [D], .new 20] ?_ ?_
 ·intro hs
  refine ⟨?_, ?_, ?_, ?_, trivial⟩
  ·exact step_box hs Wn rfl rfl (gives_c h0 (fun _ => rfl))
  ·exact step_box hs Wn rfl rfl (gives_c h1 (fun _ => rfl))
  ·exact step_box hs Wn rfl rfl (gives_c h2 (fun _ => rfl))
  ·exact step_alloc hs Wn rfl rfl (by omega) rfl allocP
 intro L0 u0 W0 hall hJ hG
 obtain ⟨q3, e3, ⟨hq3, _⟩, ht3, hm3⟩ := oB 20 rE [X, Y, Z, T] hG 0
 have hq3 : w.heap.size ≤ q3 := by have := hbel0.size; omega
 have E3 := Lib.hid e3; clear e3
 obtain ⟨q4, e4, ⟨hq4, _⟩, ht4, hm4⟩ := oB 20 rE [X', Y', Z', T'] hG 1
 have hq4 : w.heap.size ≤ q4 := by have := hbel0.size; omega
 have E4 := Lib.hid e4; clear e4
 obtain ⟨q5, e5, ⟨hq5, _⟩, ht5, hm5⟩ := oB 5 rE [D] hG 2
 have hq5 : w.heap.size ≤ q5 := by have := hbel0.size; omega
 have E5 := Lib.hid e5; clear e5
 obtain ⟨q6, e6, hq6, _, ht6⟩ := oN 20 hG 3
 have hq6 : w.heap.size ≤ q6 := by have := hbel0.size; omega
 have E6 := Lib.hid e6; clear e6
 have hb := hJ.all rfl
 have hbel := Below.call hbel hb
 have HN3_6 := Lib.hid (show q3 ≠ q6 from fun e => hJ.apart 0 3 _ (by omega) (hall _ (by simp)) (hall _ (by simp)) rfl rfl (E3.out.trans (by rw [e])) E6.out)
 have HN4_6 := Lib.hid (show q4 ≠ q6 from fun e => hJ.apart 1 3 _ (by omega) (hall _ (by simp)) (hall _ (by simp)) rfl rfl (E4.out.trans (by rw [e])) E6.out)
 have HN5_6 := Lib.hid (show q5 ≠ q6 from fun e => hJ.apart 2 3 _ (by omega) (hall _ (by simp)) (hall _ (by simp)) rfl rfl (E5.out.trans (by rw [e])) E6.out)
 have hbel0 := hbel
 clear hJ hG hall hb
 go_upto_region 1 with fail
 refine rgM [(7, 11), (7, 0), (0, 1), (0, 2), (0, 3), (0, 4), (0, 5), (0, 6), (0, 7), (0, 8), (0, 9), (0, 10)] [.ptr q3 5, .val rE [Y], .ptr q3 0, .val rE [X], .val rE [Y - X], .ptr q4 5, .val rE [Y'], .ptr q4 0, .val rE [X'], .val rE [Y' - X'], .val rE [(Y - X) * (Y' - X')], .new 5, .st 11 rE [(Y - X) * (Y' - X')]] ?_ ?_
 ·intro hs
  refine ⟨?_, ?_, ?_, ?_, ?_, ?_, ?_, ?_, ?_, ?_, ?_, ?_, ?_, trivial⟩
  ·exact step_field hs Wn rfl rfl (fun _ => E3.out) (field_P1 _)
  ·exact step_loadF 0 q3 5 hs Wn rfl rfl tyE (fun _ => rfl) rfl (by kernel_rfl) hm3.lt (hm3.fld 1 1) Na
  ·exact step_field hs Wn rfl rfl (fun _ => E3.out) (field_P0 _)
  ·exact step_loadF 2 q3 0 hs Wn rfl rfl tyE (fun _ => rfl) rfl (by kernel_rfl) hm3.lt (hm3.fld 0 1) Na
  ·refine step_call hs Wn rfl fun L u W hJ hG hL hdep K hK => ?_
   have a0 := (vE rE [Y] hG hdep 1)
   have a1 := (vE rE [X] hG hdep 3)
   go_simp
   go_at_call 90
   (with_reducible refine (cSub a0 a1 _).mono ?_); rintro e w1 ⟨r, rfl, hr, hb⟩
   exact hK.out _ _ hr hb
  ·exact step_field hs Wn rfl rfl (fun _ => E4.out) (field_P1 _)
  ·exact step_loadF 5 q4 5 hs Wn rfl rfl tyE (fun _ => rfl) rfl (by kernel_rfl) hm4.lt (hm4.fld 1 1) Na
  ·exact step_field hs Wn rfl rfl (fun _ => E4.out) (field_P0 _)
  ·exact step_loadF 7 q4 0 hs Wn rfl rfl tyE (fun _ => rfl) rfl (by kernel_rfl) hm4.lt (hm4.fld 0 1) Na
  ·refine step_call hs Wn rfl fun L u W hJ hG hL hdep K hK => ?_
   have a0 := (vE rE [Y'] hG hdep 6)
   have a1 := (vE rE [X'] hG hdep 8)
   go_simp
   go_at_call 90
   (with_reducible refine (cSub a0 a1 _).mono ?_); rintro e w1 ⟨r, rfl, hr, hb⟩
   exact hK.out _ _ hr hb
  ·refine step_call hs Wn rfl fun L u W hJ hG hL hdep K hK => ?_
   have a0 := (vE rE [Y - X] hG hdep 4)
   have a1 := (vE rE [Y' - X'] hG hdep 9)
   go_simp
   go_at_call 63
   (with_reducible refine (cMul a0 a1 _).mono ?_); rintro e w1 ⟨r, rfl, hr, hb⟩
   exact hK.out _ _ hr hb
  ·exact step_alloc hs Wn rfl rfl (by omega) rfl allocE
  ·exact step_store 11 hs (by kernel_rfl) Wn rfl rfl rfl (by kernel_rfl) (by kernel_rfl) (by kernel_rfl) (by kernel_rfl) (fun _ => rfl) (gO 10) tyE rfl
 intro L1 u1 W1 hall hJ hG
 obtain ⟨q7, e7, hq7, _, ht7⟩ := oN 5 hG 11
 have hm7 := oS rE [(Y - X) * (Y' - X')] hG 12 e7
 have HD7_q3 := Lib.hid (show q3 ≠ q7 by have := there_lt ht3 (by omega); omega)
 have HD7_q4 := Lib.hid (show q4 ≠ q7 by have := there_lt ht4 (by omega); omega)
 have HD7_q5 := Lib.hid (show q5 ≠ q7 by have := there_lt ht5 (by omega); omega)
 have HD7_q6 := Lib.hid (show q6 ≠ q7 by have := there_lt ht6 (by omega); omega)
 have hq7 : w.heap.size ≤ q7 := by have := hbel0.size; omega
 have E7 := Lib.hid e7; clear e7
 have hb := hJ.all rfl
 have hbel := Below.call hbel hb
 have hm3 := hm3.later hb
 have hm4 := hm4.later hb
 have hm5 := hm5.later hb
 have ht3 := there_later ht3 hb
 have ht4 := there_later ht4 hb
 have ht5 := there_later ht5 hb
 have ht6 := there_later ht6 hb
 have hbel0 := hbel
 clear hJ hG hall hb
 go_upto_region 2 with fail
 refine rgM [(8, 11), (17, 0), (0, 1), (0, 2), (0, 3), (0, 4), (0, 5), (0, 6), (0, 7), (0, 8), (0, 9), (0, 10)] [.ptr q3 5, .val rE [Y], .ptr q3 0, .val rE [X], .val rE [Y + X], .ptr q4 5, .val rE [Y'], .ptr q4 0, .val rE [X'], .val rE [Y' + X'], .val rE [(Y + X) * (Y' + X')], .new 5, .st 11 rE [(Y + X) * (Y' + X')]] ?_ ?_
 ·intro hs
  refine ⟨?_, ?_, ?_, ?_, ?_, ?_, ?_, ?_, ?_, ?_, ?_, ?_, ?_, trivial⟩
  ·exact step_field hs Wn rfl rfl (fun _ => E3.out) (field_P1 _)
  ·exact step_loadF 0 q3 5 hs Wn rfl rfl tyE (fun _ => rfl) rfl (by kernel_rfl) hm3.lt (hm3.fld 1 1) Na
  ·exact step_field hs Wn rfl rfl (fun _ => E3.out) (field_P0 _)
  ·exact step_loadF 2 q3 0 hs Wn rfl rfl tyE (fun _ => rfl) rfl (by kernel_rfl) hm3.lt (hm3.fld 0 1) Na
  ·refine step_call hs Wn rfl fun L u W hJ hG hL hdep K hK => ?_
   have a0 := (vE rE [Y] hG hdep 1)
   have a1 := (vE rE [X] hG hdep 3)
   go_simp
   go_at_call 92
   (with_reducible refine (cAdd a0 a1 _).mono ?_); rintro e w1 ⟨r, rfl, hr, hb⟩
   exact hK.out _ _ hr hb
  ·exact step_field hs Wn rfl rfl (fun _ => E4.out) (field_P1 _)
  ·exact step_loadF 5 q4 5 hs Wn rfl rfl tyE (fun _ => rfl) rfl (by kernel_rfl) hm4.lt (hm4.fld 1 1) Na
  ·exact step_field hs Wn rfl rfl (fun _ => E4.out) (field_P0 _)
  ·exact step_loadF 7 q4 0 hs Wn rfl rfl tyE (fun _ => rfl) rfl (by kernel_rfl) hm4.lt (hm4.fld 0 1) Na
  ·refine step_call hs Wn rfl fun L u W hJ hG hL hdep K hK => ?_
   have a0 := (vE rE [Y'] hG hdep 6)
   have a1 := (vE rE [X'] hG hdep 8)
   go_simp
   go_at_call 92
   (with_reducible refine (cAdd a0 a1 _).mono ?_); rintro e w1 ⟨r, rfl, hr, hb⟩
   exact hK.out _ _ hr hb
  ·refine step_call hs Wn rfl fun L u W hJ hG hL hdep K hK => ?_
   have a0 := (vE rE [Y + X] hG hdep 4)
   have a1 := (vE rE [Y' + X'] hG hdep 9)
   go_simp
   go_at_call 63
   (with_reducible refine (cMul a0 a1 _).mono ?_); rintro e w1 ⟨r, rfl, hr, hb⟩
   exact hK.out _ _ hr hb
  ·exact step_alloc hs Wn rfl rfl (by omega) rfl allocE
  ·exact step_store 11 hs (by kernel_rfl) Wn rfl rfl rfl (by kernel_rfl) (by kernel_rfl) (by kernel_rfl) (by kernel_rfl) (fun _ => rfl) (gO 10) tyE rfl
 intro L2 u2 W2 hall hJ hG
 obtain ⟨q8, e8, hq8, _, ht8⟩ := oN 5 hG 11
 have hm8 := oS rE [(Y + X) * (Y' + X')] hG 12 e8
 have HD8_q3 := Lib.hid (show q3 ≠ q8 by have := there_lt ht3 (by omega); omega)
 have HD8_q4 := Lib.hid (show q4 ≠ q8 by have := there_lt ht4 (by omega); omega)
 have HD8_q5 := Lib.hid (show q5 ≠ q8 by have := there_lt ht5 (by omega); omega)
 have HD8_q6 := Lib.hid (show q6 ≠ q8 by have := there_lt ht6 (by omega); omega)
 have HD8_q7 := Lib.hid (show q7 ≠ q8 by have := there_lt ht7 (by omega); omega)
 have hq8 : w.heap.size ≤ q8 := by have := hbel0.size; omega
 have E8 := Lib.hid e8; clear e8
 have hb := hJ.all rfl
 have hbel := Below.call hbel hb
 have hm3 := hm3.later hb
 have hm4 := hm4.later hb
 have hm5 := hm5.later hb
 have hm7 := hm7.later hb
 have ht3 := there_later ht3 hb
 have ht4 := there_later ht4 hb
 have ht5 := there_later ht5 hb
 have ht6 := there_later ht6 hb
 have ht7 := there_later ht7 hb
 have hbel0 := hbel
 clear hJ hG hall hb
 go_upto_region 3 with fail
 refine rgM [(9, 7), (27, 0), (0, 1), (0, 2), (0, 3), (0, 4), (0, 5), (0, 6)] [.ptr q3 15, .val rE [T], .val rE [D], .val rE [T * D], .ptr q4 15, .val rE [T'], .val rE [(T * D) * T'], .new 5, .st 7 rE [(T * D) * T']] ?_ ?_
 ·intro hs
  refine ⟨?_, ?_, ?_, ?_, ?_, ?_, ?_, ?_, ?_, trivial⟩
  ·exact step_field hs Wn rfl rfl (fun _ => E3.out) (field_P3 _)
  ·exact step_loadF 0 q3 15 hs Wn rfl rfl tyE (fun _ => rfl) rfl (by kernel_rfl) hm3.lt (hm3.fld 3 1) Na
  ·exact step_load q5 0 hs Wn rfl rfl tyE (fun _ => E5.out) hm5.lt hm5 Na
  ·refine step_call hs Wn rfl fun L u W hJ hG hL hdep K hK => ?_
   have a0 := (vE rE [T] hG hdep 1)
   have a1 := (vE rE [D] hG hdep 2)
   go_simp
   go_at_call 63
   (with_reducible refine (cMul a0 a1 _).mono ?_); rintro e w1 ⟨r, rfl, hr, hb⟩
   exact hK.out _ _ hr hb
  ·exact step_field hs Wn rfl rfl (fun _ => E4.out) (field_P3 _)
  ·exact step_loadF 4 q4 15 hs Wn rfl rfl tyE (fun _ => rfl) rfl (by kernel_rfl) hm4.lt (hm4.fld 3 1) Na
  ·refine step_call hs Wn rfl fun L u W hJ hG hL hdep K hK => ?_
   have a0 := (vE rE [T * D] hG hdep 3)
   have a1 := (vE rE [T'] hG hdep 5)
   go_simp
   go_at_call 63
   (with_reducible refine (cMul a0 a1 _).mono ?_); rintro e w1 ⟨r, rfl, hr, hb⟩
   exact hK.out _ _ hr hb
  ·exact step_alloc hs Wn rfl rfl (by omega) rfl allocE
  ·exact step_store 7 hs (by kernel_rfl) Wn rfl rfl rfl (by kernel_rfl) (by kernel_rfl) (by kernel_rfl) (by kernel_rfl) (fun _ => rfl) (gO 6) tyE rfl
 intro L3 u3 W3 hall hJ hG
 obtain ⟨q9, e9, hq9, _, ht9⟩ := oN 5 hG 7
 have hm9 := oS rE [(T * D) * T'] hG 8 e9
 have HD9_q3 := Lib.hid (show q3 ≠ q9 by have := there_lt ht3 (by omega); omega)
 have HD9_q4 := Lib.hid (show q4 ≠ q9 by have := there_lt ht4 (by omega); omega)
 have HD9_q5 := Lib.hid (show q5 ≠ q9 by have := there_lt ht5 (by omega); omega)
 have HD9_q6 := Lib.hid (show q6 ≠ q9 by have := there_lt ht6 (by omega); omega)
 have HD9_q7 := Lib.hid (show q7 ≠ q9 by have := there_lt ht7 (by omega); omega)
 have HD9_q8 := Lib.hid (show q8 ≠ q9 by have := there_lt ht8 (by omega); omega)
 have hq9 : w.heap.size ≤ q9 := by have := hbel0.size; omega
 have E9 := Lib.hid e9; clear e9
 have hb := hJ.all rfl
 have hbel := Below.call hbel hb
 have hm3 := hm3.later hb
 have hm4 := hm4.later hb
 have hm5 := hm5.later hb
 have hm7 := hm7.later hb
 have hm8 := hm8.later hb
 have ht3 := there_later ht3 hb
 have ht4 := there_later ht4 hb
 have ht5 := there_later ht5 hb
 have ht6 := there_later ht6 hb
 have ht7 := there_later ht7 hb
 have ht8 := there_later ht8 hb
 have hbel0 := hbel
 clear hJ hG hall hb
 go_upto_region 4 with fail
 refine rgT [(10, 5), (33, 0), (0, 1), (0, 2), (0, 3), (0, 4)] [.ptr q3 10, .val rE [Z], .ptr q4 10, .val rE [Z'], .val rE [Z * Z'], .new 5, .st 5 rE [Z * Z']] ?_ ?_
 ·intro hs
  refine ⟨?_, ?_, ?_, ?_, ?_, ?_, ?_, trivial⟩
  ·exact step_field hs Wn rfl rfl (fun _ => E3.out) (field_P2 _)
  ·exact step_loadF 0 q3 10 hs Wn rfl rfl tyE (fun _ => rfl) rfl (by kernel_rfl) hm3.lt (hm3.fld 2 1) Na
  ·exact step_field hs Wn rfl rfl (fun _ => E4.out) (field_P2 _)
  ·exact step_loadF 2 q4 10 hs Wn rfl rfl tyE (fun _ => rfl) rfl (by kernel_rfl) hm4.lt (hm4.fld 2 1) Na
  ·refine step_call hs Wn rfl fun L u W hJ hG hL hdep K hK => ?_
   have a0 := (vE rE [Z] hG hdep 1)
   have a1 := (vE rE [Z'] hG hdep 3)
   go_simp
   go_at_call 63
   (with_reducible refine (cMul a0 a1 _).mono ?_); rintro e w1 ⟨r, rfl, hr, hb⟩
   exact hK.out _ _ hr hb
  ·exact step_alloc hs Wn rfl rfl (by omega) rfl allocE
  ·exact step_store 5 hs (by kernel_rfl) Wn rfl rfl rfl (by kernel_rfl) (by kernel_rfl) (by kernel_rfl) (by kernel_rfl) (fun _ => rfl) (gO 4) tyE rfl
 intro L4 u4 W4 hall hJ hG
 obtain ⟨q10, e10, hq10, _, ht10⟩ := oN 5 hG 5
 have hm10 := oS rE [Z * Z'] hG 6 e10
 have HD10_q3 := Lib.hid (show q3 ≠ q10 by have := there_lt ht3 (by omega); omega)
 have HD10_q4 := Lib.hid (show q4 ≠ q10 by have := there_lt ht4 (by omega); omega)
 have HD10_q5 := Lib.hid (show q5 ≠ q10 by have := there_lt ht5 (by omega); omega)
 have HD10_q6 := Lib.hid (show q6 ≠ q10 by have := there_lt ht6 (by omega); omega)
 have HD10_q7 := Lib.hid (show q7 ≠ q10 by have := there_lt ht7 (by omega); omega)
 have HD10_q8 := Lib.hid (show q8 ≠ q10 by have := there_lt ht8 (by omega); omega)
 have HD10_q9 := Lib.hid (show q9 ≠ q10 by have := there_lt ht9 (by omega); omega)
 have hq10 : w.heap.size ≤ q10 := by have := hbel0.size; omega
 have E10 := Lib.hid e10; clear e10
 have hb := hJ.all rfl
 have hbel := Below.call hbel hb
 have hm3 := hm3.later hb
 have hm4 := hm4.later hb
 have hm5 := hm5.later hb
 have hm7 := hm7.later hb
 have hm8 := hm8.later hb
 have hm9 := hm9.later hb
 have ht3 := there_later ht3 hb
 have ht4 := there_later ht4 hb
 have ht5 := there_later ht5 hb
 have ht6 := there_later ht6 hb
 have ht7 := there_later ht7 hb
 have ht8 := there_later ht8 hb
 have ht9 := there_later ht9 hb
 have hbel0 := hbel
 clear hJ hG hall hb
 go_upto_region 5 with fail
 refine rgT [(49, 0), (0, 1), (0, 2)] [.val rE [Z * Z'], .val rE [Z * Z'], .val rE [(Z * Z') + (Z * Z')], .sto q10 rE [(Z * Z') + (Z * Z')]] ?_ ?_
 ·intro hs
  refine ⟨?_, ?_, ?_, ?_, trivial⟩
  ·exact step_load q10 0 hs Wn rfl rfl tyE (fun _ => E10.out) hm10.lt hm10 Na
  ·exact step_load q10 0 hs Wn rfl rfl tyE (fun _ => E10.out) hm10.lt hm10 Na
  ·refine step_call hs Wn rfl fun L u W hJ hG hL hdep K hK => ?_
   have a0 := (vE rE [Z * Z'] hG hdep 0)
   have a1 := (vE rE [Z * Z'] hG hdep 1)
   go_simp
   go_at_call 92
   (with_reducible refine (cAdd a0 a1 _).mono ?_); rintro e w1 ⟨r, rfl, hr, hb⟩
   exact hK.out _ _ hr hb
  ·refine step_storeO q10 5 hs Wn rfl rfl (by kernel_rfl) (fun k hk => ?_) (fun _ => E10.out) (there_lt ht10 (by omega)) ht10 (gO 2) tyE rfl
   rcases k with _ | _ | _ | _ | k
   all_goals first | (exact absurd rfl hk) | (intro e; cases e; done)
 intro L5 u5 W5 hall hJ hG
 have hb := hJ.beN hbel
 have hbel := hbel.trans hb
 have hm3 := kC hm3 hJ HD10_q3.out
 have hm4 := kC hm4 hJ HD10_q4.out
 have hm5 := kC hm5 hJ HD10_q5.out
 have hm7 := kC hm7 hJ HD10_q7.out
 have hm8 := kC hm8 hJ HD10_q8.out
 have hm9 := kC hm9 hJ HD10_q9.out
 have ht3 := tC ht3 hJ HD10_q3.out
 have ht4 := tC ht4 hJ HD10_q4.out
 have ht5 := tC ht5 hJ HD10_q5.out
 have ht6 := tC ht6 hJ HD10_q6.out
 have ht7 := tC ht7 hJ HD10_q7.out
 have ht8 := tC ht8 hJ HD10_q8.out
 have ht9 := tC ht9 hJ HD10_q9.out
 obtain ⟨_, hs5_3t, hs5_3⟩ := oT 5 rE [(Z * Z') + (Z * Z')] hG 3
 have hbel0 := hbel
 clear hJ hG hall hb
 go_upto_region 6 with fail
 refine rgM [(11, 12), (0, 13), (0, 14), (0, 15), (37, 0), (0, 1), (0, 2), (0, 3), (0, 4), (0, 5), (0, 6), (0, 7), (0, 8), (0, 9), (0, 10), (0, 11)] [.val rE [(Y + X) * (Y' + X')], .val rE [(Y - X) * (Y' - X')], .val rE [((Y + X) * (Y' + X')) - ((Y - X) * (Y' - X'))], .val rE [(Z * Z') + (Z * Z')], .val rE [(T * D) * T'], .val rE [((Z * Z') + (Z * Z')) - ((T * D) * T')], .val rE [(Z * Z') + (Z * Z')], .val rE [(T * D) * T'], .val rE [((Z * Z') + (Z * Z')) + ((T * D) * T')], .val rE [(Y + X) * (Y' + X')], .val rE [(Y - X) * (Y' - X')], .val rE [((Y + X) * (Y' + X')) + ((Y - X) * (Y' - X'))], .new 5, .new 5, .new 5, .new 5, .st 12 rE [((Y + X) * (Y' + X')) - ((Y - X) * (Y' - X'))], .st 13 rE [((Z * Z') + (Z * Z')) - ((T * D) * T')], .st 14 rE [((Z * Z') + (Z * Z')) + ((T * D) * T')], .st 15 rE [((Y + X) * (Y' + X')) + ((Y - X) * (Y' - X'))]] ?_ ?_
 ·intro hs
  refine ⟨?_, ?_, ?_, ?_, ?_, ?_, ?_, ?_, ?_, ?_, ?_, ?_, ?_, ?_, ?_, ?_, ?_, ?_, ?_, ?_, trivial⟩
  ·exact step_load q8 0 hs Wn rfl rfl tyE (fun _ => E8.out) hm8.lt hm8 Na
  ·exact step_load q7 0 hs Wn rfl rfl tyE (fun _ => E7.out) hm7.lt hm7 Na
  ·refine step_call hs Wn rfl fun L u W hJ hG hL hdep K hK => ?_
   have a0 := (vE rE [(Y + X) * (Y' + X')] hG hdep 0)
   have a1 := (vE rE [(Y - X) * (Y' - X')] hG hdep 1)
   go_simp
   go_at_call 90
   (with_reducible refine (cSub a0 a1 _).mono ?_); rintro e w1 ⟨r, rfl, hr, hb⟩
   exact hK.out _ _ hr hb
  ·exact step_load q10 0 hs Wn rfl rfl tyE (fun _ => E10.out) hs5_3.lt hs5_3 Na
  ·exact step_load q9 0 hs Wn rfl rfl tyE (fun _ => E9.out) hm9.lt hm9 Na
  ·refine step_call hs Wn rfl fun L u W hJ hG hL hdep K hK => ?_
   have a0 := (vE rE [(Z * Z') + (Z * Z')] hG hdep 3)
   have a1 := (vE rE [(T * D) * T'] hG hdep 4)
   go_simp
   go_at_call 90
   (with_reducible refine (cSub a0 a1 _).mono ?_); rintro e w1 ⟨r, rfl, hr, hb⟩
   exact hK.out _ _ hr hb
  ·exact step_load q10 0 hs Wn rfl rfl tyE (fun _ => E10.out) hs5_3.lt hs5_3 Na
  ·exact step_load q9 0 hs Wn rfl rfl tyE (fun _ => E9.out) hm9.lt hm9 Na
  ·refine step_call hs Wn rfl fun L u W hJ hG hL hdep K hK => ?_
   have a0 := (vE rE [(Z * Z') + (Z * Z')] hG hdep 6)
   have a1 := (vE rE [(T * D) * T'] hG hdep 7)
   go_simp
   go_at_call 92
   (with_reducible refine (cAdd a0 a1 _).mono ?_); rintro e w1 ⟨r, rfl, hr, hb⟩
   exact hK.out _ _ hr hb
  ·exact step_load q8 0 hs Wn rfl rfl tyE (fun _ => E8.out) hm8.lt hm8 Na
  ·exact step_load q7 0 hs Wn rfl rfl tyE (fun _ => E7.out) hm7.lt hm7 Na
  ·refine step_call hs Wn rfl fun L u W hJ hG hL hdep K hK => ?_
   have a0 := (vE rE [(Y + X) * (Y' + X')] hG hdep 9)
   have a1 := (vE rE [(Y - X) * (Y' - X')] hG hdep 10)
   go_simp
   go_at_call 92
   (with_reducible refine (cAdd a0 a1 _).mono ?_); rintro e w1 ⟨r, rfl, hr, hb⟩
   exact hK.out _ _ hr hb
  ·exact step_alloc hs Wn rfl rfl (by omega) rfl allocE
  ·exact step_alloc hs Wn rfl rfl (by omega) rfl allocE
  ·exact step_alloc hs Wn rfl rfl (by omega) rfl allocE
  ·exact step_alloc hs Wn rfl rfl (by omega) rfl allocE
  ·exact step_store 12 hs (by kernel_rfl) Wn rfl rfl rfl (by kernel_rfl) (by kernel_rfl) (by kernel_rfl) (by kernel_rfl) (fun _ => rfl) (gO 2) tyE rfl
  ·exact step_store 13 hs (by kernel_rfl) Wn rfl rfl rfl (by kernel_rfl) (by kernel_rfl) (by kernel_rfl) (by kernel_rfl) (fun _ => rfl) (gO 5) tyE rfl
  ·exact step_store 14 hs (by kernel_rfl) Wn rfl rfl rfl (by kernel_rfl) (by kernel_rfl) (by kernel_rfl) (by kernel_rfl) (fun _ => rfl) (gO 8) tyE rfl
  ·exact step_store 15 hs (by kernel_rfl) Wn rfl rfl rfl (by kernel_rfl) (by kernel_rfl) (by kernel_rfl) (by kernel_rfl) (fun _ => rfl) (gO 11) tyE rfl
 intro L6 u6 W6 hall hJ hG
 obtain ⟨q11, e11, hq11, _, ht11⟩ := oN 5 hG 12
 have hm11 := oS rE [((Y + X) * (Y' + X')) - ((Y - X) * (Y' - X'))] hG 16 e11
 have HD11_q3 := Lib.hid (show q3 ≠ q11 by have := there_lt ht3 (by omega); omega)
 have HD11_q4 := Lib.hid (show q4 ≠ q11 by have := there_lt ht4 (by omega); omega)
 have HD11_q5 := Lib.hid (show q5 ≠ q11 by have := there_lt ht5 (by omega); omega)
 have HD11_q6 := Lib.hid (show q6 ≠ q11 by have := there_lt ht6 (by omega); omega)
 have HD11_q7 := Lib.hid (show q7 ≠ q11 by have := there_lt ht7 (by omega); omega)
 have HD11_q8 := Lib.hid (show q8 ≠ q11 by have := there_lt ht8 (by omega); omega)
 have HD11_q9 := Lib.hid (show q9 ≠ q11 by have := there_lt ht9 (by omega); omega)
 have HD11_q10 := Lib.hid (show q10 ≠ q11 by have := there_lt hs5_3t (by omega); omega)
 have hq11 : w.heap.size ≤ q11 := by have := hbel0.size; omega
 have E11 := Lib.hid e11; clear e11
 obtain ⟨q12, e12, hq12, _, ht12⟩ := oN 5 hG 13
 have hm12 := oS rE [((Z * Z') + (Z * Z')) - ((T * D) * T')] hG 17 e12
 have HD12_q3 := Lib.hid (show q3 ≠ q12 by have := there_lt ht3 (by omega); omega)
 have HD12_q4 := Lib.hid (show q4 ≠ q12 by have := there_lt ht4 (by omega); omega)
 have HD12_q5 := Lib.hid (show q5 ≠ q12 by have := there_lt ht5 (by omega); omega)
 have HD12_q6 := Lib.hid (show q6 ≠ q12 by have := there_lt ht6 (by omega); omega)
 have HD12_q7 := Lib.hid (show q7 ≠ q12 by have := there_lt ht7 (by omega); omega)
 have HD12_q8 := Lib.hid (show q8 ≠ q12 by have := there_lt ht8 (by omega); omega)
 have HD12_q9 := Lib.hid (show q9 ≠ q12 by have := there_lt ht9 (by omega); omega)
 have HD12_q10 := Lib.hid (show q10 ≠ q12 by have := there_lt hs5_3t (by omega); omega)
 have hq12 : w.heap.size ≤ q12 := by have := hbel0.size; omega
 have E12 := Lib.hid e12; clear e12
 obtain ⟨q13, e13, hq13, _, ht13⟩ := oN 5 hG 14
 have hm13 := oS rE [((Z * Z') + (Z * Z')) + ((T * D) * T')] hG 18 e13
 have HD13_q3 := Lib.hid (show q3 ≠ q13 by have := there_lt ht3 (by omega); omega)
 have HD13_q4 := Lib.hid (show q4 ≠ q13 by have := there_lt ht4 (by omega); omega)
 have HD13_q5 := Lib.hid (show q5 ≠ q13 by have := there_lt ht5 (by omega); omega)
 have HD13_q6 := Lib.hid (show q6 ≠ q13 by have := there_lt ht6 (by omega); omega)
 have HD13_q7 := Lib.hid (show q7 ≠ q13 by have := there_lt ht7 (by omega); omega)
 have HD13_q8 := Lib.hid (show q8 ≠ q13 by have := there_lt ht8 (by omega); omega)
 have HD13_q9 := Lib.hid (show q9 ≠ q13 by have := there_lt ht9 (by omega); omega)
 have HD13_q10 := Lib.hid (show q10 ≠ q13 by have := there_lt hs5_3t (by omega); omega)
 have hq13 : w.heap.size ≤ q13 := by have := hbel0.size; omega
 have E13 := Lib.hid e13; clear e13
 obtain ⟨q14, e14, hq14, _, ht14⟩ := oN 5 hG 15
 have hm14 := oS rE [((Y + X) * (Y' + X')) + ((Y - X) * (Y' - X'))] hG 19 e14
 have HD14_q3 := Lib.hid (show q3 ≠ q14 by have := there_lt ht3 (by omega); omega)
 have HD14_q4 := Lib.hid (show q4 ≠ q14 by have := there_lt ht4 (by omega); omega)
 have HD14_q5 := Lib.hid (show q5 ≠ q14 by have := there_lt ht5 (by omega); omega)
 have HD14_q6 := Lib.hid (show q6 ≠ q14 by have := there_lt ht6 (by omega); omega)
 have HD14_q7 := Lib.hid (show q7 ≠ q14 by have := there_lt ht7 (by omega); omega)
 have HD14_q8 := Lib.hid (show q8 ≠ q14 by have := there_lt ht8 (by omega); omega)
 have HD14_q9 := Lib.hid (show q9 ≠ q14 by have := there_lt ht9 (by omega); omega)
 have HD14_q10 := Lib.hid (show q10 ≠ q14 by have := there_lt hs5_3t (by omega); omega)
 have hq14 : w.heap.size ≤ q14 := by have := hbel0.size; omega
 have E14 := Lib.hid e14; clear e14
 have hb := hJ.all rfl
 have hbel := Below.call hbel hb
 have hm3 := hm3.later hb
 have hm4 := hm4.later hb
 have hm5 := hm5.later hb
 have hm7 := hm7.later hb
 have hm8 := hm8.later hb
 have hm9 := hm9.later hb
 have hs5_3 := hs5_3.later hb
 have ht3 := there_later ht3 hb
 have ht4 := there_later ht4 hb
 have ht5 := there_later ht5 hb
 have ht6 := there_later ht6 hb
 have ht7 := there_later ht7 hb
 have ht8 := there_later ht8 hb
 have ht9 := there_later ht9 hb
 have hs5_3t := there_later hs5_3t hb
 have hbel0 := hbel
 clear hJ hG hall hb
 go_upto_region 7 with fail
 refine rgM [(64, 0), (0, 1), (0, 2), (0, 3), (0, 4), (0, 5), (0, 6), (0, 7), (0, 8), (0, 9), (0, 10), (0, 11), (0, 12)] [.val rE [((Y + X) * (Y' + X')) - ((Y - X) * (Y' - X'))], .val rE [((Z * Z') + (Z * Z')) - ((T * D) * T')], .val rE [(((Y + X) * (Y' + X')) - ((Y - X) * (Y' - X'))) * (((Z * Z') + (Z * Z')) - ((T * D) * T'))], .val rE [((Z * Z') + (Z * Z')) + ((T * D) * T')], .val rE [((Y + X) * (Y' + X')) + ((Y - X) * (Y' - X'))], .val rE [(((Z * Z') + (Z * Z')) + ((T * D) * T')) * (((Y + X) * (Y' + X')) + ((Y - X) * (Y' - X')))], .val rE [((Z * Z') + (Z * Z')) - ((T * D) * T')], .val rE [((Z * Z') + (Z * Z')) + ((T * D) * T')], .val rE [(((Z * Z') + (Z * Z')) - ((T * D) * T')) * (((Z * Z') + (Z * Z')) + ((T * D) * T'))], .val rE [((Y + X) * (Y' + X')) - ((Y - X) * (Y' - X'))], .val rE [((Y + X) * (Y' + X')) + ((Y - X) * (Y' - X'))], .val rE [(((Y + X) * (Y' + X')) - ((Y - X) * (Y' - X'))) * (((Y + X) * (Y' + X')) + ((Y - X) * (Y' - X')))], .val rE [(((Y + X) * (Y' + X')) - ((Y - X) * (Y' - X'))) * (((Z * Z') + (Z * Z')) - ((T * D) * T')), (((Z * Z') + (Z * Z')) + ((T * D) * T')) * (((Y + X) * (Y' + X')) + ((Y - X) * (Y' - X'))), (((Z * Z') + (Z * Z')) - ((T * D) * T')) * (((Z * Z') + (Z * Z')) + ((T * D) * T')), (((Y + X) * (Y' + X')) - ((Y - X) * (Y' - X'))) * (((Y + X) * (Y' + X')) + ((Y - X) * (Y' - X')))], .sto q6 rE [(((Y + X) * (Y' + X')) - ((Y - X) * (Y' - X'))) * (((Z * Z') + (Z * Z')) - ((T * D) * T')), (((Z * Z') + (Z * Z')) + ((T * D) * T')) * (((Y + X) * (Y' + X')) + ((Y - X) * (Y' - X'))), (((Z * Z') + (Z * Z')) - ((T * D) * T')) * (((Z * Z') + (Z * Z')) + ((T * D) * T')), (((Y + X) * (Y' + X')) - ((Y - X) * (Y' - X'))) * (((Y + X) * (Y' + X')) + ((Y - X) * (Y' - X')))]] ?_ ?_
 ·intro hs
  refine ⟨?_, ?_, ?_, ?_, ?_, ?_, ?_, ?_, ?_, ?_, ?_, ?_, ?_, ?_, trivial⟩
  ·exact step_load q11 0 hs Wn rfl rfl tyE (fun _ => E11.out) hm11.lt hm11 (apN HD11_q6.out)
  ·exact step_load q12 0 hs Wn rfl rfl tyE (fun _ => E12.out) hm12.lt hm12 (apN HD12_q6.out)
  ·refine step_call hs Wn rfl fun L u W hJ hG hL hdep K hK => ?_
   have a0 := (vE rE [((Y + X) * (Y' + X')) - ((Y - X) * (Y' - X'))] hG hdep 0)
   have a1 := (vE rE [((Z * Z') + (Z * Z')) - ((T * D) * T')] hG hdep 1)
   go_simp
   go_at_call 63
   (with_reducible refine (cMul a0 a1 _).mono ?_); rintro e w1 ⟨r, rfl, hr, hb⟩
   exact hK.out _ _ hr hb
  ·exact step_load q13 0 hs Wn rfl rfl tyE (fun _ => E13.out) hm13.lt hm13 (apN HD13_q6.out)
  ·exact step_load q14 0 hs Wn rfl rfl tyE (fun _ => E14.out) hm14.lt hm14 (apN HD14_q6.out)
  ·refine step_call hs Wn rfl fun L u W hJ hG hL hdep K hK => ?_
   have a0 := (vE rE [((Z * Z') + (Z * Z')) + ((T * D) * T')] hG hdep 3)
   have a1 := (vE rE [((Y + X) * (Y' + X')) + ((Y - X) * (Y' - X'))] hG hdep 4)
   go_simp
   go_at_call 63
   (with_reducible refine (cMul a0 a1 _).mono ?_); rintro e w1 ⟨r, rfl, hr, hb⟩
   exact hK.out _ _ hr hb
  ·exact step_load q12 0 hs Wn rfl rfl tyE (fun _ => E12.out) hm12.lt hm12 (apN HD12_q6.out)
  ·exact step_load q13 0 hs Wn rfl rfl tyE (fun _ => E13.out) hm13.lt hm13 (apN HD13_q6.out)
  ·refine step_call hs Wn rfl fun L u W hJ hG hL hdep K hK => ?_
   have a0 := (vE rE [((Z * Z') + (Z * Z')) - ((T * D) * T')] hG hdep 6)
   have a1 := (vE rE [((Z * Z') + (Z * Z')) + ((T * D) * T')] hG hdep 7)
   go_simp
   go_at_call 63
   (with_reducible refine (cMul a0 a1 _).mono ?_); rintro e w1 ⟨r, rfl, hr, hb⟩
   exact hK.out _ _ hr hb
  ·exact step_load q11 0 hs Wn rfl rfl tyE (fun _ => E11.out) hm11.lt hm11 (apN HD11_q6.out)
  ·exact step_load q14 0 hs Wn rfl rfl tyE (fun _ => E14.out) hm14.lt hm14 (apN HD14_q6.out)
  ·refine step_call hs Wn rfl fun L u W hJ hG hL hdep K hK => ?_
   have a0 := (vE rE [((Y + X) * (Y' + X')) - ((Y - X) * (Y' - X'))] hG hdep 9)
   have a1 := (vE rE [((Y + X) * (Y' + X')) + ((Y - X) * (Y' - X'))] hG hdep 10)
   go_simp
   go_at_call 63
   (with_reducible refine (cMul a0 a1 _).mono ?_); rintro e w1 ⟨r, rfl, hr, hb⟩
   exact hK.out _ _ hr hb
  ·refine step_pure hs Wn rfl fun L u W hG hdep => ?_
   have a0 := (vE rE [(((Y + X) * (Y' + X')) - ((Y - X) * (Y' - X'))) * (((Z * Z') + (Z * Z')) - ((T * D) * T'))] hG hdep 2)
   have a1 := (vE rE [(((Z * Z') + (Z * Z')) + ((T * D) * T')) * (((Y + X) * (Y' + X')) + ((Y - X) * (Y' - X')))] hG hdep 5)
   have a2 := (vE rE [(((Z * Z') + (Z * Z')) - ((T * D) * T')) * (((Z * Z') + (Z * Z')) + ((T * D) * T'))] hG hdep 8)
   have a3 := (vE rE [(((Y + X) * (Y' + X')) - ((Y - X) * (Y' - X'))) * (((Y + X) * (Y' + X')) + ((Y - X) * (Y' - X')))] hG hdep 11)
   obtain ⟨r, hr, hx⟩ := build_P a0 a1 a2 a3 W
   exact ⟨r, run_build4 rfl hr, hx⟩
  ·refine step_storeO q6 20 hs Wn rfl rfl (by kernel_rfl) (fun k hk => ?_) (fun _ => E6.out) (there_lt ht6 (by omega)) ht6 (gO 12) tyP4 rfl
   rcases k with _ | _ | _ | _ | _ | _ | _ | _ | _ | _ | _ | _ | _ | _ | k
   all_goals first | (exact absurd rfl hk) | (intro e; cases e; done)
 intro L7 u7 W7 hall hJ hG
 have hb := hJ.beN hbel
 have hbel := hbel.trans hb
 have hm3 := kC hm3 hJ HN3_6.out
 have hm4 := kC hm4 hJ HN4_6.out
 have hm5 := kC hm5 hJ HN5_6.out
 have hm7 := kB hm7 hJ HD7_q6.out
 have hm8 := kB hm8 hJ HD8_q6.out
 have hm9 := kB hm9 hJ HD9_q6.out
 have hs5_3 := kB hs5_3 hJ HD10_q6.out
 have hm11 := kB hm11 hJ HD11_q6.out
 have hm12 := kB hm12 hJ HD12_q6.out
 have hm13 := kB hm13 hJ HD13_q6.out
 have hm14 := kB hm14 hJ HD14_q6.out
 have ht3 := tC ht3 hJ HN3_6.out
 have ht4 := tC ht4 hJ HN4_6.out
 have ht5 := tC ht5 hJ HN5_6.out
 have ht7 := tB ht7 hJ HD7_q6.out
 have ht8 := tB ht8 hJ HD8_q6.out
 have ht9 := tB ht9 hJ HD9_q6.out
 have hs5_3t := tB hs5_3t hJ HD10_q6.out
 have ht11 := tB ht11 hJ HD11_q6.out
 have ht12 := tB ht12 hJ HD12_q6.out
 have ht13 := tB ht13 hJ HD13_q6.out
 have ht14 := tB ht14 hJ HD14_q6.out
 obtain ⟨_, hs7_13t, hs7_13⟩ := oT 20 rE [(((Y + X) * (Y' + X')) - ((Y - X) * (Y' - X'))) * (((Z * Z') + (Z * Z')) - ((T * D) * T')), (((Z * Z') + (Z * Z')) + ((T * D) * T')) * (((Y + X) * (Y' + X')) + ((Y - X) * (Y' - X'))), (((Z * Z') + (Z * Z')) - ((T * D) * T')) * (((Z * Z') + (Z * Z')) + ((T * D) * T')), (((Y + X) * (Y' + X')) - ((Y - X) * (Y' - X'))) * (((Y + X) * (Y' + X')) + ((Y - X) * (Y' - X')))] hG 13
 have hbel0 := hbel
 clear hJ hG hall hb
 go_wp2
 exact ret_cell1 (R := rE) Tryz.results60 (by exact E6.out) hs7_13 tyP4 rfl (fun r hr => ⟨r, rfl, hr, hbel⟩)
theorem cSum {v0 v1 v2 : Value} {P Q : EP} (h0 : IsFs rPr v0 [P]) (h1 : IsFs rPr v1 [Q]) (h2 : IsFs rE v2 [dE2]) (w : World) :
  Calls Tryz.prog 60 #[v0, v1, v2] w fun e w' => ∃ r, e = .returned r ∧ IsFs rPr r [Cp.add P Q] ∧ Below w.heap.size w w' := by
 obtain ⟨x, y, z, t, i0, hp⟩ := of_isPr h0
 obtain ⟨x', y', z', t', i1, hq⟩ := of_isPr h1
 exact (sum_any i0 i1 h2 w).mono fun _ _ ⟨r, he, hr, hb⟩ => ⟨r, he, isPr hr (Pext.add (c := cuE) hp hq rfl rfl (by rw [dE2_eq]; rfl) rfl rfl rfl rfl rfl), hb⟩
set_option maxHeartbeats 4000000 in
theorem cPAdd {v0 v1 : Value} {P Q : EP} (h0 : IsFs rP v0 [P]) (h1 : IsFs rP v1 [Q]) (w : World) :
  Calls Tryz.prog 45 #[v0, v1] w fun e w' => ∃ r, e = .returned r ∧ IsFs rP r [Cp.add P Q] ∧ Below w.heap.size w w' := by
 go_enter Tryz.func45, Tryz.ntmps45
 have hbel : Below w.heap.size w w := Below.refl _ _
 have hbel0 := hbel
 go_upto_region 0 with fail
 refine rgT [(2, 0), (0, 1), (0, 2)] [.box rP [P], .box rP [Q], .new 20] ?_ ?_
 ·intro hs
  refine ⟨?_, ?_, ?_, trivial⟩
  ·exact step_box hs Wn rfl rfl (gives_c h0 (fun _ => rfl))
  ·exact step_box hs Wn rfl rfl (gives_c h1 (fun _ => rfl))
  ·exact step_alloc hs Wn rfl rfl (by omega) rfl allocP
 intro L0 u0 W0 hall hJ hG
 obtain ⟨q2, e2, ⟨hq2, _⟩, ht2, hm2⟩ := oB 20 rP [P] hG 0
 have hq2 : w.heap.size ≤ q2 := by have := hbel0.size; omega
 have E2 := Lib.hid e2; clear e2
 obtain ⟨q3, e3, ⟨hq3, _⟩, ht3, hm3⟩ := oB 20 rP [Q] hG 1
 have hq3 : w.heap.size ≤ q3 := by have := hbel0.size; omega
 have E3 := Lib.hid e3; clear e3
 obtain ⟨q4, e4, hq4, _, ht4⟩ := oN 20 hG 2
 have hq4 : w.heap.size ≤ q4 := by have := hbel0.size; omega
 have E4 := Lib.hid e4; clear e4
 have hb := hJ.all rfl
 have hbel := Below.call hbel hb
 have HN2_4 := Lib.hid (show q2 ≠ q4 from fun e => hJ.apart 0 2 _ (by omega) (hall _ (by simp)) (hall _ (by simp)) rfl rfl (E2.out.trans (by rw [e])) E4.out)
 have HN3_4 := Lib.hid (show q3 ≠ q4 from fun e => hJ.apart 1 2 _ (by omega) (hall _ (by simp)) (hall _ (by simp)) rfl rfl (E3.out.trans (by rw [e])) E4.out)
 have hbel0 := hbel
 clear hJ hG hall hb
 go_upto_region 1 with fail
 refine rgM [(5, 0), (0, 1), (0, 2), (0, 3), (0, 4), (0, 5)] [.val rP [P], .val rPr [P], .val rP [Q], .val rPr [Q], .val rE [dE2], .val rPr [Cp.add P Q], .sto q4 rPr [Cp.add P Q]] ?_ ?_
 ·intro hs
  refine ⟨?_, ?_, ?_, ?_, ?_, ?_, ?_, trivial⟩
  ·exact step_load q2 0 hs Wn rfl rfl tyP (fun _ => E2.out) hm2.lt hm2 (apN (Ne.symm HN2_4.out))
  ·refine step_call hs Wn rfl fun L u W hJ hG hL hdep K hK => ?_
   have a0 := (vE rP [P] hG hdep 0)
   go_simp
   go_at_call 58
   (with_reducible refine (cReady a0 _).mono ?_); rintro e w1 ⟨r, rfl, hr, hb⟩
   exact hK.out _ _ hr hb
  ·exact step_load q3 0 hs Wn rfl rfl tyP (fun _ => E3.out) hm3.lt hm3 (apN (Ne.symm HN3_4.out))
  ·refine step_call hs Wn rfl fun L u W hJ hG hL hdep K hK => ?_
   have a0 := (vE rP [Q] hG hdep 2)
   go_simp
   go_at_call 58
   (with_reducible refine (cReady a0 _).mono ?_); rintro e w1 ⟨r, rfl, hr, hb⟩
   exact hK.out _ _ hr hb
  ·refine step_call hs Wn rfl fun L u W hJ hG hL hdep K hK => ?_
   go_simp
   go_at_call 59
   (with_reducible refine (cTwice _).mono ?_); rintro e w1 ⟨r, rfl, hr, hb⟩
   exact hK.out _ _ hr hb
  ·refine step_call hs Wn rfl fun L u W hJ hG hL hdep K hK => ?_
   have a0 := (vE rPr [P] hG hdep 1)
   have a1 := (vE rPr [Q] hG hdep 3)
   have a2 := (vE rE [dE2] hG hdep 4)
   go_simp
   go_at_call 60
   (with_reducible refine (cSum a0 a1 a2 _).mono ?_); rintro e w1 ⟨r, rfl, hr, hb⟩
   exact hK.out _ _ hr hb
  ·refine step_storeO q4 20 hs Wn rfl rfl (by kernel_rfl) (fun k hk => ?_) (fun _ => E4.out) (there_lt ht4 (by omega)) ht4 (gO 5) tyPr rfl
   rcases k with _ | _ | _ | _ | _ | _ | _ | k
   all_goals first | (exact absurd rfl hk) | (intro e; cases e; done)
 intro L1 u1 W1 hall hJ hG
 have hb := hJ.beN hbel
 have hbel := hbel.trans hb
 have hm2 := kC hm2 hJ HN2_4.out
 have hm3 := kC hm3 hJ HN3_4.out
 have ht2 := tC ht2 hJ HN2_4.out
 have ht3 := tC ht3 hJ HN3_4.out
 obtain ⟨_, hs1_6t, hs1_6⟩ := oT 20 rPr [Cp.add P Q] hG 6
 have hbel0 := hbel
 clear hJ hG hall hb
 go_wp2
 exact ret_cell1 (R := rPr) Tryz.results45 (by exact E4.out) hs1_6 tyPr rfl (fun r hr => ⟨r, rfl, toP hr, hbel⟩)
set_option maxHeartbeats 4000000 in
theorem psame_0 {v0 v1 : Value} {P Q : EP} (h0 : IsFs rP v0 [P]) (h1 : IsFs rP v1 [Q]) (hx : P.x ≠ Q.x) (w : World) :
  Calls Tryz.prog 44 #[v0, v1] w fun e w' => e = .returned (.bool false) ∧ Below w.heap.size w w' := by
 have HX := Lib.hid hx; clear hx
 go_enter Tryz.func44, Tryz.ntmps44
 have hbel : Below w.heap.size w w := Below.refl _ _
 have hbel0 := hbel
 go_upto_region 0 with fail
 refine rgT [(2, 0), (0, 1), (0, 2)] [.box rP [P], .box rP [Q], .oth (fun v => v = .bool false)] ?_ ?_
 ·intro hs
  refine ⟨?_, ?_, ?_, trivial⟩
  ·exact step_box hs Wn rfl rfl (gives_c h0 (fun _ => rfl))
  ·exact step_box hs Wn rfl rfl (gives_c h1 (fun _ => rfl))
  ·exact mvK hs fun _ => rfl
 intro L0 u0 W0 hall hJ hG
 obtain ⟨q2, e2, ⟨hq2, _⟩, ht2, hm2⟩ := oB 20 rP [P] hG 0
 have hq2 : w.heap.size ≤ q2 := by have := hbel0.size; omega
 have E2 := Lib.hid e2; clear e2
 obtain ⟨q3, e3, ⟨hq3, _⟩, ht3, hm3⟩ := oB 20 rP [Q] hG 1
 have hq3 : w.heap.size ≤ q3 := by have := hbel0.size; omega
 have E3 := Lib.hid e3; clear e3
 have hb := hJ.all rfl
 have hbel := Below.call hbel hb
 have HN2_3 := Lib.hid (show q2 ≠ q3 from fun e => hJ.apart 0 1 _ (by omega) (hall _ (by simp)) (hall _ (by simp)) rfl rfl (E2.out.trans (by rw [e])) E3.out)
 have HC4 := oC (.bool false) hG 2
 have hbel0 := hbel
 clear hJ hG hall hb
 go_upto_region 1 with fail
 refine rgM [(5, 0), (0, 1), (0, 2), (0, 3)] [.val rP [P], .val rPr [P], .val rP [Q], .val rPr [Q], .sto q2 rPr [P], .sto q3 rPr [Q]] ?_ ?_
 ·intro hs
  refine ⟨?_, ?_, ?_, ?_, ?_, ?_, trivial⟩
  ·exact step_load q2 0 hs Wn rfl rfl tyP (fun _ => E2.out) hm2.lt hm2 (fun k g hk => by rcases k with _ | _ | _ | _ | _ | _ | k <;> first | (cases hk; done) | (cases hk; exact .inr (Ne.symm HN2_3.out)) | (cases hk; exact .inl (by kernel_rfl)))
  ·refine step_call hs Wn rfl fun L u W hJ hG hL hdep K hK => ?_
   have a0 := (vE rP [P] hG hdep 0)
   go_simp
   go_at_call 58
   (with_reducible refine (cReady a0 _).mono ?_); rintro e w1 ⟨r, rfl, hr, hb⟩
   exact hK.out _ _ hr hb
  ·exact step_load q3 0 hs Wn rfl rfl tyP (fun _ => E3.out) hm3.lt hm3 (fun k g hk => by rcases k with _ | _ | _ | _ | _ | _ | k <;> first | (cases hk; done) | (cases hk; exact .inr HN2_3.out) | (cases hk; exact .inl (by kernel_rfl)))
  ·refine step_call hs Wn rfl fun L u W hJ hG hL hdep K hK => ?_
   have a0 := (vE rP [Q] hG hdep 2)
   go_simp
   go_at_call 58
   (with_reducible refine (cReady a0 _).mono ?_); rintro e w1 ⟨r, rfl, hr, hb⟩
   exact hK.out _ _ hr hb
  ·refine step_storeO q2 20 hs Wn rfl rfl (by kernel_rfl) (fun k hk => ?_) (fun _ => E2.out) (there_lt ht2 (by omega)) ht2 (gO 1) tyPr rfl
   rcases k with _ | _ | _ | _ | _ | _ | k
   all_goals first | (exact absurd rfl hk) | (intro e; cases e; done) | (intro e; cases e; exact absurd rfl (Ne.symm HN2_3.out))
  ·refine step_storeO q3 20 hs Wn rfl rfl (by kernel_rfl) (fun k hk => ?_) (fun _ => E3.out) (there_lt ht3 (by omega)) ht3 (gO 3) tyPr rfl
   rcases k with _ | _ | _ | _ | _ | _ | k
   all_goals first | (exact absurd rfl hk) | (intro e; cases e; done) | (intro e; cases e; exact absurd rfl HN2_3.out)
 intro L1 u1 W1 hall hJ hG
 have hb : Below w.heap.size W0 W1 := hJ.below (by have := hbel.size; omega) (fun k b hf => by rcases k with _ | _ | _ | _ | _ | _ | k <;> first | (cases hf; done) | (cases hf; omega))
 have hbel := hbel.trans hb
 obtain ⟨_, hs1_4t, hs1_4⟩ := oT 20 rPr [P] hG 4
 obtain ⟨_, hs1_5t, hs1_5⟩ := oT 20 rPr [Q] hG 5
 have hbel0 := hbel
 clear hJ hG hall hb
 obtain ⟨pax, pay, paz, pat, hmpa, hppa⟩ := of_hasPr hs1_4
 obtain ⟨pbx, pby, pbz, pbt, hmpb, hppb⟩ := of_hasPr hs1_5
 go_upto_region 2 with fail
 refine rgM [(4, 24), (4, 0), (0, 1), (0, 2), (0, 3), (0, 4), (0, 5), (0, 6), (0, 7), (0, 8), (0, 9), (0, 10), (0, 11), (0, 12), (0, 13), (0, 14), (0, 15), (0, 16), (0, 17), (0, 18), (0, 19), (0, 20), (0, 21), (0, 22), (0, 23)] [.ptr q2 0, .val rE [pax], .ptr q3 10, .val rE [pbz], .val rE [pax * pbz], .ptr q3 0, .val rE [pbx], .ptr q2 10, .val rE [paz], .val rE [pbx * paz], .oth (fun v => v = .bool false), .oth (fun v => v = .bool false), .oth (fun v => v = undef), .oth (fun v => v = undef), .oth (fun v => v = undef), .oth (fun v => v = undef), .oth (fun v => v = undef), .oth (fun v => v = undef), .oth (fun v => v = undef), .oth (fun v => v = undef), .oth (fun v => v = undef), .oth (fun v => v = undef), .oth (fun v => v = undef), .oth (fun v => v = .bool false), .oth (fun v => v = .bool false)] ?_ ?_
 ·intro hs
  refine ⟨?_, ?_, ?_, ?_, ?_, ?_, ?_, ?_, ?_, ?_, ?_, ?_, ?_, ?_, ?_, ?_, ?_, ?_, ?_, ?_, ?_, ?_, ?_, ?_, ?_, trivial⟩
  ·exact step_field hs Wn rfl rfl (fun _ => E2.out) (field_P0 _)
  ·exact step_loadF 0 q2 0 hs Wn rfl rfl tyE (fun _ => rfl) rfl (by kernel_rfl) hmpa.lt (hmpa.fld 0 1) Na
  ·exact step_field hs Wn rfl rfl (fun _ => E3.out) (field_P2 _)
  ·exact step_loadF 2 q3 10 hs Wn rfl rfl tyE (fun _ => rfl) rfl (by kernel_rfl) hmpb.lt (hmpb.fld 2 1) Na
  ·refine step_call hs Wn rfl fun L u W hJ hG hL hdep K hK => ?_
   have a0 := (vE rE [pax] hG hdep 1)
   have a1 := (vE rE [pbz] hG hdep 3)
   go_simp
   go_at_call 63
   (with_reducible refine (cMul a0 a1 _).mono ?_); rintro e w1 ⟨r, rfl, hr, hb⟩
   exact hK.out _ _ hr hb
  ·exact step_field hs Wn rfl rfl (fun _ => E3.out) (field_P0 _)
  ·exact step_loadF 5 q3 0 hs Wn rfl rfl tyE (fun _ => rfl) rfl (by kernel_rfl) hmpb.lt (hmpb.fld 0 1) Na
  ·exact step_field hs Wn rfl rfl (fun _ => E2.out) (field_P2 _)
  ·exact step_loadF 7 q2 10 hs Wn rfl rfl tyE (fun _ => rfl) rfl (by kernel_rfl) hmpa.lt (hmpa.fld 2 1) Na
  ·refine step_call hs Wn rfl fun L u W hJ hG hL hdep K hK => ?_
   have a0 := (vE rE [pbx] hG hdep 6)
   have a1 := (vE rE [paz] hG hdep 8)
   go_simp
   go_at_call 63
   (with_reducible refine (cMul a0 a1 _).mono ?_); rintro e w1 ⟨r, rfl, hr, hb⟩
   exact hK.out _ _ hr hb
  ·refine step_callO hs Wn rfl fun L u W hJ hG hL hdep K hK => ?_
   have a0 := (vE rE [pax * pbz] hG hdep 4)
   have a1 := (vE rE [pbx * paz] hG hdep 9)
   go_simp
   go_at_call 94
   (with_reducible refine (cSame (b := false) (decide_eq_false fun e => absurd (Prep.same_x hppa.p hppb.p e) HX.out) a0 a1 _).mono ?_); rintro e w1 ⟨rfl, hb⟩
   exact hK.out _ _ rfl hb
  ·exact mvO 10 hs
  ·exact step_outU hs (wants_off 11 rfl rfl rfl (by kernel_rfl) (fun _ => rfl)) rfl
  ·exact step_outU hs (wants_off 11 rfl rfl rfl (by kernel_rfl) (fun _ => rfl)) rfl
  ·exact step_outU hs (wants_off 11 rfl rfl rfl (by kernel_rfl) (fun _ => rfl)) rfl
  ·exact step_outU hs (wants_off 11 rfl rfl rfl (by kernel_rfl) (fun _ => rfl)) rfl
  ·exact step_outU hs (wants_off 11 rfl rfl rfl (by kernel_rfl) (fun _ => rfl)) rfl
  ·exact step_outU hs (wants_off 11 rfl rfl rfl (by kernel_rfl) (fun _ => rfl)) rfl
  ·exact step_outU hs (wants_off 11 rfl rfl rfl (by kernel_rfl) (fun _ => rfl)) rfl
  ·exact step_outU hs (wants_off 11 rfl rfl rfl (by kernel_rfl) (fun _ => rfl)) rfl
  ·exact step_outU hs (wants_off 11 rfl rfl rfl (by kernel_rfl) (fun _ => rfl)) rfl
  ·exact step_outU hs (wants_off 11 rfl rfl rfl (by kernel_rfl) (fun _ => rfl)) rfl
  ·exact step_outU hs (wants_off 11 rfl rfl rfl (by kernel_rfl) (fun _ => rfl)) rfl
  ·exact step_pick false hs Wn rfl rfl (fun L u W hG hdep => (oE (.bool false) hG hdep 11)) (fun L u W hG hdep => rfl)
  ·exact mvO 23 hs
 intro L2 u2 W2 hall hJ hG
 have hb := hJ.all rfl
 have hbel := Below.call hbel hb
 have HC19 := oC (.bool false) hG 10
 have HC20 := oC (.bool false) hG 11
 have HC32 := oC (.bool false) hG 23
 have HC4 := oC (.bool false) hG 24
 have hbel0 := hbel
 clear hJ hG hall hb
 rw [HC4.out]
 go_wp2
 go_ret
 exact ⟨rfl, hbel⟩
set_option maxHeartbeats 4000000 in
theorem psame_1 {v0 v1 : Value} {P Q : EP} {q : Bool} (h0 : IsFs rP v0 [P]) (h1 : IsFs rP v1 [Q]) (hx : P.x = Q.x) (hq : decide (P = Q) = q) (w : World) :
  Calls Tryz.prog 44 #[v0, v1] w fun e w' => e = .returned (.bool q) ∧ Below w.heap.size w w' := by
 have HX := Lib.hid hx; clear hx
 have HQ := Lib.hid hq; clear hq
 go_enter Tryz.func44, Tryz.ntmps44
 have hbel : Below w.heap.size w w := Below.refl _ _
 have hbel0 := hbel
 go_upto_region 0 with fail
 refine rgT [(2, 0), (0, 1), (0, 2)] [.box rP [P], .box rP [Q], .oth (fun v => v = .bool false)] ?_ ?_
 ·intro hs
  refine ⟨?_, ?_, ?_, trivial⟩
  ·exact step_box hs Wn rfl rfl (gives_c h0 (fun _ => rfl))
  ·exact step_box hs Wn rfl rfl (gives_c h1 (fun _ => rfl))
  ·exact mvK hs fun _ => rfl
 intro L0 u0 W0 hall hJ hG
 obtain ⟨q2, e2, ⟨hq2, _⟩, ht2, hm2⟩ := oB 20 rP [P] hG 0
 have hq2 : w.heap.size ≤ q2 := by have := hbel0.size; omega
 have E2 := Lib.hid e2; clear e2
 obtain ⟨q3, e3, ⟨hq3, _⟩, ht3, hm3⟩ := oB 20 rP [Q] hG 1
 have hq3 : w.heap.size ≤ q3 := by have := hbel0.size; omega
 have E3 := Lib.hid e3; clear e3
 have hb := hJ.all rfl
 have hbel := Below.call hbel hb
 have HN2_3 := Lib.hid (show q2 ≠ q3 from fun e => hJ.apart 0 1 _ (by omega) (hall _ (by simp)) (hall _ (by simp)) rfl rfl (E2.out.trans (by rw [e])) E3.out)
 have HC4 := oC (.bool false) hG 2
 have hbel0 := hbel
 clear hJ hG hall hb
 go_upto_region 1 with fail
 refine rgM [(5, 0), (0, 1), (0, 2), (0, 3)] [.val rP [P], .val rPr [P], .val rP [Q], .val rPr [Q], .sto q2 rPr [P], .sto q3 rPr [Q]] ?_ ?_
 ·intro hs
  refine ⟨?_, ?_, ?_, ?_, ?_, ?_, trivial⟩
  ·exact step_load q2 0 hs Wn rfl rfl tyP (fun _ => E2.out) hm2.lt hm2 (fun k g hk => by rcases k with _ | _ | _ | _ | _ | _ | k <;> first | (cases hk; done) | (cases hk; exact .inr (Ne.symm HN2_3.out)) | (cases hk; exact .inl (by kernel_rfl)))
  ·refine step_call hs Wn rfl fun L u W hJ hG hL hdep K hK => ?_
   have a0 := (vE rP [P] hG hdep 0)
   go_simp
   go_at_call 58
   (with_reducible refine (cReady a0 _).mono ?_); rintro e w1 ⟨r, rfl, hr, hb⟩
   exact hK.out _ _ hr hb
  ·exact step_load q3 0 hs Wn rfl rfl tyP (fun _ => E3.out) hm3.lt hm3 (fun k g hk => by rcases k with _ | _ | _ | _ | _ | _ | k <;> first | (cases hk; done) | (cases hk; exact .inr HN2_3.out) | (cases hk; exact .inl (by kernel_rfl)))
  ·refine step_call hs Wn rfl fun L u W hJ hG hL hdep K hK => ?_
   have a0 := (vE rP [Q] hG hdep 2)
   go_simp
   go_at_call 58
   (with_reducible refine (cReady a0 _).mono ?_); rintro e w1 ⟨r, rfl, hr, hb⟩
   exact hK.out _ _ hr hb
  ·refine step_storeO q2 20 hs Wn rfl rfl (by kernel_rfl) (fun k hk => ?_) (fun _ => E2.out) (there_lt ht2 (by omega)) ht2 (gO 1) tyPr rfl
   rcases k with _ | _ | _ | _ | _ | _ | k
   all_goals first | (exact absurd rfl hk) | (intro e; cases e; done) | (intro e; cases e; exact absurd rfl (Ne.symm HN2_3.out))
  ·refine step_storeO q3 20 hs Wn rfl rfl (by kernel_rfl) (fun k hk => ?_) (fun _ => E3.out) (there_lt ht3 (by omega)) ht3 (gO 3) tyPr rfl
   rcases k with _ | _ | _ | _ | _ | _ | k
   all_goals first | (exact absurd rfl hk) | (intro e; cases e; done) | (intro e; cases e; exact absurd rfl HN2_3.out)
 intro L1 u1 W1 hall hJ hG
 have hb : Below w.heap.size W0 W1 := hJ.below (by have := hbel.size; omega) (fun k b hf => by rcases k with _ | _ | _ | _ | _ | _ | k <;> first | (cases hf; done) | (cases hf; omega))
 have hbel := hbel.trans hb
 obtain ⟨_, hs1_4t, hs1_4⟩ := oT 20 rPr [P] hG 4
 obtain ⟨_, hs1_5t, hs1_5⟩ := oT 20 rPr [Q] hG 5
 have hbel0 := hbel
 clear hJ hG hall hb
 obtain ⟨pax, pay, paz, pat, hmpa, hppa⟩ := of_hasPr hs1_4
 obtain ⟨pbx, pby, pbz, pbt, hmpb, hppb⟩ := of_hasPr hs1_5
 go_upto_region 2 with fail
 refine rgM [(4, 24), (4, 0), (0, 1), (0, 2), (0, 3), (0, 4), (0, 5), (0, 6), (0, 7), (0, 8), (0, 9), (0, 10), (0, 11), (0, 12), (0, 13), (0, 14), (0, 15), (0, 16), (0, 17), (0, 18), (0, 19), (0, 20), (0, 21), (0, 22), (0, 23)] [.ptr q2 0, .val rE [pax], .ptr q3 10, .val rE [pbz], .val rE [pax * pbz], .ptr q3 0, .val rE [pbx], .ptr q2 10, .val rE [paz], .val rE [pbx * paz], .oth (fun v => v = .bool true), .oth (fun v => v = .bool true), .ptr q2 5, .val rE [pay], .ptr q3 10, .val rE [pbz], .val rE [pay * pbz], .ptr q3 5, .val rE [pby], .ptr q2 10, .val rE [paz], .val rE [pby * paz], .oth (fun v => v = .bool q), .oth (fun v => v = .bool q), .oth (fun v => v = .bool q)] ?_ ?_
 ·intro hs
  refine ⟨?_, ?_, ?_, ?_, ?_, ?_, ?_, ?_, ?_, ?_, ?_, ?_, ?_, ?_, ?_, ?_, ?_, ?_, ?_, ?_, ?_, ?_, ?_, ?_, ?_, trivial⟩
  ·exact step_field hs Wn rfl rfl (fun _ => E2.out) (field_P0 _)
  ·exact step_loadF 0 q2 0 hs Wn rfl rfl tyE (fun _ => rfl) rfl (by kernel_rfl) hmpa.lt (hmpa.fld 0 1) Na
  ·exact step_field hs Wn rfl rfl (fun _ => E3.out) (field_P2 _)
  ·exact step_loadF 2 q3 10 hs Wn rfl rfl tyE (fun _ => rfl) rfl (by kernel_rfl) hmpb.lt (hmpb.fld 2 1) Na
  ·refine step_call hs Wn rfl fun L u W hJ hG hL hdep K hK => ?_
   have a0 := (vE rE [pax] hG hdep 1)
   have a1 := (vE rE [pbz] hG hdep 3)
   go_simp
   go_at_call 63
   (with_reducible refine (cMul a0 a1 _).mono ?_); rintro e w1 ⟨r, rfl, hr, hb⟩
   exact hK.out _ _ hr hb
  ·exact step_field hs Wn rfl rfl (fun _ => E3.out) (field_P0 _)
  ·exact step_loadF 5 q3 0 hs Wn rfl rfl tyE (fun _ => rfl) rfl (by kernel_rfl) hmpb.lt (hmpb.fld 0 1) Na
  ·exact step_field hs Wn rfl rfl (fun _ => E2.out) (field_P2 _)
  ·exact step_loadF 7 q2 10 hs Wn rfl rfl tyE (fun _ => rfl) rfl (by kernel_rfl) hmpa.lt (hmpa.fld 2 1) Na
  ·refine step_call hs Wn rfl fun L u W hJ hG hL hdep K hK => ?_
   have a0 := (vE rE [pbx] hG hdep 6)
   have a1 := (vE rE [paz] hG hdep 8)
   go_simp
   go_at_call 63
   (with_reducible refine (cMul a0 a1 _).mono ?_); rintro e w1 ⟨r, rfl, hr, hb⟩
   exact hK.out _ _ hr hb
  ·refine step_callO hs Wn rfl fun L u W hJ hG hL hdep K hK => ?_
   have a0 := (vE rE [pax * pbz] hG hdep 4)
   have a1 := (vE rE [pbx * paz] hG hdep 9)
   go_simp
   go_at_call 94
   (with_reducible refine (cSame (b := true) (decide_eq_true (Prep.same_x' hppa.p hppb.p HX.out)) a0 a1 _).mono ?_); rintro e w1 ⟨rfl, hb⟩
   exact hK.out _ _ rfl hb
  ·exact mvO 10 hs
  ·exact step_field hs (wants_on 11 rfl rfl (by kernel_rfl) (fun _ => rfl)) rfl rfl (fun _ => E2.out) (field_P1 _)
  ·exact step_loadF 12 q2 5 hs (wants_on 11 rfl rfl (by kernel_rfl) (fun _ => rfl)) rfl rfl tyE (fun _ => rfl) rfl (by kernel_rfl) hmpa.lt (hmpa.fld 1 1) Na
  ·exact step_field hs (wants_on 11 rfl rfl (by kernel_rfl) (fun _ => rfl)) rfl rfl (fun _ => E3.out) (field_P2 _)
  ·exact step_loadF 14 q3 10 hs (wants_on 11 rfl rfl (by kernel_rfl) (fun _ => rfl)) rfl rfl tyE (fun _ => rfl) rfl (by kernel_rfl) hmpb.lt (hmpb.fld 2 1) Na
  ·refine step_call hs (wants_on 11 rfl rfl (by kernel_rfl) (fun _ => rfl)) rfl fun L u W hJ hG hL hdep K hK => ?_
   have a0 := (vE rE [pay] hG hdep 13)
   have a1 := (vE rE [pbz] hG hdep 15)
   go_simp
   go_at_call 63
   (with_reducible refine (cMul a0 a1 _).mono ?_); rintro e w1 ⟨r, rfl, hr, hb⟩
   exact hK.out _ _ hr hb
  ·exact step_field hs (wants_on 11 rfl rfl (by kernel_rfl) (fun _ => rfl)) rfl rfl (fun _ => E3.out) (field_P1 _)
  ·exact step_loadF 17 q3 5 hs (wants_on 11 rfl rfl (by kernel_rfl) (fun _ => rfl)) rfl rfl tyE (fun _ => rfl) rfl (by kernel_rfl) hmpb.lt (hmpb.fld 1 1) Na
  ·exact step_field hs (wants_on 11 rfl rfl (by kernel_rfl) (fun _ => rfl)) rfl rfl (fun _ => E2.out) (field_P2 _)
  ·exact step_loadF 19 q2 10 hs (wants_on 11 rfl rfl (by kernel_rfl) (fun _ => rfl)) rfl rfl tyE (fun _ => rfl) rfl (by kernel_rfl) hmpa.lt (hmpa.fld 2 1) Na
  ·refine step_call hs (wants_on 11 rfl rfl (by kernel_rfl) (fun _ => rfl)) rfl fun L u W hJ hG hL hdep K hK => ?_
   have a0 := (vE rE [pby] hG hdep 18)
   have a1 := (vE rE [paz] hG hdep 20)
   go_simp
   go_at_call 63
   (with_reducible refine (cMul a0 a1 _).mono ?_); rintro e w1 ⟨r, rfl, hr, hb⟩
   exact hK.out _ _ hr hb
  ·refine step_callO hs (wants_on 11 rfl rfl (by kernel_rfl) (fun _ => rfl)) rfl fun L u W hJ hG hL hdep K hK => ?_
   have a0 := (vE rE [pay * pbz] hG hdep 16)
   have a1 := (vE rE [pby * paz] hG hdep 21)
   go_simp
   go_at_call 94
   (with_reducible refine (cSame (b := q) (Prep.same_y hppa.p hppb.p HX.out HQ.out) a0 a1 _).mono ?_); rintro e w1 ⟨rfl, hb⟩
   exact hK.out _ _ rfl hb
  ·exact step_pick true hs Wn rfl rfl (fun L u W hG hdep => (oE (.bool true) hG hdep 11)) (fun L u W hG hdep => (oE (.bool q) hG hdep 22))
  ·exact mvO 23 hs
 intro L2 u2 W2 hall hJ hG
 have hb := hJ.all rfl
 have hbel := Below.call hbel hb
 have HC19 := oC (.bool true) hG 10
 have HC20 := oC (.bool true) hG 11
 have HC31 := oC (.bool q) hG 22
 have HC32 := oC (.bool q) hG 23
 have HC4 := oC (.bool q) hG 24
 have hbel0 := hbel
 clear hJ hG hall hb
 rw [HC4.out]
 go_wp2
 go_ret
 exact ⟨rfl, hbel⟩
theorem cPSame {v0 v1 : Value} {P Q : EP} {b : Bool} (hq : decide (P = Q) = b) (h0 : IsFs rP v0 [P]) (h1 : IsFs rP v1 [Q]) (w : World) :
  Calls Tryz.prog 44 #[v0, v1] w fun e w' => e = .returned (.bool b) ∧ Below w.heap.size w w' := by
 by_cases hx : P.x = Q.x
 ·exact psame_1 h0 h1 hx hq w
 ·rw [← hq, decide_eq_false (fun e => hx (by rw [e]))]
  exact psame_0 h0 h1 hx w
theorem sc_253 {x : F} (h : x.val < Lq) : x.val / 2 ^ 253 = 0 := Nat.div_eq_of_lt (Nat.lt_trans h (by decide +kernel))
theorem bit_1 {s : F} {i : Nat} (hi : i ≤ 255) (h : s.val / 2 ^ i % 2 = 1) : bitI s (i : Nat) = 1 := by
 unfold bitI; rw [if_pos ⟨by omega, by omega⟩, show (i : Int).toNat = i from rfl, h]; rfl
theorem bit_0 {s : F} {i : Nat} (hi : i ≤ 255) (h : ¬ s.val / 2 ^ i % 2 = 1) : bitI s (i : Nat) = 0 := by
 unfold bitI; rw [if_pos ⟨by omega, by omega⟩, show (i : Int).toNat = i from rfl, show s.val / 2 ^ i % 2 = 0 by omega]; rfl
theorem mul_dig1 {P : EP} {s : F} {i : Nat} (h : s.val / 2 ^ i % 2 = 1) : Cp.add (Cp.add (Cp.mul (s.val / 2 ^ (i + 1)) P) (Cp.mul (s.val / 2 ^ (i + 1)) P)) P = Cp.mul (s.val / 2 ^ i) P := by rw [mul_digit P s.val i, if_pos h]
theorem mul_dig0 {P : EP} {s : F} {i : Nat} (h : ¬ s.val / 2 ^ i % 2 = 1) : Cp.add (Cp.mul (s.val / 2 ^ (i + 1)) P) (Cp.mul (s.val / 2 ^ (i + 1)) P) = Cp.mul (s.val / 2 ^ i) P := by rw [mul_digit P s.val i, if_neg h]
set_option maxHeartbeats 4000000 in
theorem cMult {v0 v1 : Value} {P Q : EP} {s : F} (hq : Cp.mul s.val P = Q) (h0 : IsFs rP v0 [P]) (h1 : IsFs rS v1 [s]) (w : World) :
  Calls Tryz.prog 23 #[v0, v1] w fun e w' => ∃ r, e = .returned r ∧ IsFs rP r [Q] ∧ Below w.heap.size w w' := by
 have HL := Lib.hid (of_isS h1).1
 subst hq
 go_enter Tryz.func23, Tryz.ntmps23
 have hbel : Below w.heap.size w w := Below.refl _ _
 have hbel0 := hbel
 go_upto_region 0 with fail
 refine rgT [(2, 0), (0, 1), (0, 2)] [.box rP [P], .box rS [s], .new 20] ?_ ?_
 ·intro hs
  refine ⟨?_, ?_, ?_, trivial⟩
  ·exact step_box hs Wn rfl rfl (gives_c h0 (fun _ => rfl))
  ·exact step_box hs Wn rfl rfl (gives_c h1 (fun _ => rfl))
  ·exact step_alloc hs Wn rfl rfl (by omega) rfl allocP
 intro L0 u0 W0 hall hJ hG
 obtain ⟨q2, e2, ⟨hq2, _⟩, ht2, hm2⟩ := oB 20 rP [P] hG 0
 have hq2 : w.heap.size ≤ q2 := by have := hbel0.size; omega
 have E2 := Lib.hid e2; clear e2
 obtain ⟨q3, e3, ⟨hq3, _⟩, ht3, hm3⟩ := oB 4 rS [s] hG 1
 have hq3 : w.heap.size ≤ q3 := by have := hbel0.size; omega
 have E3 := Lib.hid e3; clear e3
 obtain ⟨q4, e4, hq4, _, ht4⟩ := oN 20 hG 2
 have hq4 : w.heap.size ≤ q4 := by have := hbel0.size; omega
 have E4 := Lib.hid e4; clear e4
 have hb := hJ.all rfl
 have hbel := Below.call hbel hb
 have HN2_3 := Lib.hid (show q2 ≠ q3 from fun e => hJ.apart 0 1 _ (by omega) (hall _ (by simp)) (hall _ (by simp)) rfl rfl (E2.out.trans (by rw [e])) E3.out)
 have HN2_4 := Lib.hid (show q2 ≠ q4 from fun e => hJ.apart 0 2 _ (by omega) (hall _ (by simp)) (hall _ (by simp)) rfl rfl (E2.out.trans (by rw [e])) E4.out)
 have HN3_4 := Lib.hid (show q3 ≠ q4 from fun e => hJ.apart 1 2 _ (by omega) (hall _ (by simp)) (hall _ (by simp)) rfl rfl (E3.out.trans (by rw [e])) E4.out)
 have hbel0 := hbel
 clear hJ hG hall hb
 go_upto_region 1 with fail
 refine rgT [(8, 0), (0, 1)] [.val rP [P], .val rPr [P], .sto q2 rPr [P]] ?_ ?_
 ·intro hs
  refine ⟨?_, ?_, ?_, trivial⟩
  ·exact step_load q2 0 hs Wn rfl rfl tyP (fun _ => E2.out) hm2.lt hm2 Na
  ·refine step_call hs Wn rfl fun L u W hJ hG hL hdep K hK => ?_
   have a0 := (vE rP [P] hG hdep 0)
   go_simp
   go_at_call 58
   (with_reducible refine (cReady a0 _).mono ?_); rintro e w1 ⟨r, rfl, hr, hb⟩
   exact hK.out _ _ hr hb
  ·refine step_storeO q2 20 hs Wn rfl rfl (by kernel_rfl) (fun k hk => ?_) (fun _ => E2.out) (there_lt ht2 (by omega)) ht2 (gO 1) tyPr rfl
   rcases k with _ | _ | _ | k
   all_goals first | (exact absurd rfl hk) | (intro e; cases e; done)
 intro L1 u1 W1 hall hJ hG
 have hb := hJ.beN hbel
 have hbel := hbel.trans hb
 have hm3 := kB hm3 hJ HN2_3.out
 have ht3 := tB ht3 hJ HN2_3.out
 have ht4 := tB ht4 hJ HN2_4.out
 obtain ⟨_, hs1_2t, hs1_2⟩ := oT 20 rPr [P] hG 2
 have hbel0 := hbel
 clear hJ hG hall hb
 go_upto_region 2 with fail
 refine rgT [(5, 1), (4, 0)] [.val rE [dE2], .new 5, .st 1 rE [dE2]] ?_ ?_
 ·intro hs
  refine ⟨?_, ?_, ?_, trivial⟩
  ·refine step_call hs Wn rfl fun L u W hJ hG hL hdep K hK => ?_
   go_simp
   go_at_call 59
   (with_reducible refine (cTwice _).mono ?_); rintro e w1 ⟨r, rfl, hr, hb⟩
   exact hK.out _ _ hr hb
  ·exact step_alloc hs Wn rfl rfl (by omega) rfl allocE
  ·exact step_store 1 hs (by kernel_rfl) Wn rfl rfl rfl (by kernel_rfl) (by kernel_rfl) (by kernel_rfl) (by kernel_rfl) (fun _ => rfl) (gO 0) tyE rfl
 intro L2 u2 W2 hall hJ hG
 obtain ⟨q5, e5, hq5, _, ht5⟩ := oN 5 hG 1
 have hm5 := oS rE [dE2] hG 2 e5
 have HD5_q2 := Lib.hid (show q2 ≠ q5 by have := there_lt hs1_2t (by omega); omega)
 have HD5_q3 := Lib.hid (show q3 ≠ q5 by have := there_lt ht3 (by omega); omega)
 have HD5_q4 := Lib.hid (show q4 ≠ q5 by have := there_lt ht4 (by omega); omega)
 have hq5 : w.heap.size ≤ q5 := by have := hbel0.size; omega
 have E5 := Lib.hid e5; clear e5
 have hb := hJ.all rfl
 have hbel := Below.call hbel hb
 have hs1_2 := hs1_2.later hb
 have hm3 := hm3.later hb
 have hs1_2t := there_later hs1_2t hb
 have ht3 := there_later ht3 hb
 have ht4 := there_later ht4 hb
 have hbel0 := hbel
 clear hJ hG hall hb
 go_upto_region 3 with fail
 refine rgT [(6, 2), (4, 0), (0, 1)] [.val rP [Cp.zero], .val rPr [Cp.zero], .new 20, .st 2 rPr [Cp.zero]] ?_ ?_
 ·intro hs
  refine ⟨?_, ?_, ?_, ?_, trivial⟩
  ·exact step_pure hs Wn rfl fun L u W hG hdep => run_build0 rfl (build_P0 W)
  ·refine step_call hs Wn rfl fun L u W hJ hG hL hdep K hK => ?_
   have a0 := (vE rP [Cp.zero] hG hdep 0)
   go_simp
   go_at_call 58
   (with_reducible refine (cReady a0 _).mono ?_); rintro e w1 ⟨r, rfl, hr, hb⟩
   exact hK.out _ _ hr hb
  ·exact step_alloc hs Wn rfl rfl (by omega) rfl allocP
  ·exact step_store 2 hs (by kernel_rfl) Wn rfl rfl rfl (by kernel_rfl) (by kernel_rfl) (by kernel_rfl) (by kernel_rfl) (fun _ => rfl) (gO 1) tyPr rfl
 intro L3 u3 W3 hall hJ hG
 obtain ⟨q6, e6, hq6, _, ht6⟩ := oN 20 hG 2
 have hm6 := oS rPr [Cp.zero] hG 3 e6
 have HD6_q2 := Lib.hid (show q2 ≠ q6 by have := there_lt hs1_2t (by omega); omega)
 have HD6_q3 := Lib.hid (show q3 ≠ q6 by have := there_lt ht3 (by omega); omega)
 have HD6_q4 := Lib.hid (show q4 ≠ q6 by have := there_lt ht4 (by omega); omega)
 have HD6_q5 := Lib.hid (show q5 ≠ q6 by have := there_lt ht5 (by omega); omega)
 have hq6 : w.heap.size ≤ q6 := by have := hbel0.size; omega
 have E6 := Lib.hid e6; clear e6
 have hb := hJ.all rfl
 have hbel := Below.call hbel hb
 have hs1_2 := hs1_2.later hb
 have hm3 := hm3.later hb
 have hm5 := hm5.later hb
 have hs1_2t := there_later hs1_2t hb
 have ht3 := there_later ht3 hb
 have ht4 := there_later ht4 hb
 have ht5 := there_later ht5 hb
 have hbel0 := hbel
 clear hJ hG hall hb
 go_wp2_with fail
 go_loopw [7] (fun sk wr => ∃ j : Nat, j ≤ 253 ∧ sk = .int .i64 ((j : Int) - 1) ∧ HasFs rPr wr q2 0 [P] ∧ HasFs rS wr q3 0 [s] ∧ HasFs rE wr q5 0 [dE2] ∧ HasFs rPr wr q6 0 [Cp.mul (s.val / 2 ^ j) P] ∧ wr.there q2 0 20 ∧ wr.there q3 0 4 ∧ wr.there q5 0 5 ∧ wr.there q6 0 20 ∧ wr.there q4 0 20 ∧ Below w.heap.size w wr) (fun t _ => (intOf t + 1).toNat)
 case atStart => exact ⟨253, by omega, by simp, hs1_2, hm3, hm5, (by rw [sc_253 HL.out]; exact hm6), hs1_2t, ht3, ht5, ht6, ht4, hbel⟩
 case round =>
  obtain ⟨j, hj, rfl, hmP, hmS, hmD, hmO, ht2', ht3', ht5', ht6', ht4', hbel'⟩ := hrel
  clear hm3 hm5 hm6 hs1_2 hs1_2t ht3 ht4 ht5 ht6 hbel hbel0 h0 h1
  have hbel := hbel'
  have hbel0 := hbel'
  by_cases h0 : 0 < j
  ·obtain ⟨i, rfl⟩ : ∃ i, j = i + 1 := ⟨j - 1, by omega⟩
   have hz : (((i + 1 : Nat) : Int) - 1) = (i : Int) := by omega
   simp only [hz]
   have h1 : (0 : Int) ≤ (i : Int) := by omega
   have h2 : (i : Int) < 256 := by omega
   have HI : Hid (i + 1 ≤ 253) := Lib.hid (by omega)
   clear hz h0 hj
   go_upto_region 7 with fail
   refine rgT [(17, 0), (0, 1), (0, 2), (0, 3)] [.val rPr [Cp.mul (s.val / 2 ^ (i + 1)) P], .val rPr [Cp.mul (s.val / 2 ^ (i + 1)) P], .val rE [dE2], .val rPr [Cp.add (Cp.mul (s.val / 2 ^ (i + 1)) P) (Cp.mul (s.val / 2 ^ (i + 1)) P)], .sto q6 rPr [Cp.add (Cp.mul (s.val / 2 ^ (i + 1)) P) (Cp.mul (s.val / 2 ^ (i + 1)) P)]] ?_ ?_
   ·intro hs
    refine ⟨?_, ?_, ?_, ?_, ?_, trivial⟩
    ·exact step_load q6 0 hs Wn rfl rfl tyPr (fun _ => E6.out) hmO.lt hmO Na
    ·exact step_load q6 0 hs Wn rfl rfl tyPr (fun _ => E6.out) hmO.lt hmO Na
    ·exact step_load q5 0 hs Wn rfl rfl tyE (fun _ => E5.out) hmD.lt hmD (apN (Ne.symm HD6_q5.out))
    ·refine step_call hs Wn rfl fun L u W hJ hG hL hdep K hK => ?_
     have a0 := (vE rPr [Cp.mul (s.val / 2 ^ (i + 1)) P] hG hdep 0)
     have a1 := (vE rPr [Cp.mul (s.val / 2 ^ (i + 1)) P] hG hdep 1)
     have a2 := (vE rE [dE2] hG hdep 2)
     go_simp
     go_at_call 60
     (with_reducible refine (cSum a0 a1 a2 _).mono ?_); rintro e w1 ⟨r, rfl, hr, hb⟩
     exact hK.out _ _ hr hb
    ·refine step_storeO q6 20 hs Wn rfl rfl (by kernel_rfl) (fun k hk => ?_) (fun _ => E6.out) (there_lt ht6' (by omega)) ht6' (gO 3) tyPr rfl
     rcases k with _ | _ | _ | _ | _ | k
     all_goals first | (exact absurd rfl hk) | (intro e; cases e; done)
   intro L7 u7 W7 hall hJ hG
   have hb := hJ.beN hbel
   have hbel := hbel.trans hb
   have hmP := kC hmP hJ HD6_q2.out
   have hmS := kC hmS hJ HD6_q3.out
   have hmD := kC hmD hJ HD6_q5.out
   have ht2' := tC ht2' hJ HD6_q2.out
   have ht3' := tC ht3' hJ HD6_q3.out
   have ht5' := tC ht5' hJ HD6_q5.out
   have ht4' := tC ht4' hJ HD6_q4.out
   obtain ⟨_, hs7_4t, hs7_4⟩ := oT 20 rPr [Cp.add (Cp.mul (s.val / 2 ^ (i + 1)) P) (Cp.mul (s.val / 2 ^ (i + 1)) P)] hG 4
   have hbel0 := hbel
   clear hJ hG hall hb
   by_cases hb1 : s.val / 2 ^ i % 2 = 1
   ·have HB := Lib.hid hb1; clear hb1
    go_upto_region 8 with fail
    refine rgT [(21, 0), (0, 1), (0, 2), (0, 3)] [.val rS [s], .oth (fun v => v = .int .i64 (i : Int)), .oth (fun v => v = .int .i64 1), .oth (fun v => v = .bool true)] ?_ ?_
    ·intro hs
     refine ⟨?_, ?_, ?_, ?_, trivial⟩
     ·exact step_load q3 0 hs Wn rfl rfl tyS (fun _ => E3.out) hmS.lt hmS Na
     ·exact mvK hs fun _ => rfl
     ·refine step_callO hs Wn rfl fun L u W hJ hG hL hdep K hK => ?_
      have a0 := (vE rS [s] hG hdep 0)
      have x0 := (oE (.int .i64 (i : Int)) hG hdep 1)
      go_simp
      go_at_call 61
      (with_reducible refine (cScBit (z := 1) (bit_1 (by have := HI.out; omega) HB.out) a0 _).mono ?_); rintro e w1 ⟨rfl, hb⟩
      have hk := hK.out _ _ rfl hb
      simp only [x0] at hk
      exact hk
     ·refine step_pureO hs Wn rfl fun L u W hG hdep => ⟨_, ?_, rfl⟩
      have e0 := (oE (.int .i64 1) hG hdep 2)
      go_simp
      try simp [bne]
    intro L8 u8y W8y hall hJ hG
    have hb := hJ.all rfl
    have hbel := Below.call hbel hb
    have hmP := hmP.later hb
    have hmS := hmS.later hb
    have hmD := hmD.later hb
    have hs7_4 := hs7_4.later hb
    have ht2' := there_later ht2' hb
    have ht3' := there_later ht3' hb
    have ht5' := there_later ht5' hb
    have hs7_4t := there_later hs7_4t hb
    have ht4' := there_later ht4' hb
    have HC24 := oC (.bool true) hG 3
    have hbel0 := hbel
    clear hJ hG hall hb
    have hx : u8y 3 = .bool true := HC24.out
    go_wp2_with fail
    rw [hx]
    clear hx
    go_upto_region 9 with fail
    refine rgT [(25, 0), (0, 1), (0, 2), (0, 3)] [.val rPr [Cp.add (Cp.mul (s.val / 2 ^ (i + 1)) P) (Cp.mul (s.val / 2 ^ (i + 1)) P)], .val rPr [P], .val rE [dE2], .val rPr [Cp.add (Cp.add (Cp.mul (s.val / 2 ^ (i + 1)) P) (Cp.mul (s.val / 2 ^ (i + 1)) P)) P], .sto q6 rPr [Cp.add (Cp.add (Cp.mul (s.val / 2 ^ (i + 1)) P) (Cp.mul (s.val / 2 ^ (i + 1)) P)) P]] ?_ ?_
    ·intro hs
     refine ⟨?_, ?_, ?_, ?_, ?_, trivial⟩
     ·exact step_load q6 0 hs Wn rfl rfl tyPr (fun _ => E6.out) hs7_4.lt hs7_4 Na
     ·exact step_load q2 0 hs Wn rfl rfl tyPr (fun _ => E2.out) hmP.lt hmP (apN (Ne.symm HD6_q2.out))
     ·exact step_load q5 0 hs Wn rfl rfl tyE (fun _ => E5.out) hmD.lt hmD (apN (Ne.symm HD6_q5.out))
     ·refine step_call hs Wn rfl fun L u W hJ hG hL hdep K hK => ?_
      have a0 := (vE rPr [Cp.add (Cp.mul (s.val / 2 ^ (i + 1)) P) (Cp.mul (s.val / 2 ^ (i + 1)) P)] hG hdep 0)
      have a1 := (vE rPr [P] hG hdep 1)
      have a2 := (vE rE [dE2] hG hdep 2)
      go_simp
      go_at_call 60
      (with_reducible refine (cSum a0 a1 a2 _).mono ?_); rintro e w1 ⟨r, rfl, hr, hb⟩
      exact hK.out _ _ hr hb
     ·refine step_storeO q6 20 hs Wn rfl rfl (by kernel_rfl) (fun k hk => ?_) (fun _ => E6.out) (there_lt hs7_4t (by omega)) hs7_4t (gO 3) tyPr rfl
      rcases k with _ | _ | _ | _ | _ | k
      all_goals first | (exact absurd rfl hk) | (intro e; cases e; done)
    intro L9 u9y W9y hall hJ hG
    have hb := hJ.beN hbel
    have hbel := hbel.trans hb
    have hmP := kC hmP hJ HD6_q2.out
    have hmS := kC hmS hJ HD6_q3.out
    have hmD := kC hmD hJ HD6_q5.out
    have ht2' := tC ht2' hJ HD6_q2.out
    have ht3' := tC ht3' hJ HD6_q3.out
    have ht5' := tC ht5' hJ HD6_q5.out
    have ht4' := tC ht4' hJ HD6_q4.out
    obtain ⟨_, hs9_4t, hs9_4⟩ := oT 20 rPr [Cp.add (Cp.add (Cp.mul (s.val / 2 ^ (i + 1)) P) (Cp.mul (s.val / 2 ^ (i + 1)) P)) P] hG 4
    have hbel0 := hbel
    clear hJ hG hall hb
    go_wp2_with fail
    go_roundw
    case rel => exact ⟨i, by have := HI.out; omega, by go_num, hmP, hmS, hmD, (by rw [← mul_dig1 HB.out]; exact hs9_4), ht2', ht3', ht5', hs9_4t, ht4', hbel⟩
    case measure => simp [intOf]
   ·have HB := Lib.hid hb1; clear hb1
    go_upto_region 8 with fail
    refine rgT [(21, 0), (0, 1), (0, 2), (0, 3)] [.val rS [s], .oth (fun v => v = .int .i64 (i : Int)), .oth (fun v => v = .int .i64 0), .oth (fun v => v = .bool false)] ?_ ?_
    ·intro hs
     refine ⟨?_, ?_, ?_, ?_, trivial⟩
     ·exact step_load q3 0 hs Wn rfl rfl tyS (fun _ => E3.out) hmS.lt hmS Na
     ·exact mvK hs fun _ => rfl
     ·refine step_callO hs Wn rfl fun L u W hJ hG hL hdep K hK => ?_
      have a0 := (vE rS [s] hG hdep 0)
      have x0 := (oE (.int .i64 (i : Int)) hG hdep 1)
      go_simp
      go_at_call 61
      (with_reducible refine (cScBit (z := 0) (bit_0 (by have := HI.out; omega) HB.out) a0 _).mono ?_); rintro e w1 ⟨rfl, hb⟩
      have hk := hK.out _ _ rfl hb
      simp only [x0] at hk
      exact hk
     ·refine step_pureO hs Wn rfl fun L u W hG hdep => ⟨_, ?_, rfl⟩
      have e0 := (oE (.int .i64 0) hG hdep 2)
      go_simp
      try simp [bne]
    intro L8 u8n W8n hall hJ hG
    have hb := hJ.all rfl
    have hbel := Below.call hbel hb
    have hmP := hmP.later hb
    have hmS := hmS.later hb
    have hmD := hmD.later hb
    have hs7_4 := hs7_4.later hb
    have ht2' := there_later ht2' hb
    have ht3' := there_later ht3' hb
    have ht5' := there_later ht5' hb
    have hs7_4t := there_later hs7_4t hb
    have ht4' := there_later ht4' hb
    have HC24 := oC (.bool false) hG 3
    have hbel0 := hbel
    clear hJ hG hall hb
    have hx : u8n 3 = .bool false := HC24.out
    go_wp2_with fail
    rw [hx]
    clear hx
    go_wp2_with fail
    go_roundw
    case rel => exact ⟨i, by have := HI.out; omega, by go_num, hmP, hmS, hmD, (by rw [← mul_dig0 HB.out]; exact hs7_4), ht2', ht3', ht5', hs7_4t, ht4', hbel⟩
    case measure => simp [intOf]
  ·obtain rfl : j = 0 := by omega
   have hz : (((0 : Nat) : Int) - 1) = -1 := by omega
   simp only [hz]
   clear hz h0 hj
   go_upto_region 10 with fail
   refine rgT [(29, 0)] [.val rPr [Cp.mul (s.val / 2 ^ 0) P], .sto q4 rPr [Cp.mul (s.val / 2 ^ 0) P]] ?_ ?_
   ·intro hs
    refine ⟨?_, ?_, trivial⟩
    ·exact step_load q6 0 hs Wn rfl rfl tyPr (fun _ => E6.out) hmO.lt hmO (apN HD6_q4.out)
    ·refine step_storeO q4 20 hs Wn rfl rfl (by kernel_rfl) (fun k hk => ?_) (fun _ => E4.out) (there_lt ht4' (by omega)) ht4' (gO 0) tyPr rfl
     rcases k with _ | _ | k
     all_goals first | (exact absurd rfl hk) | (intro e; cases e; done)
   intro L10 u10 W10 hall hJ hG
   have hb := hJ.beN hbel
   have hbel := hbel.trans hb
   have hmP := kC hmP hJ HN2_4.out
   have hmS := kC hmS hJ HN3_4.out
   have hmD := kB hmD hJ HD5_q4.out
   have hmO := kB hmO hJ HD6_q4.out
   have ht2' := tC ht2' hJ HN2_4.out
   have ht3' := tC ht3' hJ HN3_4.out
   have ht5' := tB ht5' hJ HD5_q4.out
   have ht6' := tB ht6' hJ HD6_q4.out
   obtain ⟨_, hs10_1t, hs10_1⟩ := oT 20 rPr [Cp.mul (s.val / 2 ^ 0) P] hG 1
   have hbel0 := hbel
   clear hJ hG hall hb
   go_wp2
   exact ret_cell1 (R := rPr) Tryz.results23 (by exact E4.out) hs10_1 tyPr rfl (fun r hr => ⟨r, rfl, by rw [Nat.pow_zero, Nat.div_one] at hr; exact toP hr, hbel⟩)
theorem cLittle64 {n : Nat} (hn : n < 18446744073709551616) (w : World) :
  Calls Tryz.prog 71 #[.int .u64 n] w fun e w' => ∃ g m cap r, e = .returned (.slice (some ⟨g, 0, none⟩) m cap) ∧ w.heap.size ≤ g ∧ Blk w' g ((leB 8 n).map bV ++ r) 5 ∧ (leB 8 n).length = m ∧ m ≤ cap ∧ cap ≤ maxLen ∧ Below w.heap.size w w' :=
 (little_any hn w).mono fun _ _ ⟨he, hB, hb⟩ => ⟨w.heap.size, 8, 8, [], he, Nat.le_refl _, by rw [List.append_nil]; exact hB, leB_len _ _, Nat.le_refl _, by unfold maxLen; omega, hb⟩
def timesP (k : Int) (P : EP) : EP := if 0 ≤ k ∧ k ≤ 2147483648 then Cp.mul k.toNat P else Cp.zero
theorem wide_small {k : Nat} (h : k ≤ 2147483648) : wS (leB 8 k) = fn k := by
 unfold wS
 rw [leN_first]
 have e : leN ((leB 8 k).take 64) = k := by
  rw [List.take_of_length_le (by rw [leB_len]; omega), leN_leB]
  exact Nat.mod_eq_of_lt (by omega)
 rw [e, Nat.mod_eq_of_lt (by unfold Lq; omega)]
theorem fn_31 {k : Nat} (h : k ≤ 2147483648) : (fn k).val = k := Nat.mod_eq_of_lt (by unfold Pq; omega)
set_option maxHeartbeats 4000000 in
theorem times_lo {v0 : Value} {P : EP} (h0 : IsFs rP v0 [P]) {k : Int} (hk : k < 0) (w : World) :
  Calls Tryz.prog 98 #[v0, .int .i64 k] w fun e w' => ∃ r, e = .returned r ∧ IsFs rP r [Cp.zero] ∧ Below w.heap.size w w' := by
 have d1 : decide (k < 0) = true := decide_eq_true hk
 clear hk
 go_enter Tryz.func98, Tryz.ntmps98
 have hbel : Below w.heap.size w w := Below.refl _ _
 have hbel0 := hbel
 go_upto_region 0 with fail
 refine rgT [(2, 0), (1, 1)] [.box rP [P], .new 20] ?_ ?_
 ·intro hs
  refine ⟨?_, ?_, trivial⟩
  ·exact step_box hs Wn rfl rfl (gives_c h0 (fun _ => rfl))
  ·exact step_alloc hs Wn rfl rfl (by omega) rfl allocP
 intro L0 u0 W0 hall hJ hG
 obtain ⟨q2, e2, ⟨hq2, _⟩, ht2, hm2⟩ := oB 20 rP [P] hG 0
 have hq2 : w.heap.size ≤ q2 := by have := hbel0.size; omega
 have E2 := Lib.hid e2; clear e2
 obtain ⟨q4, e4, hq4, _, ht4⟩ := oN 20 hG 1
 have hq4 : w.heap.size ≤ q4 := by have := hbel0.size; omega
 have E4 := Lib.hid e4; clear e4
 have hb := hJ.all rfl
 have hbel := Below.call hbel hb
 have HN2_4 := Lib.hid (show q2 ≠ q4 from fun e => hJ.apart 0 1 _ (by omega) (hall _ (by simp)) (hall _ (by simp)) rfl rfl (E2.out.trans (by rw [e])) E4.out)
 have hbel0 := hbel
 clear hJ hG hall hb
 go_upto_region 1 with fail
 refine rgT [(5, 0), (0, 1), (0, 2), (0, 3), (0, 4), (0, 5)] [.oth (fun v => v = .int .i64 k), .oth (fun v => v = .bool true), .oth (fun v => v = .bool true), .oth (fun v => v = undef), .oth (fun v => v = undef), .oth (fun v => v = .bool true)] ?_ ?_
 ·intro hs
  refine ⟨?_, ?_, ?_, ?_, ?_, ?_, trivial⟩
  ·exact mvK hs fun _ => rfl
  ·refine step_pureO hs Wn rfl fun L u W hG hdep => ⟨_, ?_, rfl⟩
   have e0 := (oE (.int .i64 k) hG hdep 0)
   go_simp
  ·exact mvO 1 hs
  ·exact step_outU hs (wants_off 2 rfl rfl rfl (by kernel_rfl) (fun _ => rfl)) rfl
  ·exact step_outU hs (wants_off 2 rfl rfl rfl (by kernel_rfl) (fun _ => rfl)) rfl
  ·exact step_pick true hs Wn rfl rfl (fun L u W hG hdep => (oE (.bool true) hG hdep 2)) (fun L u W hG hdep => rfl)
 intro L1 u1 W1 hall hJ hG
 have hb := hJ.all rfl
 have hbel := Below.call hbel hb
 have hm2 := hm2.later hb
 have ht2 := there_later ht2 hb
 have ht4 := there_later ht4 hb
 have HC6 := oC (.bool true) hG 1
 have HC7 := oC (.bool true) hG 2
 have HC10 := oC (.bool true) hG 5
 have hbel0 := hbel
 clear hJ hG hall hb
 have hx : u1 5 = .bool true := HC10.out
 go_wp2_with fail
 rw [hx]
 clear hx
 go_upto_region 2 with fail
 refine rgT [(11, 0)] [.val rP [Cp.zero], .sto q4 rP [Cp.zero]] ?_ ?_
 ·intro hs
  refine ⟨?_, ?_, trivial⟩
  ·exact step_pure hs Wn rfl fun L u W hG hdep => run_build0 rfl (build_P0 W)
  ·refine step_storeO q4 20 hs Wn rfl rfl (by kernel_rfl) (fun k hk => ?_) (fun _ => E4.out) (there_lt ht4 (by omega)) ht4 (gO 0) tyP rfl
   rcases k with _ | _ | k
   all_goals first | (exact absurd rfl hk) | (intro e; cases e; done)
 intro L2 u2 W2 hall hJ hG
 have hb := hJ.beN hbel
 have hbel := hbel.trans hb
 have hm2 := kC hm2 hJ HN2_4.out
 have ht2 := tC ht2 hJ HN2_4.out
 obtain ⟨_, hs2_1t, hs2_1⟩ := oT 20 rP [Cp.zero] hG 1
 have hbel0 := hbel
 clear hJ hG hall hb
 go_wp2
 exact ret_cell1 (R := rP) Tryz.results98 (by exact E4.out) hs2_1 tyP rfl (fun r hr => ⟨r, rfl, hr, hbel⟩)
set_option maxHeartbeats 4000000 in
theorem times_hi {v0 : Value} {P : EP} (h0 : IsFs rP v0 [P]) {k : Int} (hk : 2147483648 < k) (w : World) :
  Calls Tryz.prog 98 #[v0, .int .i64 k] w fun e w' => ∃ r, e = .returned r ∧ IsFs rP r [Cp.zero] ∧ Below w.heap.size w w' := by
 have d1 : decide (k < 0) = false := decide_eq_false (by omega)
 have d2 : decide (2147483648 < k) = true := decide_eq_true hk
 clear hk
 go_enter Tryz.func98, Tryz.ntmps98
 have hbel : Below w.heap.size w w := Below.refl _ _
 have hbel0 := hbel
 go_upto_region 0 with fail
 refine rgT [(2, 0), (1, 1)] [.box rP [P], .new 20] ?_ ?_
 ·intro hs
  refine ⟨?_, ?_, trivial⟩
  ·exact step_box hs Wn rfl rfl (gives_c h0 (fun _ => rfl))
  ·exact step_alloc hs Wn rfl rfl (by omega) rfl allocP
 intro L0 u0 W0 hall hJ hG
 obtain ⟨q2, e2, ⟨hq2, _⟩, ht2, hm2⟩ := oB 20 rP [P] hG 0
 have hq2 : w.heap.size ≤ q2 := by have := hbel0.size; omega
 have E2 := Lib.hid e2; clear e2
 obtain ⟨q4, e4, hq4, _, ht4⟩ := oN 20 hG 1
 have hq4 : w.heap.size ≤ q4 := by have := hbel0.size; omega
 have E4 := Lib.hid e4; clear e4
 have hb := hJ.all rfl
 have hbel := Below.call hbel hb
 have HN2_4 := Lib.hid (show q2 ≠ q4 from fun e => hJ.apart 0 1 _ (by omega) (hall _ (by simp)) (hall _ (by simp)) rfl rfl (E2.out.trans (by rw [e])) E4.out)
 have hbel0 := hbel
 clear hJ hG hall hb
 go_upto_region 1 with fail
 refine rgT [(5, 0), (0, 1), (0, 2), (0, 3), (0, 4), (0, 5)] [.oth (fun v => v = .int .i64 k), .oth (fun v => v = .bool false), .oth (fun v => v = .bool false), .oth (fun v => v = .int .i64 k), .oth (fun v => v = .bool true), .oth (fun v => v = .bool true)] ?_ ?_
 ·intro hs
  refine ⟨?_, ?_, ?_, ?_, ?_, ?_, trivial⟩
  ·exact mvK hs fun _ => rfl
  ·refine step_pureO hs Wn rfl fun L u W hG hdep => ⟨_, ?_, rfl⟩
   have e0 := (oE (.int .i64 k) hG hdep 0)
   go_simp
  ·exact mvO 1 hs
  ·exact step_pureO hs (wants_on 2 rfl rfl (by kernel_rfl) (fun _ => rfl)) rfl fun L u W hG hdep => ⟨_, run_move rfl, rfl⟩
  ·refine step_pureO hs (wants_on 2 rfl rfl (by kernel_rfl) (fun _ => rfl)) rfl fun L u W hG hdep => ⟨_, ?_, rfl⟩
   have e0 := (oE (.int .i64 k) hG hdep 3)
   go_simp
  ·exact step_pick false hs Wn rfl rfl (fun L u W hG hdep => (oE (.bool false) hG hdep 2)) (fun L u W hG hdep => (oE (.bool true) hG hdep 4))
 intro L1 u1 W1 hall hJ hG
 have hb := hJ.all rfl
 have hbel := Below.call hbel hb
 have hm2 := hm2.later hb
 have ht2 := there_later ht2 hb
 have ht4 := there_later ht4 hb
 have HC6 := oC (.bool false) hG 1
 have HC7 := oC (.bool false) hG 2
 have HC9 := oC (.bool true) hG 4
 have HC10 := oC (.bool true) hG 5
 have hbel0 := hbel
 clear hJ hG hall hb
 have hx : u1 5 = .bool true := HC10.out
 go_wp2_with fail
 rw [hx]
 clear hx
 go_upto_region 2 with fail
 refine rgT [(11, 0)] [.val rP [Cp.zero], .sto q4 rP [Cp.zero]] ?_ ?_
 ·intro hs
  refine ⟨?_, ?_, trivial⟩
  ·exact step_pure hs Wn rfl fun L u W hG hdep => run_build0 rfl (build_P0 W)
  ·refine step_storeO q4 20 hs Wn rfl rfl (by kernel_rfl) (fun k hk => ?_) (fun _ => E4.out) (there_lt ht4 (by omega)) ht4 (gO 0) tyP rfl
   rcases k with _ | _ | k
   all_goals first | (exact absurd rfl hk) | (intro e; cases e; done)
 intro L2 u2 W2 hall hJ hG
 have hb := hJ.beN hbel
 have hbel := hbel.trans hb
 have hm2 := kC hm2 hJ HN2_4.out
 have ht2 := tC ht2 hJ HN2_4.out
 obtain ⟨_, hs2_1t, hs2_1⟩ := oT 20 rP [Cp.zero] hG 1
 have hbel0 := hbel
 clear hJ hG hall hb
 go_wp2
 exact ret_cell1 (R := rP) Tryz.results98 (by exact E4.out) hs2_1 tyP rfl (fun r hr => ⟨r, rfl, hr, hbel⟩)
set_option maxHeartbeats 4000000 in
theorem times_in {v0 : Value} {P : EP} (h0 : IsFs rP v0 [P]) {kn : Nat} (hk : kn ≤ 2147483648) (w : World) :
  Calls Tryz.prog 98 #[v0, .int .i64 (kn : Nat)] w fun e w' => ∃ r, e = .returned r ∧ IsFs rP r [Cp.mul kn P] ∧ Below w.heap.size w w' := by
 have d1 : decide ((kn : Int) < 0) = false := decide_eq_false (by omega)
 have d2 : decide (2147483648 < (kn : Int)) = false := decide_eq_false (by omega)
 have HK := Lib.hid hk
 have HC : Hid (IntKind.u64.wrap (kn : Int) = (kn : Nat)) := Lib.hid (by rw [wrapU]; omega)
 clear hk
 go_enter Tryz.func98, Tryz.ntmps98
 have hbel : Below w.heap.size w w := Below.refl _ _
 have hbel0 := hbel
 go_upto_region 0 with fail
 refine rgT [(2, 0), (1, 1)] [.box rP [P], .new 20] ?_ ?_
 ·intro hs
  refine ⟨?_, ?_, trivial⟩
  ·exact step_box hs Wn rfl rfl (gives_c h0 (fun _ => rfl))
  ·exact step_alloc hs Wn rfl rfl (by omega) rfl allocP
 intro L0 u0 W0 hall hJ hG
 obtain ⟨q2, e2, ⟨hq2, _⟩, ht2, hm2⟩ := oB 20 rP [P] hG 0
 have hq2 : w.heap.size ≤ q2 := by have := hbel0.size; omega
 have E2 := Lib.hid e2; clear e2
 obtain ⟨q4, e4, hq4, _, ht4⟩ := oN 20 hG 1
 have hq4 : w.heap.size ≤ q4 := by have := hbel0.size; omega
 have E4 := Lib.hid e4; clear e4
 have hb := hJ.all rfl
 have hbel := Below.call hbel hb
 have HN2_4 := Lib.hid (show q2 ≠ q4 from fun e => hJ.apart 0 1 _ (by omega) (hall _ (by simp)) (hall _ (by simp)) rfl rfl (E2.out.trans (by rw [e])) E4.out)
 have hbel0 := hbel
 clear hJ hG hall hb
 go_upto_region 1 with fail
 refine rgT [(5, 0), (0, 1), (0, 2), (0, 3), (0, 4), (0, 5)] [.oth (fun v => v = .int .i64 (kn : Nat)), .oth (fun v => v = .bool false), .oth (fun v => v = .bool false), .oth (fun v => v = .int .i64 (kn : Nat)), .oth (fun v => v = .bool false), .oth (fun v => v = .bool false)] ?_ ?_
 ·intro hs
  refine ⟨?_, ?_, ?_, ?_, ?_, ?_, trivial⟩
  ·exact mvK hs fun _ => rfl
  ·refine step_pureO hs Wn rfl fun L u W hG hdep => ⟨_, ?_, rfl⟩
   have e0 := (oE (.int .i64 (kn : Nat)) hG hdep 0)
   go_simp
  ·exact mvO 1 hs
  ·exact step_pureO hs (wants_on 2 rfl rfl (by kernel_rfl) (fun _ => rfl)) rfl fun L u W hG hdep => ⟨_, run_move rfl, rfl⟩
  ·refine step_pureO hs (wants_on 2 rfl rfl (by kernel_rfl) (fun _ => rfl)) rfl fun L u W hG hdep => ⟨_, ?_, rfl⟩
   have e0 := (oE (.int .i64 (kn : Nat)) hG hdep 3)
   go_simp
  ·exact step_pick false hs Wn rfl rfl (fun L u W hG hdep => (oE (.bool false) hG hdep 2)) (fun L u W hG hdep => (oE (.bool false) hG hdep 4))
 intro L1 u1 W1 hall hJ hG
 have hb := hJ.all rfl
 have hbel := Below.call hbel hb
 have hm2 := hm2.later hb
 have ht2 := there_later ht2 hb
 have ht4 := there_later ht4 hb
 have HC6 := oC (.bool false) hG 1
 have HC7 := oC (.bool false) hG 2
 have HC9 := oC (.bool false) hG 4
 have HC10 := oC (.bool false) hG 5
 have hbel0 := hbel
 clear hJ hG hall hb
 have hx : u1 5 = .bool false := HC10.out
 go_wp2_with fail
 rw [hx]
 clear hx
 go_upto_region 3 with fail
 refine rgM [(12, 0), (0, 1), (0, 2), (0, 3), (0, 4), (0, 5)] [.val rP [P], .oth (fun v => v = .int .i64 (kn : Nat)), .oth (fun v => v = .int .u64 (kn : Nat)), .rd (leB 8 kn), .val rS [fn kn], .val rP [Cp.mul kn P], .sto q4 rP [Cp.mul kn P]] ?_ ?_
 ·intro hs
  refine ⟨?_, ?_, ?_, ?_, ?_, ?_, ?_, trivial⟩
  ·exact step_load q2 0 hs Wn rfl rfl tyP (fun _ => E2.out) hm2.lt hm2 (apN (Ne.symm HN2_4.out))
  ·exact mvK hs fun _ => rfl
  ·refine step_pureO hs Wn rfl fun L u W hG hdep => ⟨_, ?_, rfl⟩
   have e0 := (oE (.int .i64 (kn : Nat)) hG hdep 1)
   go_simp
   exact HC.out
  ·refine step_callB hs Wn rfl fun L u W hJ hG hL hdep K hK => ?_
   have x0 := (oE (.int .u64 (kn : Nat)) hG hdep 2)
   go_simp
   go_at_call 71
   (with_reducible refine (cLittle64 (n := kn) (by first | (have := HK.out; omega) | omega) _).mono ?_); rintro e w1 ⟨g, n, cap, r, rfl, h1, h2, h3, h4, h5, hb⟩
   have hk := hK.out _ _ _ _ _ h1 h2 h3 h4 h5 hb
   simp only [x0] at hk
   exact hk
  ·refine step_call hs Wn rfl fun L u W hJ hG hL hdep K hK => ?_
   obtain ⟨gR0, nR0, cR0, rR0, x0, _, hR0, hRn0, hRc0, hRm0⟩ := (show ∃ g n cap r, u 3 = .slice (some ⟨g, 0, none⟩) n cap ∧ W1.heap.size ≤ g ∧ Blk W g ((leB 8 kn).map bV ++ r) 5 ∧ (leB 8 kn).length = n ∧ n ≤ cap ∧ cap ≤ maxLen from hG 3 (hdep 3 (by kernel_rfl)))
   have hB0 := RdB.blk rR0 hR0 hRn0 hRc0 hRm0
   go_simp
   go_at_call 20
   (with_reducible refine (cWide (wide_small HK.out) hB0).mono ?_); rintro e w1 ⟨r, rfl, hr, hb⟩
   have hk := hK.out _ _ hr hb
   simp only [x0] at hk
   exact hk
  ·refine step_call hs Wn rfl fun L u W hJ hG hL hdep K hK => ?_
   have a0 := (vE rP [P] hG hdep 0)
   have a1 := (vE rS [fn kn] hG hdep 4)
   go_simp
   go_at_call 23
   (with_reducible refine (cMult (by rw [fn_31 HK.out]) a0 a1 _).mono ?_); rintro e w1 ⟨r, rfl, hr, hb⟩
   exact hK.out _ _ hr hb
  ·refine step_storeO q4 20 hs Wn rfl rfl (by kernel_rfl) (fun k hk => ?_) (fun _ => E4.out) (there_lt ht4 (by omega)) ht4 (gO 5) tyP rfl
   rcases k with _ | _ | _ | _ | _ | _ | _ | k
   all_goals first | (exact absurd rfl hk) | (intro e; cases e; done)
 intro L3 u3 W3 hall hJ hG
 have hb := hJ.beN hbel
 have hbel := hbel.trans hb
 have hm2 := kC hm2 hJ HN2_4.out
 have ht2 := tC ht2 hJ HN2_4.out
 obtain ⟨_, hs3_6t, hs3_6⟩ := oT 20 rP [Cp.mul kn P] hG 6
 have hbel0 := hbel
 clear hJ hG hall hb
 go_wp2
 exact ret_cell1 (R := rP) Tryz.results98 (by exact E4.out) hs3_6 tyP rfl (fun r hr => ⟨r, rfl, hr, hbel⟩)
theorem cTimes {v0 : Value} {P Q : EP} {k : Int} (hq : timesP k P = Q) (h0 : IsFs rP v0 [P]) (w : World) :
  Calls Tryz.prog 98 #[v0, .int .i64 k] w fun e w' => ∃ r, e = .returned r ∧ IsFs rP r [Q] ∧ Below w.heap.size w w' := by
 subst hq
 unfold timesP
 by_cases h1 : k < 0
 ·rw [if_neg (by omega)]; exact times_lo h0 h1 w
 ·by_cases h2 : 2147483648 < k
  ·rw [if_neg (by omega)]; exact times_hi h0 h2 w
  ·rw [if_pos (by omega)]
   obtain ⟨n, rfl⟩ : ∃ n : Nat, k = n := ⟨k.toNat, by omega⟩
   exact times_in h0 (by omega) w
set_option maxHeartbeats 4000000 in
theorem cPSmall {v0 : Value} {P : EP} {b : Bool} (hq : decide (Cp.mul 8 P = Cp.zero) = b) (h0 : IsFs rP v0 [P]) (w : World) :
  Calls Tryz.prog 42 #[v0] w fun e w' => e = .returned (.bool b) ∧ Below w.heap.size w w' := by
 have HQ := Lib.hid hq; clear hq
 go_enter Tryz.func42, Tryz.ntmps42
 have hbel : Below w.heap.size w w := Below.refl _ _
 have hbel0 := hbel
 go_upto_region 0 with fail
 refine rgT [(1, 0), (0, 1)] [.box rP [P], .oth (fun v => v = .bool false)] ?_ ?_
 ·intro hs
  refine ⟨?_, ?_, trivial⟩
  ·exact step_box hs Wn rfl rfl (gives_c h0 (fun _ => rfl))
  ·exact mvK hs fun _ => rfl
 intro L0 u0 W0 hall hJ hG
 obtain ⟨q1, e1, ⟨hq1, _⟩, ht1, hm1⟩ := oB 20 rP [P] hG 0
 have hq1 : w.heap.size ≤ q1 := by have := hbel0.size; omega
 have E1 := Lib.hid e1; clear e1
 have hb := hJ.all rfl
 have hbel := Below.call hbel hb
 have HC2 := oC (.bool false) hG 1
 have hbel0 := hbel
 clear hJ hG hall hb
 go_upto_region 1 with fail
 refine rgT [(2, 4), (0, 0), (0, 1), (0, 2), (0, 3)] [.val rP [P], .val rP [Cp.mul 8 P], .val rP [Cp.zero], .oth (fun v => v = .bool b), .oth (fun v => v = .bool b)] ?_ ?_
 ·intro hs
  refine ⟨?_, ?_, ?_, ?_, ?_, trivial⟩
  ·exact step_load q1 0 hs Wn rfl rfl tyP (fun _ => E1.out) hm1.lt hm1 Na
  ·refine step_call hs Wn rfl fun L u W hJ hG hL hdep K hK => ?_
   have a0 := (vE rP [P] hG hdep 0)
   go_simp
   go_at_call 98
   (with_reducible refine (cTimes rfl a0 _).mono ?_); rintro e w1 ⟨r, rfl, hr, hb⟩
   exact hK.out _ _ hr hb
  ·exact step_pure hs Wn rfl fun L u W hG hdep => run_build0 rfl (build_P0 W)
  ·refine step_callO hs Wn rfl fun L u W hJ hG hL hdep K hK => ?_
   have a0 := (vE rP [Cp.mul 8 P] hG hdep 1)
   have a1 := (vE rP [Cp.zero] hG hdep 2)
   go_simp
   go_at_call 44
   (with_reducible refine (cPSame (b := b) (HQ.out) a0 a1 _).mono ?_); rintro e w1 ⟨rfl, hb⟩
   exact hK.out _ _ rfl hb
  ·exact mvO 3 hs
 intro L1 u1 W1 hall hJ hG
 have hb := hJ.all rfl
 have hbel := Below.call hbel hb
 have HC6 := oC (.bool b) hG 3
 have HC2 := oC (.bool b) hG 4
 have hbel0 := hbel
 clear hJ hG hall hb
 rw [HC2.out]
 go_wp2
 go_ret
 exact ⟨rfl, hbel⟩
theorem hi_bit {x : Nat} (hx : x < Pq) : (leB 32 x).set 31 ((leB 32 x).getD 31 0 ||| 128) = leB 32 (x + 57896044618658097711785492504343953926634992332820282019728792003956564819968) := by
 have h31 : (leB 32 x).getD 31 0 = UInt8.ofNat (x / 2 ^ 248) := by
  simp [leB]
 have hd : x / 2 ^ 248 < 128 := by unfold Pq at hx; simp only [Nat.reducePow]; omega
 apply List.ext_getElem
 ·simp [leB_len]
 ·intro i h1 h2
  have hi : i < 32 := by simpa [leB_len] using h2
  rw [leB_get, List.getElem_set]
  by_cases h : 31 = i
  ·subst h
   rw [if_pos rfl, h31]
   apply UInt8.toNat_inj.1
   have e1 : (x + 57896044618658097711785492504343953926634992332820282019728792003956564819968) / 2 ^ (8 * 31) = x / 2 ^ 248 + 128 := by simp only [Nat.reduceMul, Nat.reducePow]; omega
   rw [e1]
   generalize x / 2 ^ 248 = y at *
   have h4 := Nat.shiftLeft_add_eq_or_of_lt (show y < 2 ^ 7 by omega) 1
   rw [show (1 : Nat) <<< 7 = 128 from rfl] at h4
   simp
   rw [Nat.mod_eq_of_lt (show y < 256 by omega), Nat.mod_eq_of_lt (show y + 128 < 256 by omega), Nat.or_comm]
   omega
  ·rw [if_neg h, leB_get, ← ofNat_mod, ← ofNat_mod (_ / _)]
   congr 1
   have hi' : i < 31 := by omega
   have : i = 0 ∨ i = 1 ∨ i = 2 ∨ i = 3 ∨ i = 4 ∨ i = 5 ∨ i = 6 ∨ i = 7 ∨ i = 8 ∨ i = 9 ∨ i = 10 ∨ i = 11 ∨ i = 12 ∨ i = 13 ∨ i = 14 ∨ i = 15 ∨ i = 16 ∨ i = 17 ∨ i = 18 ∨ i = 19 ∨ i = 20 ∨ i = 21 ∨ i = 22 ∨ i = 23 ∨ i = 24 ∨ i = 25 ∨ i = 26 ∨ i = 27 ∨ i = 28 ∨ i = 29 ∨ i = 30 := by omega
   rcases this with rfl | rfl | rfl | rfl | rfl | rfl | rfl | rfl | rfl | rfl | rfl | rfl | rfl | rfl | rfl | rfl | rfl | rfl | rfl | rfl | rfl | rfl | rfl | rfl | rfl | rfl | rfl | rfl | rfl | rfl | rfl <;> simp only [Nat.reduceMul, Nat.reducePow] <;> omega
theorem T255 : 2 ^ 255 = 57896044618658097711785492504343953926634992332820282019728792003956564819968 := by decide +kernel
theorem enc_odd {P : EP} (h : P.x.val % 2 = 1) : (leB 32 P.y.val).set 31 ((leB 32 P.y.val).getD 31 0 ||| 128) = encP P := by
 rw [hi_bit P.y.isLt]
 unfold encP
 rw [h, Nat.mul_one, T255]
theorem enc_even {P : EP} (h : ¬ P.x.val % 2 = 1) : leB 32 P.y.val = encP P := by
 unfold encP
 rw [show P.x.val % 2 = 0 by omega, Nat.mul_zero, Nat.add_zero]
theorem clr_byte : ∀ c : Nat, c < 256 → (UInt8.ofNat c &&& 127).toNat = c % 128 := by decide +kernel
theorem clr_byte2 : ∀ c : Nat, c < 256 → bits BinOp.andNot IntKind.u8 (c : Int) 128 = ((UInt8.ofNat c &&& 127).toNat : Nat) := by decide +kernel
theorem clr_byte3 : ∀ c : Nat, c < 256 → bits BinOp.and IntKind.u8 (c : Int) 127 = ((UInt8.ofNat c &&& 127).toNat : Nat) := by decide +kernel
theorem odd_byte : ∀ c : Nat, c < 256 → (bits BinOp.and IntKind.u8 (c : Int) 128 != 0) = (c / 128 % 2 == 1) := by decide +kernel
theorem odd_byte2 : ∀ c : Nat, c < 256 → ((c : Int) / 128 == 1) = (c / 128 % 2 == 1) := by decide +kernel
def clr (b : List UInt8) : List UInt8 := b.set 31 (b.getD 31 0 &&& 127)
theorem clr_len (b : List UInt8) : (clr b).length = b.length := by simp [clr]
theorem leN_last {b : List UInt8} (h : b.length = 32) : leN b = leN (b.take 31) + 256 ^ 31 * (b.getD 31 0).toNat := by
 have e := leN_take b 31 (by omega)
 rw [List.take_of_length_le (by omega)] at e
 rw [e, Nat.mul_comm]
 congr 3
 rw [List.getD_eq_getElem?_getD, List.getElem?_eq_getElem (by omega)]
 rfl
theorem p31 : (256 : Nat) ^ 31 * 128 = 2 ^ 255 := by decide +kernel
theorem leN_clr {b : List UInt8} (h : b.length = 32) : leN (clr b) = lowN b := by
 have e := leN_last h
 have e2 := leN_last (b := clr b) (by rw [clr_len, h])
 have e3 : (clr b).take 31 = b.take 31 := by unfold clr; rw [List.take_set_of_le (by omega)]
 have e4 : (clr b).getD 31 0 = b.getD 31 0 &&& 127 := by unfold clr; rw [List.getD_eq_getElem?_getD, List.getElem?_set_self (by omega)]; rfl
 rw [e3, e4] at e2
 have h5 := clr_byte (b.getD 31 0).toNat (b.getD 31 0).toNat_lt
 rw [UInt8.ofNat_toNat] at h5
 rw [h5] at e2
 have h6 := leN_take_lt b 31
 unfold lowN
 rw [e2, e, ← p31]
 generalize (b.getD 31 0).toNat = c at *
 generalize leN (b.take 31) = r at *
 generalize 256 ^ 31 = T at *
 clear e e2 e3 e4 h5
 have hc := Nat.div_add_mod c 128
 have hm : c % 128 < 128 := Nat.mod_lt _ (by omega)
 generalize c / 128 = q at *
 generalize c % 128 = m at *
 subst hc
 have : r + T * (128 * q + m) = (r + T * m) + T * 128 * q := by rw [Nat.mul_add, Nat.mul_assoc]; omega
 rw [this, Nat.add_mul_mod_self_left, Nat.mod_eq_of_lt]
 have : T * m ≤ T * 127 := Nat.mul_le_mul_left _ (by omega)
 omega
theorem sgn_byte {b : List UInt8} (h : b.length = 32) : sgn b = ((b.getD 31 0).toNat / 128 % 2 == 1) := by
 have e := leN_last h
 have h6 := leN_take_lt b 31
 unfold sgn
 rw [e, ← p31, ← Nat.div_div_eq_div_mul]
 generalize leN (b.take 31) = r at *
 generalize (b.getD 31 0).toNat = c at *
 have : (r + 256 ^ 31 * c) / 256 ^ 31 = c := by rw [Nat.add_mul_div_left _ _ (Nat.pos_of_ne_zero (by decide +kernel)), Nat.div_eq_of_lt h6, Nat.zero_add]
 rw [this]
def decV (l : List UInt8) : EP := (decP l).getD Cp.zero
def decC (l : List UInt8) : Int := if (decP l).isSome then 0 else 12
theorem feOk_clr {b : List UInt8} (h : b.length = 32) : feOk (clr b) = decide (lowN b < Pq) := by
 unfold feOk
 rw [clr_len, h, leN_clr h]; simp
theorem stC_clr {b : List UInt8} (h : b.length = 32) (h2 : lowN b < Pq) : stC (clr b) = 0 := by unfold stC; rw [feOk_clr h, if_pos (by simpa using h2)]
theorem stC_no {b : List UInt8} (h : b.length = 32) (h2 : ¬ lowN b < Pq) : stC (clr b) = 2 := by unfold stC; rw [feOk_clr h, if_neg (by simpa using h2)]
theorem stV_clr {b : List UInt8} (h : b.length = 32) (h2 : lowN b < Pq) : stV (clr b) = fn (lowN b) := by
 have hok : feOk (clr b) = true := by rw [feOk_clr h]; simpa using h2
 unfold stV
 rw [if_pos hok]
 apply F.ext'
 rw [feF_ok hok, leN_clr h]
 exact (Nat.mod_eq_of_lt h2).symm
theorem dec_len {b : List UInt8} (h : b.length ≠ 32) : decV b = Cp.zero ∧ decC b = 12 := by
 have : decP b = none := by unfold decP; rw [if_neg (fun k => h k.1)]
 unfold decV decC; rw [this]; exact ⟨rfl, rfl⟩
theorem dec_big {b : List UInt8} (h : ¬ lowN b < Pq) : decV b = Cp.zero ∧ decC b = 12 := by
 have : decP b = none := by unfold decP; rw [if_neg (fun k => h k.2)]
 unfold decV decC; rw [this]; exact ⟨rfl, rfl⟩
theorem dec_root {b : List UInt8} {y : F} (h1 : b.length = 32) (h2 : lowN b < Pq) (hy : fn (lowN b) = y) (hr : ¬ rootC (xx y) = 0) : decV b = Cp.zero ∧ decC b = 12 := by
 subst hy
 have : decP b = none := by unfold decP; rw [if_pos ⟨h1, h2⟩, dif_neg hr]
 unfold decV decC; rw [this]; exact ⟨rfl, rfl⟩
theorem dec_sgn {b : List UInt8} {y : F} (h1 : b.length = 32) (h2 : lowN b < Pq) (hy : fn (lowN b) = y) (hr : rootC (xx y) = 0) (hs : sgn b = true) (hx : rootV (xx y) = 0) : decV b = Cp.zero ∧ decC b = 12 := by
 subst hy
 have : decP b = none := by unfold decP; rw [if_pos ⟨h1, h2⟩, dif_pos hr, if_pos ⟨hs, hx⟩]
 unfold decV decC; rw [this]; exact ⟨rfl, rfl⟩
theorem dec_yes {b : List UInt8} {y : F} {o : Bool} (h1 : b.length = 32) (h2 : lowN b < Pq) (hy : fn (lowN b) = y) (hr : rootC (xx y) = 0) (hs : sgn b = o) (hx : ¬ (o = true ∧ rootV (xx y) = 0)) :
  decC b = 0 ∧ (decV b).x = (if o then -rootV (xx y) else rootV (xx y)) ∧ (decV b).y = y := by
 have := decP_some h1 h2 hy hs hr hx
 unfold decV decC
 rw [this]
 exact ⟨rfl, rfl, rfl⟩
theorem Prep.xv {P : EP} {X Y Z : F} (h : Prep P X Y Z) : X * finv Z = P.x := by
 obtain ⟨hz, rfl, rfl⟩ := h
 have := finv_mul hz
 generalize finv Z = u at *
 generalize P.x = x
 clear hz
 grind
theorem Prep.yv {P : EP} {X Y Z : F} (h : Prep P X Y Z) : Y * finv Z = P.y := by
 obtain ⟨hz, rfl, rfl⟩ := h
 have := finv_mul hz
 generalize finv Z = u at *
 generalize P.y = x
 clear hz
 grind
theorem set31 {LB : List UInt8} {r : List Value} {d : UInt8} (h : LB.length = 32) : (LB.map bV ++ r).set 31 (bV d) = (LB.set 31 d).map bV ++ r := by
 rw [List.set_append_left _ _ (by simp [h]), List.map_set]
theorem at31 {W : World} {g E : Nat} {LB : List UInt8} {r : List Value} (h : LB.length = 32) (hB : Blk W g (LB.map bV ++ r) E) : W.cell? ⟨g, 31, none⟩ = some (.int .u8 ((LB.getD 31 0).toNat : Int)) := by
 rw [hB.cell, List.getElem?_append_left (by simp [h]), List.getElem?_map, List.getElem?_eq_getElem (by omega), List.getD_eq_getElem?_getD, List.getElem?_eq_getElem (by omega)]
 rfl
theorem or128 (c d : UInt8) (h : c ||| 128 = d) : bits BinOp.or IntKind.u8 (c.toNat : Int) 128 = (d.toNat : Int) := by
 rw [← h, show (128 : Int) = ((128 : UInt8).toNat : Int) from rfl, u8_or_nat _ _ c.toNat_lt (by decide)]; simp
set_option maxHeartbeats 4000000 in
theorem enc_o {v0 : Value} {P : EP} (hp : P.x.val % 2 = 1) (h0 : IsFs rP v0 [P]) (w : World) :
  Calls Tryz.prog 24 #[v0] w fun e w' => ∃ g n cap r, e = .returned (.slice (some ⟨g, 0, none⟩) n cap) ∧ w.heap.size ≤ g ∧ Blk w' g ((encP P).map bV ++ r) 5 ∧ (encP P).length = n ∧ n ≤ cap ∧ cap ≤ maxLen ∧ Below w.heap.size w w' := by
 have HP := Lib.hid hp; clear hp
 go_enter Tryz.func24, Tryz.ntmps24
 have hbel : Below w.heap.size w w := Below.refl _ _
 have hbel0 := hbel
 go_upto_region 0 with fail
 refine rgT [(1, 0), (0, 1)] [.box rP [P], .oth (fun v => v = .slice none 0 0)] ?_ ?_
 ·intro hs
  refine ⟨?_, ?_, trivial⟩
  ·exact step_box hs Wn rfl rfl (gives_c h0 (fun _ => rfl))
  ·exact mvK hs fun _ => rfl
 intro L0 u0 W0 hall hJ hG
 obtain ⟨q1, e1, ⟨hq1, _⟩, ht1, hm1⟩ := oB 20 rP [P] hG 0
 have hq1 : w.heap.size ≤ q1 := by have := hbel0.size; omega
 have E1 := Lib.hid e1; clear e1
 have hb := hJ.all rfl
 have hbel := Below.call hbel hb
 have HC2 := oC (.slice none 0 0) hG 1
 have hbel0 := hbel
 clear hJ hG hall hb
 go_upto_region 1 with fail
 refine rgT [(5, 0), (0, 1)] [.val rP [P], .val rPr [P], .sto q1 rPr [P]] ?_ ?_
 ·intro hs
  refine ⟨?_, ?_, ?_, trivial⟩
  ·exact step_load q1 0 hs Wn rfl rfl tyP (fun _ => E1.out) hm1.lt hm1 Na
  ·refine step_call hs Wn rfl fun L u W hJ hG hL hdep K hK => ?_
   have a0 := (vE rP [P] hG hdep 0)
   go_simp
   go_at_call 58
   (with_reducible refine (cReady a0 _).mono ?_); rintro e w1 ⟨r, rfl, hr, hb⟩
   exact hK.out _ _ hr hb
  ·refine step_storeO q1 20 hs Wn rfl rfl (by kernel_rfl) (fun k hk => ?_) (fun _ => E1.out) (there_lt ht1 (by omega)) ht1 (gO 1) tyPr rfl
   rcases k with _ | _ | _ | k
   all_goals first | (exact absurd rfl hk) | (intro e; cases e; done)
 intro L1 u1 W1 hall hJ hG
 have hb := hJ.beN hbel
 have hbel := hbel.trans hb
 obtain ⟨_, hs1_2t, hs1_2⟩ := oT 20 rPr [P] hG 2
 have hbel0 := hbel
 clear hJ hG hall hb
 obtain ⟨pax, pay, paz, pat, hmpa, hppa⟩ := of_hasPr hs1_2
 go_upto_region 2 with fail
 refine rgT [(3, 3), (3, 0), (0, 1), (0, 2)] [.ptr q1 10, .val rE [paz], .val rE [finv paz], .new 5, .st 3 rE [finv paz]] ?_ ?_
 ·intro hs
  refine ⟨?_, ?_, ?_, ?_, ?_, trivial⟩
  ·exact step_field hs Wn rfl rfl (fun _ => E1.out) (field_P2 _)
  ·exact step_loadF 0 q1 10 hs Wn rfl rfl tyE (fun _ => rfl) rfl (by kernel_rfl) hmpa.lt (hmpa.fld 2 1) Na
  ·refine step_call hs Wn rfl fun L u W hJ hG hL hdep K hK => ?_
   have a0 := (vE rE [paz] hG hdep 1)
   go_simp
   go_at_call 62
   (with_reducible refine (cInv a0 _).mono ?_); rintro e w1 ⟨r, rfl, hr, hb⟩
   exact hK.out _ _ hr hb
  ·exact step_alloc hs Wn rfl rfl (by omega) rfl allocE
  ·exact step_store 3 hs (by kernel_rfl) Wn rfl rfl rfl (by kernel_rfl) (by kernel_rfl) (by kernel_rfl) (by kernel_rfl) (fun _ => rfl) (gO 2) tyE rfl
 intro L2 u2 W2 hall hJ hG
 obtain ⟨q3, e3, hq3, _, ht3⟩ := oN 5 hG 3
 have hm3 := oS rE [finv paz] hG 4 e3
 have HD3_q1 := Lib.hid (show q1 ≠ q3 by have := there_lt hs1_2t (by omega); omega)
 have hq3 : w.heap.size ≤ q3 := by have := hbel0.size; omega
 have E3 := Lib.hid e3; clear e3
 have hb := hJ.all rfl
 have hbel := Below.call hbel hb
 have hmpa := hmpa.later hb
 have hs1_2t := there_later hs1_2t hb
 have hbel0 := hbel
 clear hJ hG hall hb
 go_upto_region 3 with fail
 refine rgT [(4, 5), (5, 0), (0, 1), (0, 2), (0, 3), (0, 4)] [.ptr q1 5, .val rE [pay], .val rE [finv paz], .val rE [pay * (finv paz)], .rd (leB 32 (pay * (finv paz)).val), .rd (leB 32 (pay * (finv paz)).val)] ?_ ?_
 ·intro hs
  refine ⟨?_, ?_, ?_, ?_, ?_, ?_, trivial⟩
  ·exact step_field hs Wn rfl rfl (fun _ => E1.out) (field_P1 _)
  ·exact step_loadF 0 q1 5 hs Wn rfl rfl tyE (fun _ => rfl) rfl (by kernel_rfl) hmpa.lt (hmpa.fld 1 1) Na
  ·exact step_load q3 0 hs Wn rfl rfl tyE (fun _ => E3.out) hm3.lt hm3 Na
  ·refine step_call hs Wn rfl fun L u W hJ hG hL hdep K hK => ?_
   have a0 := (vE rE [pay] hG hdep 1)
   have a1 := (vE rE [finv paz] hG hdep 2)
   go_simp
   go_at_call 63
   (with_reducible refine (cMul a0 a1 _).mono ?_); rintro e w1 ⟨r, rfl, hr, hb⟩
   exact hK.out _ _ hr hb
  ·refine step_callB hs Wn rfl fun L u W hJ hG hL hdep K hK => ?_
   have a0 := (vE rE [pay * (finv paz)] hG hdep 3)
   go_simp
   go_at_call 64
   (with_reducible refine (cBytes a0 _).mono ?_); rintro e w1 ⟨g, n, cap, r, rfl, h1, h2, h3, h4, h5, hb⟩
   exact hK.out _ _ _ _ _ h1 h2 h3 h4 h5 hb
  ·exact step_moveB 4 hs Wn rfl (by first | exact .inl rfl | exact .inr rfl) rfl (by kernel_rfl) (fun _ => rfl)
 intro L3 u3 W3 hall hJ hG
 obtain ⟨gB5, nB5, cB5, rB5, eB5, hgB5, hB5, hlB5, hcB5, hmB5⟩ := (show ∃ g n cap r, u3 5 = .slice (some ⟨g, 0, none⟩) n cap ∧ W2.heap.size ≤ g ∧ Blk W3 g ((leB 32 (pay * (finv paz)).val).map bV ++ r) 5 ∧ (leB 32 (pay * (finv paz)).val).length = n ∧ n ≤ cap ∧ cap ≤ maxLen from hG 5 (by simp))
 have hgB5 : w.heap.size ≤ gB5 := by have := hbel0.size; omega
 have EB5 := Lib.hid eB5; clear eB5
 obtain rfl : nB5 = 32 := by have h : (((leB 32 (pay * (finv paz)).val).length : Nat) : Int) = 32 := (by rw [leB_len]; rfl); omega
 have HB5 := Lib.hid hB5; clear hB5
 have HE5_q1 := Lib.hid (show q1 ≠ gB5 by have := there_lt hs1_2t (by omega); omega)
 have HE5_q3 := Lib.hid (show q3 ≠ gB5 by have := there_lt ht3 (by omega); omega)
 have hb := hJ.all rfl
 have hbel := Below.call hbel hb
 have hmpa := hmpa.later hb
 have hm3 := hm3.later hb
 have hs1_2t := there_later hs1_2t hb
 have ht3 := there_later ht3 hb
 have hbel0 := hbel
 clear hJ hG hall hb
 go_upto_region 4 with fail
 refine rgT [(15, 0), (0, 1), (0, 2), (0, 3), (0, 4)] [.ptr q1 0, .val rE [pax], .val rE [finv paz], .val rE [pax * (finv paz)], .oth (fun v => v = .bool true)] ?_ ?_
 ·intro hs
  refine ⟨?_, ?_, ?_, ?_, ?_, trivial⟩
  ·exact step_field hs Wn rfl rfl (fun _ => E1.out) (field_P0 _)
  ·exact step_loadF 0 q1 0 hs Wn rfl rfl tyE (fun _ => rfl) rfl (by kernel_rfl) hmpa.lt (hmpa.fld 0 1) Na
  ·exact step_load q3 0 hs Wn rfl rfl tyE (fun _ => E3.out) hm3.lt hm3 Na
  ·refine step_call hs Wn rfl fun L u W hJ hG hL hdep K hK => ?_
   have a0 := (vE rE [pax] hG hdep 1)
   have a1 := (vE rE [finv paz] hG hdep 2)
   go_simp
   go_at_call 63
   (with_reducible refine (cMul a0 a1 _).mono ?_); rintro e w1 ⟨r, rfl, hr, hb⟩
   exact hK.out _ _ hr hb
  ·refine step_callO hs Wn rfl fun L u W hJ hG hL hdep K hK => ?_
   have a0 := (vE rE [pax * (finv paz)] hG hdep 3)
   go_simp
   go_at_call 65
   (with_reducible refine (cOdd (b := true) (by rw [hppa.p.xv]; exact decide_eq_true HP.out) a0 _).mono ?_); rintro e w1 ⟨rfl, hb⟩
   exact hK.out _ _ rfl hb
 intro L4 u4 W4 hall hJ hG
 have hb := hJ.all rfl
 have hbel := Below.call hbel hb
 have hmpa := hmpa.later hb
 have hm3 := hm3.later hb
 have hs1_2t := there_later hs1_2t hb
 have ht3 := there_later ht3 hb
 have HB5 := Lib.hid (HB5.out.below' hb)
 have HC19 := oC (.bool true) hG 4
 have hbel0 := hbel
 clear hJ hG hall hb
 have hx : u4 4 = .bool true := HC19.out
 go_wp2_with fail
 rw [hx]
 clear hx
 have HLB : Hid (leB 32 (pay * finv paz).val = leB 32 P.y.val) := Lib.hid (by rw [hppa.p.yv])
 generalize leB 32 (pay * finv paz).val = LB at *
 have HLL : Hid (LB.length = 32) := Lib.hid (by rw [HLB.out, leB_len])
 have hcell := at31 HLL.out HB5.out
 have HCF : Hid (W4.frozen? ⟨gB5, 31, none⟩ = false) := Lib.hid (HB5.out.frozen 31)
 generalize hcd : LB.getD 31 0 = c at *
 generalize hdd : c ||| 128 = d at *
 have HCC := Lib.hid hcell; have HCD := Lib.hid hcd; have HDD := Lib.hid hdd
 clear hcell hcd hdd
 go_upto_region 5 with fail
 refine rgT [(20, 0), (0, 1), (0, 2), (0, 3), (0, 4)] [.oth (fun v => v = .slice (some ⟨gB5, 0, none⟩) 32 cB5), .oth (fun v => v = .pointer (some ⟨gB5, 31, none⟩)), .oth (fun v => v = .int .u8 (c.toNat : Int)), .oth (fun v => v = .int .u8 (d.toNat : Int)), .oth (fun v => v = .pointer (some ⟨gB5, 31, none⟩)), .cst gB5 31 (.int .u8 (d.toNat : Int))] ?_ ?_
 ·intro hs
  refine ⟨?_, ?_, ?_, ?_, ?_, ?_, trivial⟩
  ·exact mvK hs fun _ => EB5.out
  ·refine step_pureO hs Wn rfl fun L u W hG hdep => ⟨_, ?_, rfl⟩
   have e0 := (oE (.slice (some ⟨gB5, 0, none⟩) 32 cB5) hG hdep 0)
   go_simp
  ·exact step_cell gB5 31 hs Wn rfl rfl (fun _ h => load_u8 h) (fun L u W hG hdep => (oE (.pointer (some ⟨gB5, 31, none⟩)) hG hdep 1)) HCC.out Na
  ·refine step_pureO hs Wn rfl fun L u W hG hdep => ⟨_, ?_, rfl⟩
   have e0 := (oE (.int .u8 (c.toNat : Int)) hG hdep 2)
   have e9 := or128 c d HDD.out
   go_simp
  ·refine step_pureO hs Wn rfl fun L u W hG hdep => ⟨_, ?_, rfl⟩
   have e0 := (oE (.slice (some ⟨gB5, 0, none⟩) 32 cB5) hG hdep 0)
   go_simp
  ·refine step_cst (old := .int .u8 (c.toNat : Int)) gB5 31 hs Wn rfl rfl (by kernel_rfl) (fun k hk => ?_) (fun _ h1 h2 => store_u8 h1 h2) (fun L u W hG hdep => (oE (.pointer (some ⟨gB5, 31, none⟩)) hG hdep 4)) (fun L u W hG hdep => (oE (.int .u8 (d.toNat : Int)) hG hdep 3)) HCC.out HCF.out
   rcases k with _ | _ | _ | _ | _ | _ | k
   all_goals first | (exact absurd rfl hk) | (intro e; cases e; done)
 intro L5 u5 W5 hall hJ hG
 have hb := hJ.beN hbel
 have hbel := hbel.trans hb
 have hmpa := kC hmpa hJ HE5_q1.out
 have hm3 := kC hm3 hJ HE5_q3.out
 have hs1_2t := tC hs1_2t hJ HE5_q1.out
 have ht3 := tC ht3 hJ HE5_q3.out
 have HB5 := Lib.hid (blk_keep (HB5.out.set 31 (.int .u8 (d.toNat : Int))) (show _ ∧ W5.heap[gB5]? = (W4.setCell ⟨gB5, 31, none⟩ (.int .u8 (d.toNat : Int))).heap[gB5]? from hG 5 (by simp)).2)
 have hbel0 := hbel
 clear hJ hG hall hb
 go_upto_region 6 with fail
 refine rgT [(2, 1), (22, 0)] [.oth (fun v => v = .slice (some ⟨gB5, 0, none⟩) 32 cB5), .oth (fun v => v = .slice (some ⟨gB5, 0, none⟩) 32 cB5)] ?_ ?_
 ·intro hs
  refine ⟨?_, ?_, trivial⟩
  ·exact mvK hs fun _ => EB5.out
  ·exact mvO 0 hs
 intro L6 u6 W6 hall hJ hG
 have hb := hJ.all rfl
 have hbel := Below.call hbel hb
 have HB5 := Lib.hid (HB5.out.below' hb)
 have HC2 := oC (.slice (some ⟨gB5, 0, none⟩) 32 cB5) hG 1
 have hbel0 := hbel
 clear hJ hG hall hb
 rw [HC2.out]
 go_wp2
 go_ret
 exact ⟨gB5, 32, cB5, rB5, rfl, hgB5, by rw [← enc_odd HP.out, ← HLB.out, HCD.out, HDD.out, ← set31 HLL.out]; exact HB5.out, encP_len _, hcB5, hmB5, hbel⟩
set_option maxHeartbeats 4000000 in
theorem enc_e {v0 : Value} {P : EP} (hp : ¬ P.x.val % 2 = 1) (h0 : IsFs rP v0 [P]) (w : World) :
  Calls Tryz.prog 24 #[v0] w fun e w' => ∃ g n cap r, e = .returned (.slice (some ⟨g, 0, none⟩) n cap) ∧ w.heap.size ≤ g ∧ Blk w' g ((encP P).map bV ++ r) 5 ∧ (encP P).length = n ∧ n ≤ cap ∧ cap ≤ maxLen ∧ Below w.heap.size w w' := by
 have HP := Lib.hid hp; clear hp
 go_enter Tryz.func24, Tryz.ntmps24
 have hbel : Below w.heap.size w w := Below.refl _ _
 have hbel0 := hbel
 go_upto_region 0 with fail
 refine rgT [(1, 0), (0, 1)] [.box rP [P], .oth (fun v => v = .slice none 0 0)] ?_ ?_
 ·intro hs
  refine ⟨?_, ?_, trivial⟩
  ·exact step_box hs Wn rfl rfl (gives_c h0 (fun _ => rfl))
  ·exact mvK hs fun _ => rfl
 intro L0 u0 W0 hall hJ hG
 obtain ⟨q1, e1, ⟨hq1, _⟩, ht1, hm1⟩ := oB 20 rP [P] hG 0
 have hq1 : w.heap.size ≤ q1 := by have := hbel0.size; omega
 have E1 := Lib.hid e1; clear e1
 have hb := hJ.all rfl
 have hbel := Below.call hbel hb
 have HC2 := oC (.slice none 0 0) hG 1
 have hbel0 := hbel
 clear hJ hG hall hb
 go_upto_region 1 with fail
 refine rgT [(5, 0), (0, 1)] [.val rP [P], .val rPr [P], .sto q1 rPr [P]] ?_ ?_
 ·intro hs
  refine ⟨?_, ?_, ?_, trivial⟩
  ·exact step_load q1 0 hs Wn rfl rfl tyP (fun _ => E1.out) hm1.lt hm1 Na
  ·refine step_call hs Wn rfl fun L u W hJ hG hL hdep K hK => ?_
   have a0 := (vE rP [P] hG hdep 0)
   go_simp
   go_at_call 58
   (with_reducible refine (cReady a0 _).mono ?_); rintro e w1 ⟨r, rfl, hr, hb⟩
   exact hK.out _ _ hr hb
  ·refine step_storeO q1 20 hs Wn rfl rfl (by kernel_rfl) (fun k hk => ?_) (fun _ => E1.out) (there_lt ht1 (by omega)) ht1 (gO 1) tyPr rfl
   rcases k with _ | _ | _ | k
   all_goals first | (exact absurd rfl hk) | (intro e; cases e; done)
 intro L1 u1 W1 hall hJ hG
 have hb := hJ.beN hbel
 have hbel := hbel.trans hb
 obtain ⟨_, hs1_2t, hs1_2⟩ := oT 20 rPr [P] hG 2
 have hbel0 := hbel
 clear hJ hG hall hb
 obtain ⟨pax, pay, paz, pat, hmpa, hppa⟩ := of_hasPr hs1_2
 go_upto_region 2 with fail
 refine rgT [(3, 3), (3, 0), (0, 1), (0, 2)] [.ptr q1 10, .val rE [paz], .val rE [finv paz], .new 5, .st 3 rE [finv paz]] ?_ ?_
 ·intro hs
  refine ⟨?_, ?_, ?_, ?_, ?_, trivial⟩
  ·exact step_field hs Wn rfl rfl (fun _ => E1.out) (field_P2 _)
  ·exact step_loadF 0 q1 10 hs Wn rfl rfl tyE (fun _ => rfl) rfl (by kernel_rfl) hmpa.lt (hmpa.fld 2 1) Na
  ·refine step_call hs Wn rfl fun L u W hJ hG hL hdep K hK => ?_
   have a0 := (vE rE [paz] hG hdep 1)
   go_simp
   go_at_call 62
   (with_reducible refine (cInv a0 _).mono ?_); rintro e w1 ⟨r, rfl, hr, hb⟩
   exact hK.out _ _ hr hb
  ·exact step_alloc hs Wn rfl rfl (by omega) rfl allocE
  ·exact step_store 3 hs (by kernel_rfl) Wn rfl rfl rfl (by kernel_rfl) (by kernel_rfl) (by kernel_rfl) (by kernel_rfl) (fun _ => rfl) (gO 2) tyE rfl
 intro L2 u2 W2 hall hJ hG
 obtain ⟨q3, e3, hq3, _, ht3⟩ := oN 5 hG 3
 have hm3 := oS rE [finv paz] hG 4 e3
 have HD3_q1 := Lib.hid (show q1 ≠ q3 by have := there_lt hs1_2t (by omega); omega)
 have hq3 : w.heap.size ≤ q3 := by have := hbel0.size; omega
 have E3 := Lib.hid e3; clear e3
 have hb := hJ.all rfl
 have hbel := Below.call hbel hb
 have hmpa := hmpa.later hb
 have hs1_2t := there_later hs1_2t hb
 have hbel0 := hbel
 clear hJ hG hall hb
 go_upto_region 3 with fail
 refine rgT [(4, 5), (5, 0), (0, 1), (0, 2), (0, 3), (0, 4)] [.ptr q1 5, .val rE [pay], .val rE [finv paz], .val rE [pay * (finv paz)], .rd (leB 32 (pay * (finv paz)).val), .rd (leB 32 (pay * (finv paz)).val)] ?_ ?_
 ·intro hs
  refine ⟨?_, ?_, ?_, ?_, ?_, ?_, trivial⟩
  ·exact step_field hs Wn rfl rfl (fun _ => E1.out) (field_P1 _)
  ·exact step_loadF 0 q1 5 hs Wn rfl rfl tyE (fun _ => rfl) rfl (by kernel_rfl) hmpa.lt (hmpa.fld 1 1) Na
  ·exact step_load q3 0 hs Wn rfl rfl tyE (fun _ => E3.out) hm3.lt hm3 Na
  ·refine step_call hs Wn rfl fun L u W hJ hG hL hdep K hK => ?_
   have a0 := (vE rE [pay] hG hdep 1)
   have a1 := (vE rE [finv paz] hG hdep 2)
   go_simp
   go_at_call 63
   (with_reducible refine (cMul a0 a1 _).mono ?_); rintro e w1 ⟨r, rfl, hr, hb⟩
   exact hK.out _ _ hr hb
  ·refine step_callB hs Wn rfl fun L u W hJ hG hL hdep K hK => ?_
   have a0 := (vE rE [pay * (finv paz)] hG hdep 3)
   go_simp
   go_at_call 64
   (with_reducible refine (cBytes a0 _).mono ?_); rintro e w1 ⟨g, n, cap, r, rfl, h1, h2, h3, h4, h5, hb⟩
   exact hK.out _ _ _ _ _ h1 h2 h3 h4 h5 hb
  ·exact step_moveB 4 hs Wn rfl (by first | exact .inl rfl | exact .inr rfl) rfl (by kernel_rfl) (fun _ => rfl)
 intro L3 u3 W3 hall hJ hG
 obtain ⟨gB5, nB5, cB5, rB5, eB5, hgB5, hB5, hlB5, hcB5, hmB5⟩ := (show ∃ g n cap r, u3 5 = .slice (some ⟨g, 0, none⟩) n cap ∧ W2.heap.size ≤ g ∧ Blk W3 g ((leB 32 (pay * (finv paz)).val).map bV ++ r) 5 ∧ (leB 32 (pay * (finv paz)).val).length = n ∧ n ≤ cap ∧ cap ≤ maxLen from hG 5 (by simp))
 have hgB5 : w.heap.size ≤ gB5 := by have := hbel0.size; omega
 have EB5 := Lib.hid eB5; clear eB5
 obtain rfl : nB5 = 32 := by have h : (((leB 32 (pay * (finv paz)).val).length : Nat) : Int) = 32 := (by rw [leB_len]; rfl); omega
 have HB5 := Lib.hid hB5; clear hB5
 have HE5_q1 := Lib.hid (show q1 ≠ gB5 by have := there_lt hs1_2t (by omega); omega)
 have HE5_q3 := Lib.hid (show q3 ≠ gB5 by have := there_lt ht3 (by omega); omega)
 have hb := hJ.all rfl
 have hbel := Below.call hbel hb
 have hmpa := hmpa.later hb
 have hm3 := hm3.later hb
 have hbel0 := hbel
 clear hJ hG hall hb
 go_upto_region 4 with fail
 refine rgT [(15, 0), (0, 1), (0, 2), (0, 3), (0, 4)] [.ptr q1 0, .val rE [pax], .val rE [finv paz], .val rE [pax * (finv paz)], .oth (fun v => v = .bool false)] ?_ ?_
 ·intro hs
  refine ⟨?_, ?_, ?_, ?_, ?_, trivial⟩
  ·exact step_field hs Wn rfl rfl (fun _ => E1.out) (field_P0 _)
  ·exact step_loadF 0 q1 0 hs Wn rfl rfl tyE (fun _ => rfl) rfl (by kernel_rfl) hmpa.lt (hmpa.fld 0 1) Na
  ·exact step_load q3 0 hs Wn rfl rfl tyE (fun _ => E3.out) hm3.lt hm3 Na
  ·refine step_call hs Wn rfl fun L u W hJ hG hL hdep K hK => ?_
   have a0 := (vE rE [pax] hG hdep 1)
   have a1 := (vE rE [finv paz] hG hdep 2)
   go_simp
   go_at_call 63
   (with_reducible refine (cMul a0 a1 _).mono ?_); rintro e w1 ⟨r, rfl, hr, hb⟩
   exact hK.out _ _ hr hb
  ·refine step_callO hs Wn rfl fun L u W hJ hG hL hdep K hK => ?_
   have a0 := (vE rE [pax * (finv paz)] hG hdep 3)
   go_simp
   go_at_call 65
   (with_reducible refine (cOdd (b := false) (by rw [hppa.p.xv]; exact decide_eq_false HP.out) a0 _).mono ?_); rintro e w1 ⟨rfl, hb⟩
   exact hK.out _ _ rfl hb
 intro L4 u4 W4 hall hJ hG
 have hb := hJ.all rfl
 have hbel := Below.call hbel hb
 have HB5 := Lib.hid (HB5.out.below' hb)
 have HC19 := oC (.bool false) hG 4
 have hbel0 := hbel
 clear hJ hG hall hb
 have hx : u4 4 = .bool false := HC19.out
 go_wp2_with fail
 rw [hx]
 clear hx
 have HLB : Hid (leB 32 (pay * finv paz).val = leB 32 P.y.val) := Lib.hid (by rw [hppa.p.yv])
 generalize leB 32 (pay * finv paz).val = LB at *
 have HLL : Hid (LB.length = 32) := Lib.hid (by rw [HLB.out, leB_len])
 go_upto_region 6 with fail
 refine rgT [(2, 1), (22, 0)] [.oth (fun v => v = .slice (some ⟨gB5, 0, none⟩) 32 cB5), .oth (fun v => v = .slice (some ⟨gB5, 0, none⟩) 32 cB5)] ?_ ?_
 ·intro hs
  refine ⟨?_, ?_, trivial⟩
  ·exact mvK hs fun _ => EB5.out
  ·exact mvO 0 hs
 intro L6 u6 W6 hall hJ hG
 have hb := hJ.all rfl
 have hbel := Below.call hbel hb
 have HB5 := Lib.hid (HB5.out.below' hb)
 have HC2 := oC (.slice (some ⟨gB5, 0, none⟩) 32 cB5) hG 1
 have hbel0 := hbel
 clear hJ hG hall hb
 rw [HC2.out]
 go_wp2
 go_ret
 exact ⟨gB5, 32, cB5, rB5, rfl, hgB5, by rw [← enc_even HP.out, ← HLB.out]; exact HB5.out, encP_len _, hcB5, hmB5, hbel⟩
theorem cEncode {v0 : Value} {P : EP} (h0 : IsFs rP v0 [P]) (w : World) :
  Calls Tryz.prog 24 #[v0] w fun e w' => ∃ g n cap r, e = .returned (.slice (some ⟨g, 0, none⟩) n cap) ∧ w.heap.size ≤ g ∧ Blk w' g ((encP P).map bV ++ r) 5 ∧ (encP P).length = n ∧ n ≤ cap ∧ cap ≤ maxLen ∧ Below w.heap.size w w' := by
 by_cases hp : P.x.val % 2 = 1
 ·exact (enc_o hp h0 w).mono fun _ _ ⟨g, n, cap, r, h1, h2, h3, h4, h5, h6, hb⟩ => ⟨g, n, cap, r, h1, h2, h3, h4, h5, h6, hb⟩
 ·exact (enc_e hp h0 w).mono fun _ _ ⟨g, n, cap, r, h1, h2, h3, h4, h5, h6, hb⟩ => ⟨g, n, cap, r, h1, h2, h3, h4, h5, h6, hb⟩
theorem xx_fs {v : Value} {y : F} (h : IsFs rE v [(y * y - fn 1) * finv (y * y * dE + fn 1)]) : IsFs rE v [xx y] := h
theorem cRootN {v : Value} {x X : F} {c : Int} (hX : rootV x = X) (hc : rootC x = c) (h : IsFs rE v [x]) (w : World) :
  Calls Tryz.prog 93 #[v] w fun e w' => ∃ r, e = .returned (.tuple #[r, .int .i64 c]) ∧ IsFs rE r [X] ∧ Below w.heap.size w w' := by subst hX hc; exact cRoot h w
theorem dec_pext {P : EP} {x y : F} (hx : P.x = x) (hy : P.y = y) : Pext P x y (fn 1) (x * y) := by subst hx hy; exact Pext.one P
theorem odd_bit {l : List UInt8} {c : UInt8} {o : Bool} (h : l.length = 32) (hc : l.getD 31 0 = c) (ho : sgn l = o) : (bits BinOp.and IntKind.u8 (c.toNat : Int) 128 != 0) = o := by
 rw [← ho, sgn_byte h, hc]
 exact odd_byte _ c.toNat_lt
theorem clr_bit {c d : UInt8} (h : c &&& 127 = d) : bits BinOp.andNot IntKind.u8 (c.toNat : Int) 128 = (d.toNat : Int) := by
 have := clr_byte2 c.toNat c.toNat_lt
 rw [UInt8.ofNat_toNat, h] at this
 exact this
theorem root_7 {x : F} (h : ¬ rootC x = 0) : rootC x = 7 := by
 unfold rootC at *
 by_cases e : cand x * cand x = x
 ·rw [if_pos e] at h; exact absurd rfl h
 ·rw [if_neg e]
set_option maxHeartbeats 4000000 in
theorem decode_len {a : Option Addr} {n cap : Nat} (w : World) (hn : n ≠ 32) :
  Calls Tryz.prog 41 #[.slice a n cap] w fun e w' => ∃ r, e = .returned (.tuple #[r, .int .i64 12]) ∧ IsFs rP r [Cp.zero] ∧ Below w.heap.size w w' := by
 have d1 : decide ((n : Int) = 32) = false := decide_eq_false (by omega)
 have HD : Hid (¬ ((n : Int) = 32)) := Lib.hid (by omega)
 clear hn
 go_enter Tryz.func41, Tryz.ntmps41
 have hbel : Below w.heap.size w w := Below.refl _ _
 have hbel0 := hbel
 go_upto_region 0 with fail
 refine rgT [(2, 0), (0, 1)] [.new 20, .oth (fun v => v = .int .i64 0)] ?_ ?_
 ·intro hs
  refine ⟨?_, ?_, trivial⟩
  ·exact step_alloc hs Wn rfl rfl (by omega) rfl allocP
  ·exact mvK hs fun _ => rfl
 intro L0 u0 W0 hall hJ hG
 obtain ⟨q2, e2, hq2, _, ht2⟩ := oN 20 hG 0
 have hq2 : w.heap.size ≤ q2 := by have := hbel0.size; omega
 have E2 := Lib.hid e2; clear e2
 have hb := hJ.all rfl
 have hbel := Below.call hbel hb
 have HC3 := oC (.int .i64 0) hG 1
 have hbel0 := hbel
 clear hJ hG hall hb
 go_upto_region 1 with fail
 refine rgT [(10, 0), (0, 1), (0, 2)] [.oth (fun v => v = .slice a n cap), .oth (fun v => v = .int .i64 (n : Nat)), .oth (fun v => v = .bool true)] ?_ ?_
 ·intro hs
  refine ⟨?_, ?_, ?_, trivial⟩
  ·exact mvK hs fun _ => rfl
  ·refine step_pureO hs Wn rfl fun L u W hG hdep => ⟨_, ?_, rfl⟩
   have e0 := (oE (.slice a n cap) hG hdep 0)
   go_simp
  ·refine step_pureO hs Wn rfl fun L u W hG hdep => ⟨_, ?_, rfl⟩
   have e0 := (oE (.int .i64 (n : Nat)) hG hdep 1)
   go_simp
   exact HD.out
 intro L1 u1 W1 hall hJ hG
 have hb := hJ.all rfl
 have hbel := Below.call hbel hb
 have ht2 := there_later ht2 hb
 have HC12 := oC (.bool true) hG 2
 have hbel0 := hbel
 clear hJ hG hall hb
 have hx : u1 2 = .bool true := HC12.out
 go_wp2_with fail
 rw [hx]
 clear hx
 go_upto_region 2 with fail
 refine rgT [(3, 2), (9, 0)] [.val rP [Cp.zero], .sto q2 rP [Cp.zero], .oth (fun v => v = .int .i64 12)] ?_ ?_
 ·intro hs
  refine ⟨?_, ?_, ?_, trivial⟩
  ·exact step_pure hs Wn rfl fun L u W hG hdep => run_build0 rfl (build_P0 W)
  ·refine step_storeO q2 20 hs Wn rfl rfl (by kernel_rfl) (fun k hk => ?_) (fun _ => E2.out) (there_lt ht2 (by omega)) ht2 (gO 0) tyP rfl
   rcases k with _ | _ | _ | k
   all_goals first | (exact absurd rfl hk) | (intro e; cases e; done)
  ·exact mvK hs fun _ => rfl
 intro L2 u2 W2 hall hJ hG
 have hb := hJ.beN hbel
 have hbel := hbel.trans hb
 obtain ⟨_, hs2_1t, hs2_1⟩ := oT 20 rP [Cp.zero] hG 1
 have HC3 := oC (.int .i64 12) hG 2
 have hbel0 := hbel
 clear hJ hG hall hb
 go_wp2
 exact ret_cell_slot (R := rP) Tryz.results41 (by exact E2.out) (by exact HC3.out) hs2_1 tyP rfl (fun r hr => ⟨r, rfl, hr, hbel⟩)
set_option maxHeartbeats 8000000 in
theorem decode_32 {bb q cap : Nat} {l : List UInt8} {o : Bool} (w : World) (hs : sgn l = o) (h : RdB w (some ⟨bb, q, none⟩) 32 cap l) :
  Calls Tryz.prog 41 #[.slice (some ⟨bb, q, none⟩) 32 cap] w fun e w' => ∃ r, e = .returned (.tuple #[r, .int .i64 (decC l)]) ∧ IsFs rP r [decV l] ∧ Below w.heap.size w w' := by
 have hl := h.hlen
 obtain ⟨b', q', hab, hc0⟩ := h.get 31 (by omega)
 obtain ⟨rfl, rfl⟩ : bb = b' ∧ q = q' := by simpa using hab
 clear hab
 obtain ⟨c, hc⟩ : ∃ c, c = l.getD 31 0 := ⟨_, rfl⟩
 have hc1 : w.cell? ⟨bb, q + 31, none⟩ = some (.int .u8 (c.toNat : Int)) := by
  rw [hc0, hc, List.getD_eq_getElem?_getD, List.getElem?_eq_getElem (by omega)]; rfl
 have HCL := Lib.hid hc1
 have HOB := Lib.hid (odd_bit hl hc.symm hs)
 obtain ⟨d, hd⟩ : ∃ d, c &&& 127 = d := ⟨_, rfl⟩
 have HDB := Lib.hid (clr_bit hd)
 have HK0 : Hid (l.set 31 d = clr l) := Lib.hid (by unfold clr; rw [← hc, hd])
 have HL := Lib.hid hl; have HS := Lib.hid hs; have HCC := Lib.hid hc
 clear hc0 hc1 hc hd hl hs
 go_enter Tryz.func41, Tryz.ntmps41
 have hbel : Below w.heap.size w w := Below.refl _ _
 have hbel0 := hbel
 go_upto_region 0 with fail
 refine rgT [(2, 0), (0, 1)] [.new 20, .oth (fun v => v = .int .i64 0)] ?_ ?_
 ·intro hs
  refine ⟨?_, ?_, trivial⟩
  ·exact step_alloc hs Wn rfl rfl (by omega) rfl allocP
  ·exact mvK hs fun _ => rfl
 intro L0 u0 W0 hall hJ hG
 obtain ⟨q2, e2, hq2, _, ht2⟩ := oN 20 hG 0
 have hq2 : w.heap.size ≤ q2 := by have := hbel0.size; omega
 have E2 := Lib.hid e2; clear e2
 have hb := hJ.all rfl
 have hbel := Below.call hbel hb
 have HC3 := oC (.int .i64 0) hG 1
 have hbel0 := hbel
 clear hJ hG hall hb
 go_upto_region 1 with fail
 refine rgT [(10, 0), (0, 1), (0, 2)] [.oth (fun v => v = .slice (some ⟨bb, q, none⟩) 32 cap), .oth (fun v => v = .int .i64 32), .oth (fun v => v = .bool false)] ?_ ?_
 ·intro hs
  refine ⟨?_, ?_, ?_, trivial⟩
  ·exact mvK hs fun _ => rfl
  ·refine step_pureO hs Wn rfl fun L u W hG hdep => ⟨_, ?_, rfl⟩
   have e0 := (oE (.slice (some ⟨bb, q, none⟩) 32 cap) hG hdep 0)
   go_simp
  ·refine step_pureO hs Wn rfl fun L u W hG hdep => ⟨_, ?_, rfl⟩
   have e0 := (oE (.int .i64 32) hG hdep 1)
   go_simp
   try simp [bne]
 intro L1 u1 W1 hall hJ hG
 have hb := hJ.all rfl
 have hbel := Below.call hbel hb
 have ht2 := there_later ht2 hb
 have HC12 := oC (.bool false) hG 2
 have hbel0 := hbel
 clear hJ hG hall hb
 have hx : u1 2 = .bool false := HC12.out
 go_wp2_with fail
 rw [hx]
 clear hx
 go_upto_region 3 with fail
 refine rgT [(4, 5), (9, 0), (0, 1), (0, 2), (0, 3), (0, 4)] [.oth (fun v => v = .slice (some ⟨bb, q, none⟩) 32 cap), .oth (fun v => v = .pointer (some ⟨bb, q + 31, none⟩)), .oth (fun v => v = .int .u8 (c.toNat : Int)), .oth (fun v => v = .int .u8 (bits BinOp.and IntKind.u8 (c.toNat : Int) 128)), .oth (fun v => v = .bool o), .oth (fun v => v = .bool o)] ?_ ?_
 ·intro hs
  refine ⟨?_, ?_, ?_, ?_, ?_, ?_, trivial⟩
  ·exact mvK hs fun _ => rfl
  ·refine step_pureO hs Wn rfl fun L u W hG hdep => ⟨_, ?_, rfl⟩
   have e0 := (oE (.slice (some ⟨bb, q, none⟩) 32 cap) hG hdep 0)
   go_simp
  ·exact step_cell bb (q + 31) hs Wn rfl rfl (fun _ h => load_u8 h) (fun L u W hG hdep => (oE (.pointer (some ⟨bb, q + 31, none⟩)) hG hdep 1)) (cell_keep HCL.out hbel) Na
  ·refine step_pureO hs Wn rfl fun L u W hG hdep => ⟨_, ?_, rfl⟩
   have e0 := (oE (.int .u8 (c.toNat : Int)) hG hdep 2)
   go_simp
  ·refine step_pureO hs Wn rfl fun L u W hG hdep => ⟨_, ?_, rfl⟩
   have e0 := (oE (.int .u8 (bits BinOp.and IntKind.u8 (c.toNat : Int) 128)) hG hdep 3)
   have e9 := HOB.out
   go_simp
   try exact e9
  ·exact mvO 4 hs
 intro L3 u3 W3 hall hJ hG
 have hb := hJ.all rfl
 have hbel := Below.call hbel hb
 have ht2 := there_later ht2 hb
 have HC18 := oC (.bool o) hG 4
 have HC4 := oC (.bool o) hG 5
 have hbel0 := hbel
 clear hJ hG hall hb
 go_upto_region 5 with (go_at_call 30; go_must (refine (clone_any _ (h.below hbel) (by omega) (by omega)).mono ?_; rintro e W4 ⟨gB, nB, cB, rB, rfl, hgB0, hB, hlB, hcB, hmB, hb⟩))
 rw [HL.out] at hlB
 subst hlB
 have hgB : w.heap.size ≤ gB := by have := hbel.size; omega
 have HE_q2 := Lib.hid (show q2 ≠ gB by have := there_lt ht2 (by omega); omega)
 have ht2 := there_later ht2 hb
 have hbel := Below.call hbel hb
 have hbel0 := hbel
 have HB := Lib.hid hB
 clear hB hb
 have hcell : W4.cell? ⟨gB, 31, none⟩ = some (.int .u8 (c.toNat : Int)) := by rw [HCC.out]; exact at31 HL.out HB.out
 have HCX := Lib.hid hcell; have HCF : Hid (W4.frozen? ⟨gB, 31, none⟩ = false) := Lib.hid (HB.out.frozen 31)
 clear hcell
 go_upto_region 5 with fail
 refine rgT [(21, 0), (0, 1), (0, 2), (0, 3), (0, 4)] [.oth (fun v => v = .slice (some ⟨gB, 0, none⟩) 32 cB), .oth (fun v => v = .pointer (some ⟨gB, 31, none⟩)), .oth (fun v => v = .int .u8 (c.toNat : Int)), .oth (fun v => v = .int .u8 (d.toNat : Int)), .oth (fun v => v = .pointer (some ⟨gB, 31, none⟩)), .cst gB 31 (.int .u8 (d.toNat : Int))] ?_ ?_
 ·intro hs
  refine ⟨?_, ?_, ?_, ?_, ?_, ?_, trivial⟩
  ·exact mvK hs fun _ => rfl
  ·refine step_pureO hs Wn rfl fun L u W hG hdep => ⟨_, ?_, rfl⟩
   have e0 := (oE (.slice (some ⟨gB, 0, none⟩) 32 cB) hG hdep 0)
   go_simp
  ·exact step_cell gB 31 hs Wn rfl rfl (fun _ h => load_u8 h) (fun L u W hG hdep => (oE (.pointer (some ⟨gB, 31, none⟩)) hG hdep 1)) HCX.out Na
  ·refine step_pureO hs Wn rfl fun L u W hG hdep => ⟨_, ?_, rfl⟩
   have e0 := (oE (.int .u8 (c.toNat : Int)) hG hdep 2)
   have e9 := HDB.out
   go_simp
  ·refine step_pureO hs Wn rfl fun L u W hG hdep => ⟨_, ?_, rfl⟩
   have e0 := (oE (.slice (some ⟨gB, 0, none⟩) 32 cB) hG hdep 0)
   go_simp
  ·refine step_cst (old := .int .u8 (c.toNat : Int)) gB 31 hs Wn rfl rfl (by kernel_rfl) (fun k hk => ?_) (fun _ h1 h2 => store_u8 h1 h2) (fun L u W hG hdep => (oE (.pointer (some ⟨gB, 31, none⟩)) hG hdep 4)) (fun L u W hG hdep => (oE (.int .u8 (d.toNat : Int)) hG hdep 3)) HCX.out HCF.out
   rcases k with _ | _ | _ | _ | _ | _ | k
   all_goals first | (exact absurd rfl hk) | (intro e; cases e; done)
 intro L5 u5 W5 hall hJ hG
 have hb := hJ.beN hbel
 have hbel := hbel.trans hb
 have ht2 := tC ht2 hJ HE_q2.out
 have HB := Lib.hid (blk_keep (HB.out.set 31 (.int .u8 (d.toNat : Int))) (show _ ∧ W5.heap[gB]? = (W4.setCell ⟨gB, 31, none⟩ (.int .u8 (d.toNat : Int))).heap[gB]? from hG 5 (by simp)).2)
 have hbel0 := hbel
 clear hJ hG hall hb
 have HKB : Hid (Blk W5 gB ((clr l).map bV ++ rB) 5) := Lib.hid (by rw [← HK0.out, ← set31 HL.out]; exact HB.out)
 clear HB HCX HCF HK0 HDB HOB HCL HCC
 have HKL : Hid ((clr l).length = 32) := Lib.hid (by rw [clr_len]; exact HL.out)
 by_cases hlow : lowN l < Pq
 rotate_left
 ·have HLW := Lib.hid hlow; clear hlow
  have HC2 := Lib.hid (stC_no HL.out HLW.out)
  generalize clr l = K at *
  go_upto_region 6 with fail
  refine rgT [(5, 5), (0, 7), (19, 2), (0, 0), (0, 1), (0, 3), (0, 4)] [.oth (fun v => v = .slice (some ⟨gB, 0, none⟩) 32 cB), .oth (fun v => IsTV rE v [stV K] (.int .i64 2)), .oth (fun v => IsTV rE v [stV K] (.int .i64 2)), .val rE [stV K], .oth (fun v => v = .int .i64 2), .new 5, .st 5 rE [stV K], .oth (fun v => v = .int .i64 2)] ?_ ?_
  ·intro hs
   refine ⟨?_, ?_, ?_, ?_, ?_, ?_, ?_, ?_, trivial⟩
   ·exact mvK hs fun _ => rfl
   ·refine step_callO hs Wn rfl fun L u W hJ hG hL hdep K hK => ?_
    have x0 := (oE (.slice (some ⟨gB, 0, none⟩) 32 cB) hG hdep 0)
    have hRB0 := (RdB.blk rB HKB.out HKL.out hcB hmB).below (hJ.all rfl)
    go_simp
    go_at_call 88
    (with_reducible refine (cStrict' rfl HC2.out hRB0).mono ?_); rintro e w1 ⟨r, rfl, hr, hb⟩
    have hk := hK.out _ _ ⟨r, rfl, hr⟩ hb
    simp only [x0] at hk
    exact hk
   ·exact step_pureO hs Wn rfl fun L u W hG hdep => ⟨_, run_move rfl, (show IsTV rE (u 1) [stV K] (.int .i64 2) from hG 1 (hdep 1 (by kernel_rfl)))⟩
   ·exact step_pure hs Wn rfl fun L u W hG hdep => run_extractV0 rfl (show IsTV rE (u 2) [stV K] (.int .i64 2) from hG 2 (hdep 2 (by kernel_rfl)))
   ·exact step_pureO hs Wn rfl fun L u W hG hdep => run_extractV1 rfl (show IsTV rE (u 2) [stV K] (.int .i64 2) from hG 2 (hdep 2 (by kernel_rfl)))
   ·exact step_alloc hs Wn rfl rfl (by omega) rfl allocE
   ·exact step_store 5 hs (by kernel_rfl) Wn rfl rfl rfl (by kernel_rfl) (by kernel_rfl) (by kernel_rfl) (by kernel_rfl) (fun _ => rfl) (gO 3) tyE rfl
   ·exact mvO 4 hs
  intro L6 u6a W6a hall hJ hG
  obtain ⟨q5, e5, hq5, _, ht5⟩ := oN 5 hG 5
  have hm5 := oS rE [stV K] hG 6 e5
  have HD5_q2 := Lib.hid (show q2 ≠ q5 by have := there_lt ht2 (by omega); omega)
  have hq5 : w.heap.size ≤ q5 := by have := hbel0.size; omega
  have E5 := Lib.hid e5; clear e5
  have hb := hJ.all rfl
  have hbel := Below.call hbel hb
  have ht2 := there_later ht2 hb
  have HKB := Lib.hid (HKB.out.below' hb)
  have HC6 := oC (.int .i64 2) hG 7
  have hbel0 := hbel
  clear hJ hG hall hb
  go_upto_region 7 with fail
  refine rgT [(31, 0), (0, 1)] [.oth (fun v => v = .int .i64 2), .oth (fun v => v = .bool true)] ?_ ?_
  ·intro hs
   refine ⟨?_, ?_, trivial⟩
   ·exact mvK hs fun _ => HC6.out
   ·refine step_pureO hs Wn rfl fun L u W hG hdep => ⟨_, ?_, rfl⟩
    have e0 := (oE (.int .i64 2) hG hdep 0)
    go_simp
    try simp [bne]
  intro L7 u7a W7a hall hJ hG
  have hb := hJ.all rfl
  have hbel := Below.call hbel hb
  have hm5 := hm5.later hb
  have ht2 := there_later ht2 hb
  have ht5 := there_later ht5 hb
  have HKB := Lib.hid (HKB.out.below' hb)
  have HC32 := oC (.bool true) hG 1
  have hbel0 := hbel
  clear hJ hG hall hb
  have hx : u7a 1 = .bool true := HC32.out
  go_wp2_with fail
  rw [hx]
  clear hx
  go_upto_region 8 with fail
  refine rgT [(3, 2), (29, 0)] [.val rP [Cp.zero], .sto q2 rP [Cp.zero], .oth (fun v => v = .int .i64 12)] ?_ ?_
  ·intro hs
   refine ⟨?_, ?_, ?_, trivial⟩
   ·exact step_pure hs Wn rfl fun L u W hG hdep => run_build0 rfl (build_P0 W)
   ·refine step_storeO q2 20 hs Wn rfl rfl (by kernel_rfl) (fun k hk => ?_) (fun _ => E2.out) (there_lt ht2 (by omega)) ht2 (gO 0) tyP rfl
    rcases k with _ | _ | _ | k
    all_goals first | (exact absurd rfl hk) | (intro e; cases e; done)
   ·exact mvK hs fun _ => rfl
  intro L8 u8a W8a hall hJ hG
  have hb := hJ.beN hbel
  have hbel := hbel.trans hb
  have hm5 := kB hm5 hJ HD5_q2.out
  have ht5 := tB ht5 hJ HD5_q2.out
  have HKB := Lib.hid (blk_keep HKB.out (hJ.block _ (HKB.out.lt) (fun k hk => by rcases k with _ | _ | _ | k <;> first | (cases hk; done) | (cases hk; exact absurd rfl HE_q2.out))))
  obtain ⟨_, hs8_1t, hs8_1⟩ := oT 20 rP [Cp.zero] hG 1
  have HC3 := oC (.int .i64 12) hG 2
  have hbel0 := hbel
  clear hJ hG hall hb
  go_wp2
  exact ret_cell_slot (R := rP) Tryz.results41 (by exact E2.out) (by exact HC3.out) hs8_1 tyP rfl (fun r hr => ⟨r, by rw [(dec_big HLW.out).2], by rw [(dec_big HLW.out).1]; exact hr, hbel⟩)
 ·have HLW := Lib.hid hlow; clear hlow
  have HC2 := Lib.hid (stC_clr HL.out HLW.out)
  have HV0 := Lib.hid (stV_clr HL.out HLW.out)
  generalize clr l = K at *
  generalize hy : fn (lowN l) = y at *
  have HY := Lib.hid hy; clear hy
  go_upto_region 6 with fail
  refine rgT [(5, 5), (0, 7), (19, 2), (0, 0), (0, 1), (0, 3), (0, 4)] [.oth (fun v => v = .slice (some ⟨gB, 0, none⟩) 32 cB), .oth (fun v => IsTV rE v [y] (.int .i64 0)), .oth (fun v => IsTV rE v [y] (.int .i64 0)), .val rE [y], .oth (fun v => v = .int .i64 0), .new 5, .st 5 rE [y], .oth (fun v => v = .int .i64 0)] ?_ ?_
  ·intro hs
   refine ⟨?_, ?_, ?_, ?_, ?_, ?_, ?_, ?_, trivial⟩
   ·exact mvK hs fun _ => rfl
   ·refine step_callO hs Wn rfl fun L u W hJ hG hL hdep K hK => ?_
    have x0 := (oE (.slice (some ⟨gB, 0, none⟩) 32 cB) hG hdep 0)
    have hRB0 := (RdB.blk rB HKB.out HKL.out hcB hmB).below (hJ.all rfl)
    go_simp
    go_at_call 88
    (with_reducible refine (cStrict' HV0.out HC2.out hRB0).mono ?_); rintro e w1 ⟨r, rfl, hr, hb⟩
    have hk := hK.out _ _ ⟨r, rfl, hr⟩ hb
    simp only [x0] at hk
    exact hk
   ·exact step_pureO hs Wn rfl fun L u W hG hdep => ⟨_, run_move rfl, (show IsTV rE (u 1) [y] (.int .i64 0) from hG 1 (hdep 1 (by kernel_rfl)))⟩
   ·exact step_pure hs Wn rfl fun L u W hG hdep => run_extractV0 rfl (show IsTV rE (u 2) [y] (.int .i64 0) from hG 2 (hdep 2 (by kernel_rfl)))
   ·exact step_pureO hs Wn rfl fun L u W hG hdep => run_extractV1 rfl (show IsTV rE (u 2) [y] (.int .i64 0) from hG 2 (hdep 2 (by kernel_rfl)))
   ·exact step_alloc hs Wn rfl rfl (by omega) rfl allocE
   ·exact step_store 5 hs (by kernel_rfl) Wn rfl rfl rfl (by kernel_rfl) (by kernel_rfl) (by kernel_rfl) (by kernel_rfl) (fun _ => rfl) (gO 3) tyE rfl
   ·exact mvO 4 hs
  intro L6 u6b W6b hall hJ hG
  obtain ⟨q5, e5, hq5, _, ht5⟩ := oN 5 hG 5
  have hm5 := oS rE [y] hG 6 e5
  have HD5_q2 := Lib.hid (show q2 ≠ q5 by have := there_lt ht2 (by omega); omega)
  have hq5 : w.heap.size ≤ q5 := by have := hbel0.size; omega
  have E5 := Lib.hid e5; clear e5
  have hb := hJ.all rfl
  have hbel := Below.call hbel hb
  have ht2 := there_later ht2 hb
  have HKB := Lib.hid (HKB.out.below' hb)
  have HC6 := oC (.int .i64 0) hG 7
  have hbel0 := hbel
  clear hJ hG hall hb
  go_upto_region 7 with fail
  refine rgT [(31, 0), (0, 1)] [.oth (fun v => v = .int .i64 0), .oth (fun v => v = .bool false)] ?_ ?_
  ·intro hs
   refine ⟨?_, ?_, trivial⟩
   ·exact mvK hs fun _ => HC6.out
   ·refine step_pureO hs Wn rfl fun L u W hG hdep => ⟨_, ?_, rfl⟩
    have e0 := (oE (.int .i64 0) hG hdep 0)
    go_simp
    try simp [bne]
  intro L7 u7b W7b hall hJ hG
  have hb := hJ.all rfl
  have hbel := Below.call hbel hb
  have hm5 := hm5.later hb
  have ht2 := there_later ht2 hb
  have ht5 := there_later ht5 hb
  have HKB := Lib.hid (HKB.out.below' hb)
  have HC32 := oC (.bool false) hG 1
  have hbel0 := hbel
  clear hJ hG hall hb
  have hx : u7b 1 = .bool false := HC32.out
  go_wp2_with fail
  rw [hx]
  clear hx
  go_upto_region 9 with fail
  refine rgM [(7, 4), (0, 5), (25, 0), (0, 1), (0, 2), (0, 3)] [.val rE [fn 1], .val rE [y], .val rE [y], .val rE [y * y], .new 5, .new 5, .st 4 rE [fn 1], .st 5 rE [y * y]] ?_ ?_
  ·intro hs
   refine ⟨?_, ?_, ?_, ?_, ?_, ?_, ?_, ?_, trivial⟩
   ·refine step_call hs Wn rfl fun L u W hJ hG hL hdep K hK => ?_
    go_simp
    go_at_call 89
    (with_reducible refine (cSmallI (n := 1) (z := 1) rfl (by omega) _).mono ?_); rintro e w1 ⟨r, rfl, hr, hb⟩
    exact hK.out _ _ hr hb
   ·exact step_load q5 0 hs Wn rfl rfl tyE (fun _ => E5.out) hm5.lt hm5 Na
   ·exact step_load q5 0 hs Wn rfl rfl tyE (fun _ => E5.out) hm5.lt hm5 Na
   ·refine step_call hs Wn rfl fun L u W hJ hG hL hdep K hK => ?_
    have a0 := (vE rE [y] hG hdep 1)
    have a1 := (vE rE [y] hG hdep 2)
    go_simp
    go_at_call 63
    (with_reducible refine (cMul a0 a1 _).mono ?_); rintro e w1 ⟨r, rfl, hr, hb⟩
    exact hK.out _ _ hr hb
   ·exact step_alloc hs Wn rfl rfl (by omega) rfl allocE
   ·exact step_alloc hs Wn rfl rfl (by omega) rfl allocE
   ·exact step_store 4 hs (by kernel_rfl) Wn rfl rfl rfl (by kernel_rfl) (by kernel_rfl) (by kernel_rfl) (by kernel_rfl) (fun _ => rfl) (gO 0) tyE rfl
   ·exact step_store 5 hs (by kernel_rfl) Wn rfl rfl rfl (by kernel_rfl) (by kernel_rfl) (by kernel_rfl) (by kernel_rfl) (fun _ => rfl) (gO 3) tyE rfl
  intro L9 u9b W9b hall hJ hG
  obtain ⟨q7, e7, hq7, _, ht7⟩ := oN 5 hG 4
  have hm7 := oS rE [fn 1] hG 6 e7
  have HD7_q2 := Lib.hid (show q2 ≠ q7 by have := there_lt ht2 (by omega); omega)
  have HD7_q5 := Lib.hid (show q5 ≠ q7 by have := there_lt ht5 (by omega); omega)
  have hq7 : w.heap.size ≤ q7 := by have := hbel0.size; omega
  have E7 := Lib.hid e7; clear e7
  obtain ⟨q8, e8, hq8, _, ht8⟩ := oN 5 hG 5
  have hm8 := oS rE [y * y] hG 7 e8
  have HD8_q2 := Lib.hid (show q2 ≠ q8 by have := there_lt ht2 (by omega); omega)
  have HD8_q5 := Lib.hid (show q5 ≠ q8 by have := there_lt ht5 (by omega); omega)
  have hq8 : w.heap.size ≤ q8 := by have := hbel0.size; omega
  have E8 := Lib.hid e8; clear e8
  have hb := hJ.all rfl
  have hbel := Below.call hbel hb
  have hm5 := hm5.later hb
  have ht2 := there_later ht2 hb
  have ht5 := there_later ht5 hb
  have HKB := Lib.hid (HKB.out.below' hb)
  have hbel0 := hbel
  clear hJ hG hall hb
  obtain ⟨X, hX⟩ : ∃ X, rootV (xx y) = X := ⟨_, rfl⟩
  have HX := Lib.hid hX; clear hX
  by_cases hrc : rootC (xx y) = 0
  rotate_left
  ·have HR7 := Lib.hid hrc; have HRC := Lib.hid (root_7 hrc); clear hrc
   go_upto_region 10 with fail
   refine rgM [(6, 16), (2, 14), (28, 11), (0, 0), (0, 1), (0, 2), (0, 3), (0, 4), (0, 5), (0, 6), (0, 7), (0, 8), (0, 9), (0, 10), (0, 12), (0, 13)] [.val rE [y * y], .val rE [fn 1], .val rE [(y * y) - (fn 1)], .val rE [y * y], .val rE [dE], .val rE [(y * y) * dE], .val rE [fn 1], .val rE [((y * y) * dE) + (fn 1)], .val rE [finv (((y * y) * dE) + (fn 1))], .val rE [((y * y) - (fn 1)) * (finv (((y * y) * dE) + (fn 1)))], .oth (fun v => IsTV rE v [X] (.int .i64 7)), .oth (fun v => IsTV rE v [X] (.int .i64 7)), .val rE [X], .oth (fun v => v = .int .i64 7), .new 5, .st 14 rE [X], .oth (fun v => v = .int .i64 7)] ?_ ?_
   ·intro hs
    refine ⟨?_, ?_, ?_, ?_, ?_, ?_, ?_, ?_, ?_, ?_, ?_, ?_, ?_, ?_, ?_, ?_, ?_, trivial⟩
    ·exact step_load q8 0 hs Wn rfl rfl tyE (fun _ => E8.out) hm8.lt hm8 Na
    ·exact step_load q7 0 hs Wn rfl rfl tyE (fun _ => E7.out) hm7.lt hm7 Na
    ·refine step_call hs Wn rfl fun L u W hJ hG hL hdep K hK => ?_
     have a0 := (vE rE [y * y] hG hdep 0)
     have a1 := (vE rE [fn 1] hG hdep 1)
     go_simp
     go_at_call 90
     (with_reducible refine (cSub a0 a1 _).mono ?_); rintro e w1 ⟨r, rfl, hr, hb⟩
     exact hK.out _ _ hr hb
    ·exact step_load q8 0 hs Wn rfl rfl tyE (fun _ => E8.out) hm8.lt hm8 Na
    ·refine step_call hs Wn rfl fun L u W hJ hG hL hdep K hK => ?_
     go_simp
     go_at_call 91
     (with_reducible refine (cD _).mono ?_); rintro e w1 ⟨r, rfl, hr, hb⟩
     exact hK.out _ _ hr hb
    ·refine step_call hs Wn rfl fun L u W hJ hG hL hdep K hK => ?_
     have a0 := (vE rE [y * y] hG hdep 3)
     have a1 := (vE rE [dE] hG hdep 4)
     go_simp
     go_at_call 63
     (with_reducible refine (cMul a0 a1 _).mono ?_); rintro e w1 ⟨r, rfl, hr, hb⟩
     exact hK.out _ _ hr hb
    ·exact step_load q7 0 hs Wn rfl rfl tyE (fun _ => E7.out) hm7.lt hm7 Na
    ·refine step_call hs Wn rfl fun L u W hJ hG hL hdep K hK => ?_
     have a0 := (vE rE [(y * y) * dE] hG hdep 5)
     have a1 := (vE rE [fn 1] hG hdep 6)
     go_simp
     go_at_call 92
     (with_reducible refine (cAdd a0 a1 _).mono ?_); rintro e w1 ⟨r, rfl, hr, hb⟩
     exact hK.out _ _ hr hb
    ·refine step_call hs Wn rfl fun L u W hJ hG hL hdep K hK => ?_
     have a0 := (vE rE [((y * y) * dE) + (fn 1)] hG hdep 7)
     go_simp
     go_at_call 62
     (with_reducible refine (cInv a0 _).mono ?_); rintro e w1 ⟨r, rfl, hr, hb⟩
     exact hK.out _ _ hr hb
    ·refine step_call hs Wn rfl fun L u W hJ hG hL hdep K hK => ?_
     have a0 := (vE rE [(y * y) - (fn 1)] hG hdep 2)
     have a1 := (vE rE [finv (((y * y) * dE) + (fn 1))] hG hdep 8)
     go_simp
     go_at_call 63
     (with_reducible refine (cMul a0 a1 _).mono ?_); rintro e w1 ⟨r, rfl, hr, hb⟩
     exact hK.out _ _ hr hb
    ·refine step_callO hs Wn rfl fun L u W hJ hG hL hdep K hK => ?_
     have a0 := xx_fs ((vE rE [((y * y) - (fn 1)) * (finv (((y * y) * dE) + (fn 1)))] hG hdep 9))
     go_simp
     go_at_call 93
     (with_reducible refine (cRootN HX.out HRC.out a0 _).mono ?_); rintro e w1 ⟨r, rfl, hr, hb⟩
     exact hK.out _ _ ⟨r, rfl, hr⟩ hb
    ·exact step_pureO hs Wn rfl fun L u W hG hdep => ⟨_, run_move rfl, (show IsTV rE (u 10) [X] (.int .i64 7) from hG 10 (hdep 10 (by kernel_rfl)))⟩
    ·exact step_pure hs Wn rfl fun L u W hG hdep => run_extractV0 rfl (show IsTV rE (u 11) [X] (.int .i64 7) from hG 11 (hdep 11 (by kernel_rfl)))
    ·exact step_pureO hs Wn rfl fun L u W hG hdep => run_extractV1 rfl (show IsTV rE (u 11) [X] (.int .i64 7) from hG 11 (hdep 11 (by kernel_rfl)))
    ·exact step_alloc hs Wn rfl rfl (by omega) rfl allocE
    ·exact step_store 14 hs (by kernel_rfl) Wn rfl rfl rfl (by kernel_rfl) (by kernel_rfl) (by kernel_rfl) (by kernel_rfl) (fun _ => rfl) (gO 12) tyE rfl
    ·exact mvO 13 hs
   intro L10 u10c W10c hall hJ hG
   obtain ⟨q9, e9, hq9, _, ht9⟩ := oN 5 hG 14
   have hm9 := oS rE [X] hG 15 e9
   have HD9_q2 := Lib.hid (show q2 ≠ q9 by have := there_lt ht2 (by omega); omega)
   have HD9_q5 := Lib.hid (show q5 ≠ q9 by have := there_lt ht5 (by omega); omega)
   have HD9_q7 := Lib.hid (show q7 ≠ q9 by have := there_lt ht7 (by omega); omega)
   have HD9_q8 := Lib.hid (show q8 ≠ q9 by have := there_lt ht8 (by omega); omega)
   have hq9 : w.heap.size ≤ q9 := by have := hbel0.size; omega
   have E9 := Lib.hid e9; clear e9
   have hb := hJ.all rfl
   have hbel := Below.call hbel hb
   have hm5 := hm5.later hb
   have hm7 := hm7.later hb
   have hm8 := hm8.later hb
   have ht2 := there_later ht2 hb
   have ht5 := there_later ht5 hb
   have ht7 := there_later ht7 hb
   have ht8 := there_later ht8 hb
   have HKB := Lib.hid (HKB.out.below' hb)
   have HC6 := oC (.int .i64 7) hG 16
   have hbel0 := hbel
   clear hJ hG hall hb
   go_upto_region 11 with fail
   refine rgT [(52, 0), (0, 1), (0, 2), (0, 3), (0, 4), (0, 5), (0, 6), (0, 7), (0, 8), (0, 9)] [.oth (fun v => v = .int .i64 7), .oth (fun v => v = .bool true), .oth (fun v => v = .bool true), .oth (fun v => v = undef), .oth (fun v => v = undef), .oth (fun v => v = undef), .oth (fun v => v = undef), .oth (fun v => v = undef), .oth (fun v => v = undef), .oth (fun v => v = .bool true)] ?_ ?_
   ·intro hs
    refine ⟨?_, ?_, ?_, ?_, ?_, ?_, ?_, ?_, ?_, ?_, trivial⟩
    ·exact mvK hs fun _ => HC6.out
    ·refine step_pureO hs Wn rfl fun L u W hG hdep => ⟨_, ?_, rfl⟩
     have e0 := (oE (.int .i64 7) hG hdep 0)
     go_simp
     try simp [bne]
    ·exact mvO 1 hs
    ·exact step_outU hs (wants_off 2 rfl rfl rfl (by kernel_rfl) (fun _ => rfl)) rfl
    ·exact step_outU hs (wants_off 2 rfl rfl rfl (by kernel_rfl) (fun _ => rfl)) rfl
    ·exact step_outU hs (wants_offU 4 rfl rfl (by kernel_rfl) (fun _ => rfl)) rfl
    ·exact step_outU hs (wants_offU 4 rfl rfl (by kernel_rfl) (fun _ => rfl)) rfl
    ·exact step_outU hs (wants_offU 4 rfl rfl (by kernel_rfl) (fun _ => rfl)) rfl
    ·exact step_outU hs (wants_off 2 rfl rfl rfl (by kernel_rfl) (fun _ => rfl)) rfl
    ·exact step_pick true hs Wn rfl rfl (fun L u W hG hdep => (oE (.bool true) hG hdep 2)) (fun L u W hG hdep => rfl)
   intro L11 u11c W11c hall hJ hG
   have hb := hJ.all rfl
   have hbel := Below.call hbel hb
   have hm5 := hm5.later hb
   have hm7 := hm7.later hb
   have hm8 := hm8.later hb
   have hm9 := hm9.later hb
   have ht2 := there_later ht2 hb
   have ht5 := there_later ht5 hb
   have ht7 := there_later ht7 hb
   have ht8 := there_later ht8 hb
   have ht9 := there_later ht9 hb
   have HKB := Lib.hid (HKB.out.below' hb)
   have HC53 := oC (.bool true) hG 1
   have HC54 := oC (.bool true) hG 2
   have HC61 := oC (.bool true) hG 9
   have hbel0 := hbel
   clear hJ hG hall hb
   have hx : u11c 9 = .bool true := HC61.out
   go_wp2_with fail
   rw [hx]
   clear hx
   go_upto_region 12 with fail
   refine rgT [(3, 2), (58, 0)] [.val rP [Cp.zero], .sto q2 rP [Cp.zero], .oth (fun v => v = .int .i64 12)] ?_ ?_
   ·intro hs
    refine ⟨?_, ?_, ?_, trivial⟩
    ·exact step_pure hs Wn rfl fun L u W hG hdep => run_build0 rfl (build_P0 W)
    ·refine step_storeO q2 20 hs Wn rfl rfl (by kernel_rfl) (fun k hk => ?_) (fun _ => E2.out) (there_lt ht2 (by omega)) ht2 (gO 0) tyP rfl
     rcases k with _ | _ | _ | k
     all_goals first | (exact absurd rfl hk) | (intro e; cases e; done)
    ·exact mvK hs fun _ => rfl
   intro L12 u12c W12c hall hJ hG
   have hb := hJ.beN hbel
   have hbel := hbel.trans hb
   have hm5 := kB hm5 hJ HD5_q2.out
   have hm7 := kB hm7 hJ HD7_q2.out
   have hm8 := kB hm8 hJ HD8_q2.out
   have hm9 := kB hm9 hJ HD9_q2.out
   have ht5 := tB ht5 hJ HD5_q2.out
   have ht7 := tB ht7 hJ HD7_q2.out
   have ht8 := tB ht8 hJ HD8_q2.out
   have ht9 := tB ht9 hJ HD9_q2.out
   have HKB := Lib.hid (blk_keep HKB.out (hJ.block _ (HKB.out.lt) (fun k hk => by rcases k with _ | _ | _ | k <;> first | (cases hk; done) | (cases hk; exact absurd rfl HE_q2.out))))
   obtain ⟨_, hs12_1t, hs12_1⟩ := oT 20 rP [Cp.zero] hG 1
   have HC3 := oC (.int .i64 12) hG 2
   have hbel0 := hbel
   clear hJ hG hall hb
   go_wp2
   exact ret_cell_slot (R := rP) Tryz.results41 (by exact E2.out) (by exact HC3.out) hs12_1 tyP rfl (fun r hr => ⟨r, by rw [(dec_root HL.out HLW.out HY.out HR7.out).2], by rw [(dec_root HL.out HLW.out HY.out HR7.out).1]; exact hr, hbel⟩)
  ·have HRC := Lib.hid hrc; clear hrc
   go_upto_region 10 with fail
   refine rgM [(6, 16), (2, 14), (28, 11), (0, 0), (0, 1), (0, 2), (0, 3), (0, 4), (0, 5), (0, 6), (0, 7), (0, 8), (0, 9), (0, 10), (0, 12), (0, 13)] [.val rE [y * y], .val rE [fn 1], .val rE [(y * y) - (fn 1)], .val rE [y * y], .val rE [dE], .val rE [(y * y) * dE], .val rE [fn 1], .val rE [((y * y) * dE) + (fn 1)], .val rE [finv (((y * y) * dE) + (fn 1))], .val rE [((y * y) - (fn 1)) * (finv (((y * y) * dE) + (fn 1)))], .oth (fun v => IsTV rE v [X] (.int .i64 0)), .oth (fun v => IsTV rE v [X] (.int .i64 0)), .val rE [X], .oth (fun v => v = .int .i64 0), .new 5, .st 14 rE [X], .oth (fun v => v = .int .i64 0)] ?_ ?_
   ·intro hs
    refine ⟨?_, ?_, ?_, ?_, ?_, ?_, ?_, ?_, ?_, ?_, ?_, ?_, ?_, ?_, ?_, ?_, ?_, trivial⟩
    ·exact step_load q8 0 hs Wn rfl rfl tyE (fun _ => E8.out) hm8.lt hm8 Na
    ·exact step_load q7 0 hs Wn rfl rfl tyE (fun _ => E7.out) hm7.lt hm7 Na
    ·refine step_call hs Wn rfl fun L u W hJ hG hL hdep K hK => ?_
     have a0 := (vE rE [y * y] hG hdep 0)
     have a1 := (vE rE [fn 1] hG hdep 1)
     go_simp
     go_at_call 90
     (with_reducible refine (cSub a0 a1 _).mono ?_); rintro e w1 ⟨r, rfl, hr, hb⟩
     exact hK.out _ _ hr hb
    ·exact step_load q8 0 hs Wn rfl rfl tyE (fun _ => E8.out) hm8.lt hm8 Na
    ·refine step_call hs Wn rfl fun L u W hJ hG hL hdep K hK => ?_
     go_simp
     go_at_call 91
     (with_reducible refine (cD _).mono ?_); rintro e w1 ⟨r, rfl, hr, hb⟩
     exact hK.out _ _ hr hb
    ·refine step_call hs Wn rfl fun L u W hJ hG hL hdep K hK => ?_
     have a0 := (vE rE [y * y] hG hdep 3)
     have a1 := (vE rE [dE] hG hdep 4)
     go_simp
     go_at_call 63
     (with_reducible refine (cMul a0 a1 _).mono ?_); rintro e w1 ⟨r, rfl, hr, hb⟩
     exact hK.out _ _ hr hb
    ·exact step_load q7 0 hs Wn rfl rfl tyE (fun _ => E7.out) hm7.lt hm7 Na
    ·refine step_call hs Wn rfl fun L u W hJ hG hL hdep K hK => ?_
     have a0 := (vE rE [(y * y) * dE] hG hdep 5)
     have a1 := (vE rE [fn 1] hG hdep 6)
     go_simp
     go_at_call 92
     (with_reducible refine (cAdd a0 a1 _).mono ?_); rintro e w1 ⟨r, rfl, hr, hb⟩
     exact hK.out _ _ hr hb
    ·refine step_call hs Wn rfl fun L u W hJ hG hL hdep K hK => ?_
     have a0 := (vE rE [((y * y) * dE) + (fn 1)] hG hdep 7)
     go_simp
     go_at_call 62
     (with_reducible refine (cInv a0 _).mono ?_); rintro e w1 ⟨r, rfl, hr, hb⟩
     exact hK.out _ _ hr hb
    ·refine step_call hs Wn rfl fun L u W hJ hG hL hdep K hK => ?_
     have a0 := (vE rE [(y * y) - (fn 1)] hG hdep 2)
     have a1 := (vE rE [finv (((y * y) * dE) + (fn 1))] hG hdep 8)
     go_simp
     go_at_call 63
     (with_reducible refine (cMul a0 a1 _).mono ?_); rintro e w1 ⟨r, rfl, hr, hb⟩
     exact hK.out _ _ hr hb
    ·refine step_callO hs Wn rfl fun L u W hJ hG hL hdep K hK => ?_
     have a0 := xx_fs ((vE rE [((y * y) - (fn 1)) * (finv (((y * y) * dE) + (fn 1)))] hG hdep 9))
     go_simp
     go_at_call 93
     (with_reducible refine (cRootN HX.out HRC.out a0 _).mono ?_); rintro e w1 ⟨r, rfl, hr, hb⟩
     exact hK.out _ _ ⟨r, rfl, hr⟩ hb
    ·exact step_pureO hs Wn rfl fun L u W hG hdep => ⟨_, run_move rfl, (show IsTV rE (u 10) [X] (.int .i64 0) from hG 10 (hdep 10 (by kernel_rfl)))⟩
    ·exact step_pure hs Wn rfl fun L u W hG hdep => run_extractV0 rfl (show IsTV rE (u 11) [X] (.int .i64 0) from hG 11 (hdep 11 (by kernel_rfl)))
    ·exact step_pureO hs Wn rfl fun L u W hG hdep => run_extractV1 rfl (show IsTV rE (u 11) [X] (.int .i64 0) from hG 11 (hdep 11 (by kernel_rfl)))
    ·exact step_alloc hs Wn rfl rfl (by omega) rfl allocE
    ·exact step_store 14 hs (by kernel_rfl) Wn rfl rfl rfl (by kernel_rfl) (by kernel_rfl) (by kernel_rfl) (by kernel_rfl) (fun _ => rfl) (gO 12) tyE rfl
    ·exact mvO 13 hs
   intro L10 u10d W10d hall hJ hG
   obtain ⟨q9, e9, hq9, _, ht9⟩ := oN 5 hG 14
   have hm9 := oS rE [X] hG 15 e9
   have HD9_q2 := Lib.hid (show q2 ≠ q9 by have := there_lt ht2 (by omega); omega)
   have HD9_q5 := Lib.hid (show q5 ≠ q9 by have := there_lt ht5 (by omega); omega)
   have HD9_q7 := Lib.hid (show q7 ≠ q9 by have := there_lt ht7 (by omega); omega)
   have HD9_q8 := Lib.hid (show q8 ≠ q9 by have := there_lt ht8 (by omega); omega)
   have hq9 : w.heap.size ≤ q9 := by have := hbel0.size; omega
   have E9 := Lib.hid e9; clear e9
   have hb := hJ.all rfl
   have hbel := Below.call hbel hb
   have hm5 := hm5.later hb
   have hm7 := hm7.later hb
   have hm8 := hm8.later hb
   have ht2 := there_later ht2 hb
   have ht5 := there_later ht5 hb
   have ht7 := there_later ht7 hb
   have ht8 := there_later ht8 hb
   have HKB := Lib.hid (HKB.out.below' hb)
   have HC6 := oC (.int .i64 0) hG 16
   have hbel0 := hbel
   clear hJ hG hall hb
   cases o
   ·skip
    go_upto_region 11 with fail
    refine rgT [(52, 0), (0, 1), (0, 2), (0, 3), (0, 4), (0, 5), (0, 6), (0, 7), (0, 8), (0, 9)] [.oth (fun v => v = .int .i64 0), .oth (fun v => v = .bool false), .oth (fun v => v = .bool false), .oth (fun v => v = .bool false), .oth (fun v => v = .bool false), .oth (fun v => v = undef), .oth (fun v => v = undef), .oth (fun v => v = undef), .oth (fun v => v = .bool false), .oth (fun v => v = .bool false)] ?_ ?_
    ·intro hs
     refine ⟨?_, ?_, ?_, ?_, ?_, ?_, ?_, ?_, ?_, ?_, trivial⟩
     ·exact mvK hs fun _ => HC6.out
     ·refine step_pureO hs Wn rfl fun L u W hG hdep => ⟨_, ?_, rfl⟩
      have e0 := (oE (.int .i64 0) hG hdep 0)
      go_simp
      try simp [bne]
     ·exact mvO 1 hs
     ·exact step_pureO hs (wants_on 2 rfl rfl (by kernel_rfl) (fun _ => rfl)) rfl fun L u W hG hdep => ⟨_, run_move rfl, HC4.out⟩
     ·exact step_pureO hs (wants_on 2 rfl rfl (by kernel_rfl) (fun _ => rfl)) rfl fun L u W hG hdep => ⟨_, run_move rfl, (oE (.bool false) hG hdep 3)⟩
     ·exact step_outU hs (wants_off 4 rfl rfl rfl (by kernel_rfl) (fun _ => rfl)) rfl
     ·exact step_outU hs (wants_off 4 rfl rfl rfl (by kernel_rfl) (fun _ => rfl)) rfl
     ·exact step_outU hs (wants_off 4 rfl rfl rfl (by kernel_rfl) (fun _ => rfl)) rfl
     ·exact step_pick false hs (wants_on 2 rfl rfl (by kernel_rfl) (fun _ => rfl)) rfl rfl (fun L u W hG hdep => (oE (.bool false) hG hdep 4)) (fun L u W hG hdep => rfl)
     ·exact step_pick false hs Wn rfl rfl (fun L u W hG hdep => (oE (.bool false) hG hdep 2)) (fun L u W hG hdep => (oE (.bool false) hG hdep 8))
    intro L11 u11n W11n hall hJ hG
    have hb := hJ.all rfl
    have hbel := Below.call hbel hb
    have hm5 := hm5.later hb
    have hm7 := hm7.later hb
    have hm8 := hm8.later hb
    have hm9 := hm9.later hb
    have ht2 := there_later ht2 hb
    have ht5 := there_later ht5 hb
    have ht7 := there_later ht7 hb
    have ht8 := there_later ht8 hb
    have ht9 := there_later ht9 hb
    have HKB := Lib.hid (HKB.out.below' hb)
    have HC53 := oC (.bool false) hG 1
    have HC54 := oC (.bool false) hG 2
    have HC55 := oC (.bool false) hG 3
    have HC56 := oC (.bool false) hG 4
    have HC60 := oC (.bool false) hG 8
    have HC61 := oC (.bool false) hG 9
    have hbel0 := hbel
    clear hJ hG hall hb
    have hx : u11n 9 = .bool false := HC61.out
    go_wp2_with fail
    rw [hx]
    clear hx
    go_upto_region 13 with fail
    refine rgM [(3, 8), (59, 0), (0, 1), (0, 2), (0, 3), (0, 4), (0, 5), (0, 6)] [.oth (fun v => v = .bool false), .val rE [X], .val rE [-X], .val rE [X], .val rE [X], .val rE [y], .val rE [X, y, fn 1, X * y], .sto q2 rE [X, y, fn 1, X * y], .oth (fun v => v = .int .i64 0)] ?_ ?_
    ·intro hs
     refine ⟨?_, ?_, ?_, ?_, ?_, ?_, ?_, ?_, ?_, trivial⟩
     ·exact mvK hs fun _ => HC4.out
     ·exact step_load q9 0 hs Wn rfl rfl tyE (fun _ => E9.out) hm9.lt hm9 (apN HD9_q2.out)
     ·refine step_call hs Wn rfl fun L u W hJ hG hL hdep K hK => ?_
      have a0 := (vE rE [X] hG hdep 1)
      go_simp
      go_at_call 97
      (with_reducible refine (cNeg a0 _).mono ?_); rintro e w1 ⟨r, rfl, hr, hb⟩
      exact hK.out _ _ hr hb
     ·exact step_load q9 0 hs Wn rfl rfl tyE (fun _ => E9.out) hm9.lt hm9 (apN HD9_q2.out)
     ·refine step_call hs Wn rfl fun L u W hJ hG hL hdep K hK => ?_
      have a0 := (vE rE [-X] hG hdep 2)
      have a1 := (vE rE [X] hG hdep 3)
      have x0 := (oE (.bool false) hG hdep 0)
      go_simp
      go_at_call 96
      (with_reducible refine (cPick (b := false) rfl a0 a1 _).mono ?_); rintro e w1 ⟨r, rfl, hr, hb⟩
      have hk := hK.out _ _ hr hb
      simp only [x0] at hk
      exact hk
     ·exact step_load q5 0 hs Wn rfl rfl tyE (fun _ => E5.out) hm5.lt hm5 (apN HD5_q2.out)
     ·refine step_call hs Wn rfl fun L u W hJ hG hL hdep K hK => ?_
      have a0 := (vE rE [X] hG hdep 4)
      have a1 := (vE rE [y] hG hdep 5)
      go_simp
      go_at_call 95
      (with_reducible refine (cPoint a0 a1 _).mono ?_); rintro e w1 ⟨r, rfl, hr, hb⟩
      exact hK.out _ _ hr hb
     ·refine step_storeO q2 20 hs Wn rfl rfl (by kernel_rfl) (fun k hk => ?_) (fun _ => E2.out) (there_lt ht2 (by omega)) ht2 (gO 6) tyP4 rfl
      rcases k with _ | _ | _ | _ | _ | _ | _ | _ | _ | k
      all_goals first | (exact absurd rfl hk) | (intro e; cases e; done)
     ·exact mvK hs fun _ => rfl
    intro L13 u13n W13n hall hJ hG
    have hb := hJ.beN hbel
    have hbel := hbel.trans hb
    have hm5 := kB hm5 hJ HD5_q2.out
    have hm7 := kB hm7 hJ HD7_q2.out
    have hm8 := kB hm8 hJ HD8_q2.out
    have hm9 := kB hm9 hJ HD9_q2.out
    have ht5 := tB ht5 hJ HD5_q2.out
    have ht7 := tB ht7 hJ HD7_q2.out
    have ht8 := tB ht8 hJ HD8_q2.out
    have ht9 := tB ht9 hJ HD9_q2.out
    have HKB := Lib.hid (blk_keep HKB.out (hJ.block _ (HKB.out.lt) (fun k hk => by rcases k with _ | _ | _ | _ | _ | _ | _ | _ | _ | k <;> first | (cases hk; done) | (cases hk; exact absurd rfl HE_q2.out))))
    obtain ⟨_, hs13_7t, hs13_7⟩ := oT 20 rE [X, y, fn 1, X * y] hG 7
    have HC63 := oC (.bool false) hG 0
    have HC3 := oC (.int .i64 0) hG 8
    have hbel0 := hbel
    clear hJ hG hall hb
    go_wp2
    exact ret_cell_slot (R := rE) Tryz.results41 (by exact E2.out) (by exact HC3.out) hs13_7 tyP4 rfl (fun r hr => ⟨r, by rw [(dec_yes HL.out HLW.out HY.out HRC.out HS.out (fun k => by cases k.1)).1], toP (isPr hr (dec_pext (by rw [(dec_yes HL.out HLW.out HY.out HRC.out HS.out (fun k => by cases k.1)).2.1, HX.out]; rfl) (dec_yes HL.out HLW.out HY.out HRC.out HS.out (fun k => by cases k.1)).2.2)), hbel⟩)
   ·skip
    by_cases hx0 : X = 0
    ·have HX0 := Lib.hid hx0; clear hx0
     go_upto_region 11 with fail
     refine rgT [(52, 0), (0, 1), (0, 2), (0, 3), (0, 4), (0, 5), (0, 6), (0, 7), (0, 8), (0, 9)] [.oth (fun v => v = .int .i64 0), .oth (fun v => v = .bool false), .oth (fun v => v = .bool false), .oth (fun v => v = .bool true), .oth (fun v => v = .bool true), .val rE [X], .val rE [0], .oth (fun v => v = .bool true), .oth (fun v => v = .bool true), .oth (fun v => v = .bool true)] ?_ ?_
     ·intro hs
      refine ⟨?_, ?_, ?_, ?_, ?_, ?_, ?_, ?_, ?_, ?_, trivial⟩
      ·exact mvK hs fun _ => HC6.out
      ·refine step_pureO hs Wn rfl fun L u W hG hdep => ⟨_, ?_, rfl⟩
       have e0 := (oE (.int .i64 0) hG hdep 0)
       go_simp
       try simp [bne]
      ·exact mvO 1 hs
      ·exact step_pureO hs (wants_on 2 rfl rfl (by kernel_rfl) (fun _ => rfl)) rfl fun L u W hG hdep => ⟨_, run_move rfl, HC4.out⟩
      ·exact step_pureO hs (wants_on 2 rfl rfl (by kernel_rfl) (fun _ => rfl)) rfl fun L u W hG hdep => ⟨_, run_move rfl, (oE (.bool true) hG hdep 3)⟩
      ·exact step_load q9 0 hs (wants_on 4 rfl rfl (by kernel_rfl) (fun _ => rfl)) rfl rfl tyE (fun _ => E9.out) hm9.lt hm9 Na
      ·exact step_pure hs (wants_on 4 rfl rfl (by kernel_rfl) (fun _ => rfl)) rfl fun L u W hG hdep => run_build0 rfl (buildE0 W)
      ·refine step_callO hs (wants_on 4 rfl rfl (by kernel_rfl) (fun _ => rfl)) rfl fun L u W hJ hG hL hdep K hK => ?_
       have a0 := (vE rE [X] hG hdep 5)
       have a1 := (vE rE [0] hG hdep 6)
       go_simp
       go_at_call 94
       (with_reducible refine (cSame (b := true) (decide_eq_true HX0.out) a0 a1 _).mono ?_); rintro e w1 ⟨rfl, hb⟩
       exact hK.out _ _ rfl hb
      ·exact step_pick true hs (wants_on 2 rfl rfl (by kernel_rfl) (fun _ => rfl)) rfl rfl (fun L u W hG hdep => (oE (.bool true) hG hdep 4)) (fun L u W hG hdep => (oE (.bool true) hG hdep 7))
      ·exact step_pick false hs Wn rfl rfl (fun L u W hG hdep => (oE (.bool false) hG hdep 2)) (fun L u W hG hdep => (oE (.bool true) hG hdep 8))
     intro L11 u11e W11e hall hJ hG
     have hb := hJ.all rfl
     have hbel := Below.call hbel hb
     have hm5 := hm5.later hb
     have hm7 := hm7.later hb
     have hm8 := hm8.later hb
     have hm9 := hm9.later hb
     have ht2 := there_later ht2 hb
     have ht5 := there_later ht5 hb
     have ht7 := there_later ht7 hb
     have ht8 := there_later ht8 hb
     have ht9 := there_later ht9 hb
     have HKB := Lib.hid (HKB.out.below' hb)
     have HC53 := oC (.bool false) hG 1
     have HC54 := oC (.bool false) hG 2
     have HC55 := oC (.bool true) hG 3
     have HC56 := oC (.bool true) hG 4
     have HC59 := oC (.bool true) hG 7
     have HC60 := oC (.bool true) hG 8
     have HC61 := oC (.bool true) hG 9
     have hbel0 := hbel
     clear hJ hG hall hb
     have hx : u11e 9 = .bool true := HC61.out
     go_wp2_with fail
     rw [hx]
     clear hx
     go_upto_region 12 with fail
     refine rgT [(3, 2), (58, 0)] [.val rP [Cp.zero], .sto q2 rP [Cp.zero], .oth (fun v => v = .int .i64 12)] ?_ ?_
     ·intro hs
      refine ⟨?_, ?_, ?_, trivial⟩
      ·exact step_pure hs Wn rfl fun L u W hG hdep => run_build0 rfl (build_P0 W)
      ·refine step_storeO q2 20 hs Wn rfl rfl (by kernel_rfl) (fun k hk => ?_) (fun _ => E2.out) (there_lt ht2 (by omega)) ht2 (gO 0) tyP rfl
       rcases k with _ | _ | _ | k
       all_goals first | (exact absurd rfl hk) | (intro e; cases e; done)
      ·exact mvK hs fun _ => rfl
     intro L12 u12e W12e hall hJ hG
     have hb := hJ.beN hbel
     have hbel := hbel.trans hb
     have hm5 := kB hm5 hJ HD5_q2.out
     have hm7 := kB hm7 hJ HD7_q2.out
     have hm8 := kB hm8 hJ HD8_q2.out
     have hm9 := kB hm9 hJ HD9_q2.out
     have ht5 := tB ht5 hJ HD5_q2.out
     have ht7 := tB ht7 hJ HD7_q2.out
     have ht8 := tB ht8 hJ HD8_q2.out
     have ht9 := tB ht9 hJ HD9_q2.out
     have HKB := Lib.hid (blk_keep HKB.out (hJ.block _ (HKB.out.lt) (fun k hk => by rcases k with _ | _ | _ | k <;> first | (cases hk; done) | (cases hk; exact absurd rfl HE_q2.out))))
     obtain ⟨_, hs12_1t, hs12_1⟩ := oT 20 rP [Cp.zero] hG 1
     have HC3 := oC (.int .i64 12) hG 2
     have hbel0 := hbel
     clear hJ hG hall hb
     go_wp2
     exact ret_cell_slot (R := rP) Tryz.results41 (by exact E2.out) (by exact HC3.out) hs12_1 tyP rfl (fun r hr => ⟨r, by rw [(dec_sgn HL.out HLW.out HY.out HRC.out HS.out (HX.out.trans HX0.out)).2], by rw [(dec_sgn HL.out HLW.out HY.out HRC.out HS.out (HX.out.trans HX0.out)).1]; exact hr, hbel⟩)
    ·have HX0 := Lib.hid hx0; clear hx0
     go_upto_region 11 with fail
     refine rgT [(52, 0), (0, 1), (0, 2), (0, 3), (0, 4), (0, 5), (0, 6), (0, 7), (0, 8), (0, 9)] [.oth (fun v => v = .int .i64 0), .oth (fun v => v = .bool false), .oth (fun v => v = .bool false), .oth (fun v => v = .bool true), .oth (fun v => v = .bool true), .val rE [X], .val rE [0], .oth (fun v => v = .bool false), .oth (fun v => v = .bool false), .oth (fun v => v = .bool false)] ?_ ?_
     ·intro hs
      refine ⟨?_, ?_, ?_, ?_, ?_, ?_, ?_, ?_, ?_, ?_, trivial⟩
      ·exact mvK hs fun _ => HC6.out
      ·refine step_pureO hs Wn rfl fun L u W hG hdep => ⟨_, ?_, rfl⟩
       have e0 := (oE (.int .i64 0) hG hdep 0)
       go_simp
       try simp [bne]
      ·exact mvO 1 hs
      ·exact step_pureO hs (wants_on 2 rfl rfl (by kernel_rfl) (fun _ => rfl)) rfl fun L u W hG hdep => ⟨_, run_move rfl, HC4.out⟩
      ·exact step_pureO hs (wants_on 2 rfl rfl (by kernel_rfl) (fun _ => rfl)) rfl fun L u W hG hdep => ⟨_, run_move rfl, (oE (.bool true) hG hdep 3)⟩
      ·exact step_load q9 0 hs (wants_on 4 rfl rfl (by kernel_rfl) (fun _ => rfl)) rfl rfl tyE (fun _ => E9.out) hm9.lt hm9 Na
      ·exact step_pure hs (wants_on 4 rfl rfl (by kernel_rfl) (fun _ => rfl)) rfl fun L u W hG hdep => run_build0 rfl (buildE0 W)
      ·refine step_callO hs (wants_on 4 rfl rfl (by kernel_rfl) (fun _ => rfl)) rfl fun L u W hJ hG hL hdep K hK => ?_
       have a0 := (vE rE [X] hG hdep 5)
       have a1 := (vE rE [0] hG hdep 6)
       go_simp
       go_at_call 94
       (with_reducible refine (cSame (b := false) (decide_eq_false HX0.out) a0 a1 _).mono ?_); rintro e w1 ⟨rfl, hb⟩
       exact hK.out _ _ rfl hb
      ·exact step_pick true hs (wants_on 2 rfl rfl (by kernel_rfl) (fun _ => rfl)) rfl rfl (fun L u W hG hdep => (oE (.bool true) hG hdep 4)) (fun L u W hG hdep => (oE (.bool false) hG hdep 7))
      ·exact step_pick false hs Wn rfl rfl (fun L u W hG hdep => (oE (.bool false) hG hdep 2)) (fun L u W hG hdep => (oE (.bool false) hG hdep 8))
     intro L11 u11f W11f hall hJ hG
     have hb := hJ.all rfl
     have hbel := Below.call hbel hb
     have hm5 := hm5.later hb
     have hm7 := hm7.later hb
     have hm8 := hm8.later hb
     have hm9 := hm9.later hb
     have ht2 := there_later ht2 hb
     have ht5 := there_later ht5 hb
     have ht7 := there_later ht7 hb
     have ht8 := there_later ht8 hb
     have ht9 := there_later ht9 hb
     have HKB := Lib.hid (HKB.out.below' hb)
     have HC53 := oC (.bool false) hG 1
     have HC54 := oC (.bool false) hG 2
     have HC55 := oC (.bool true) hG 3
     have HC56 := oC (.bool true) hG 4
     have HC59 := oC (.bool false) hG 7
     have HC60 := oC (.bool false) hG 8
     have HC61 := oC (.bool false) hG 9
     have hbel0 := hbel
     clear hJ hG hall hb
     have hx : u11f 9 = .bool false := HC61.out
     go_wp2_with fail
     rw [hx]
     clear hx
     go_upto_region 13 with fail
     refine rgM [(3, 8), (59, 0), (0, 1), (0, 2), (0, 3), (0, 4), (0, 5), (0, 6)] [.oth (fun v => v = .bool true), .val rE [X], .val rE [-X], .val rE [X], .val rE [-X], .val rE [y], .val rE [-X, y, fn 1, (-X) * y], .sto q2 rE [-X, y, fn 1, (-X) * y], .oth (fun v => v = .int .i64 0)] ?_ ?_
     ·intro hs
      refine ⟨?_, ?_, ?_, ?_, ?_, ?_, ?_, ?_, ?_, trivial⟩
      ·exact mvK hs fun _ => HC4.out
      ·exact step_load q9 0 hs Wn rfl rfl tyE (fun _ => E9.out) hm9.lt hm9 (apN HD9_q2.out)
      ·refine step_call hs Wn rfl fun L u W hJ hG hL hdep K hK => ?_
       have a0 := (vE rE [X] hG hdep 1)
       go_simp
       go_at_call 97
       (with_reducible refine (cNeg a0 _).mono ?_); rintro e w1 ⟨r, rfl, hr, hb⟩
       exact hK.out _ _ hr hb
      ·exact step_load q9 0 hs Wn rfl rfl tyE (fun _ => E9.out) hm9.lt hm9 (apN HD9_q2.out)
      ·refine step_call hs Wn rfl fun L u W hJ hG hL hdep K hK => ?_
       have a0 := (vE rE [-X] hG hdep 2)
       have a1 := (vE rE [X] hG hdep 3)
       have x0 := (oE (.bool true) hG hdep 0)
       go_simp
       go_at_call 96
       (with_reducible refine (cPick (b := true) rfl a0 a1 _).mono ?_); rintro e w1 ⟨r, rfl, hr, hb⟩
       have hk := hK.out _ _ hr hb
       simp only [x0] at hk
       exact hk
      ·exact step_load q5 0 hs Wn rfl rfl tyE (fun _ => E5.out) hm5.lt hm5 (apN HD5_q2.out)
      ·refine step_call hs Wn rfl fun L u W hJ hG hL hdep K hK => ?_
       have a0 := (vE rE [-X] hG hdep 4)
       have a1 := (vE rE [y] hG hdep 5)
       go_simp
       go_at_call 95
       (with_reducible refine (cPoint a0 a1 _).mono ?_); rintro e w1 ⟨r, rfl, hr, hb⟩
       exact hK.out _ _ hr hb
      ·refine step_storeO q2 20 hs Wn rfl rfl (by kernel_rfl) (fun k hk => ?_) (fun _ => E2.out) (there_lt ht2 (by omega)) ht2 (gO 6) tyP4 rfl
       rcases k with _ | _ | _ | _ | _ | _ | _ | _ | _ | k
       all_goals first | (exact absurd rfl hk) | (intro e; cases e; done)
      ·exact mvK hs fun _ => rfl
     intro L13 u13f W13f hall hJ hG
     have hb := hJ.beN hbel
     have hbel := hbel.trans hb
     have hm5 := kB hm5 hJ HD5_q2.out
     have hm7 := kB hm7 hJ HD7_q2.out
     have hm8 := kB hm8 hJ HD8_q2.out
     have hm9 := kB hm9 hJ HD9_q2.out
     have ht5 := tB ht5 hJ HD5_q2.out
     have ht7 := tB ht7 hJ HD7_q2.out
     have ht8 := tB ht8 hJ HD8_q2.out
     have ht9 := tB ht9 hJ HD9_q2.out
     have HKB := Lib.hid (blk_keep HKB.out (hJ.block _ (HKB.out.lt) (fun k hk => by rcases k with _ | _ | _ | _ | _ | _ | _ | _ | _ | k <;> first | (cases hk; done) | (cases hk; exact absurd rfl HE_q2.out))))
     obtain ⟨_, hs13_7t, hs13_7⟩ := oT 20 rE [-X, y, fn 1, (-X) * y] hG 7
     have HC63 := oC (.bool true) hG 0
     have HC3 := oC (.int .i64 0) hG 8
     have hbel0 := hbel
     clear hJ hG hall hb
     go_wp2
     exact ret_cell_slot (R := rE) Tryz.results41 (by exact E2.out) (by exact HC3.out) hs13_7 tyP4 rfl (fun r hr => ⟨r, by rw [(dec_yes HL.out HLW.out HY.out HRC.out HS.out (fun k => HX0.out (HX.out.symm.trans k.2))).1], toP (isPr hr (dec_pext (by rw [(dec_yes HL.out HLW.out HY.out HRC.out HS.out (fun k => HX0.out (HX.out.symm.trans k.2))).2.1, HX.out]; rfl) (dec_yes HL.out HLW.out HY.out HRC.out HS.out (fun k => HX0.out (HX.out.symm.trans k.2))).2.2)), hbel⟩)
theorem cDecode {a : Option Addr} {n cap : Nat} {l : List UInt8} {P : EP} {c : Int} {w : World} (hP : decV l = P) (hc : decC l = c) (h : RdB w a n cap l) :
  Calls Tryz.prog 41 #[.slice a n cap] w fun e w' => ∃ r, e = .returned (.tuple #[r, .int .i64 c]) ∧ IsFs rP r [P] ∧ Below w.heap.size w w' := by
 subst hP hc
 by_cases hn : n = 32
 ·subst hn
  obtain ⟨b, q, rfl, hc0⟩ := h.get 31 (by rw [h.hlen]; omega)
  exact decode_32 w rfl h
 ·obtain ⟨e1, e2⟩ := dec_len (b := l) (by rw [h.hlen]; exact hn)
  rw [e1, e2]
  exact decode_len w hn
theorem dec_base : decV (88 :: List.replicate 31 102) = base ∧ decC (88 :: List.replicate 31 102) = 0 := by
 rw [← base_enc]
 unfold decV decC
 rw [decP_enc]
 exact ⟨rfl, rfl⟩
set_option maxHeartbeats 4000000 in
theorem cBase (w : World) : Calls Tryz.prog 22 #[] w fun e w' => ∃ r, e = .returned r ∧ IsFs rP r [base] ∧ Below w.heap.size w w' := by
 go_enter Tryz.func22, Tryz.ntmps22
 go_upto_region 3 with (go_at_call 57; go_must (refine (repeat_32' (k := w.heap.size + 1 + 1) (by simp) ?_).mono ?_; (focus (exact Blk.new' (cs := #[.int .u8 102]) (by simp))); rintro e w1 ⟨rfl, hB, hb⟩; have hN := hB.frozen 0; have hC : w1.cell? ⟨w.heap.size + 1 + 1, 0, none⟩ = some (.int .u8 102) := (by rw [hB.cell 0]; rfl); have HB := Lib.hid hB; have hbel : Below w.heap.size w w1 := Below.call belowBy hb; have htk : w1.there w.heap.size 0 20 := (fun j hj => (by have hO := (show Blk _ w.heap.size [.int .u64 0,.int .u64 0,.int .u64 0,.int .u64 0,.int .u64 0,.int .u64 0,.int .u64 0,.int .u64 0,.int .u64 0,.int .u64 0,.int .u64 0,.int .u64 0,.int .u64 0,.int .u64 0,.int .u64 0,.int .u64 0,.int .u64 0,.int .u64 0,.int .u64 0,.int .u64 0] 54 from (by repeat (first | (with_reducible refine Blk.drew ?_) | exact Blk.new' (by simp) | (with_reducible refine Blk.alloc ?_ _)))).below' hb; rw [Nat.zero_add, hO.cell, hO.frozen, List.getElem?_eq_getElem (by simp; omega)]; exact ⟨rfl, rfl⟩)); clear hb hB))
 have hD : Blk (w1.setCell ⟨w.heap.size + 1 + 1, 0, none⟩ (.int .u8 88)) (w.heap.size + 1 + 1) ((88 :: List.replicate 31 102).map bV ++ []) 5 := HB.out.set 0 (.int .u8 88)
 have hbel2 : Below w.heap.size w (w1.setCell ⟨w.heap.size + 1 + 1, 0, none⟩ (.int .u8 88)) := hbel.setCell (by simp; omega) _
 have htk2 : (w1.setCell ⟨w.heap.size + 1 + 1, 0, none⟩ (.int .u8 88)).there w.heap.size 0 20 := there_blk htk (set_other (by omega) _ _)
 clear hbel htk HB hN hC
 generalize w1.setCell ⟨w.heap.size + 1 + 1, 0, none⟩ (.int .u8 88) = W at *
 have hbel := hbel2
 have hbel0 := hbel
 have HD := Lib.hid hD
 clear hbel2 hD
 refine rgT [(2, 5), (0, 7), (4, 2), (0, 0), (0, 1), (0, 3), (0, 4)] [.oth (fun v => v = .slice (some ⟨w.heap.size + 1 + 1, 0, none⟩) 32 32), .oth (fun v => IsTV rP v [base] (.int .i64 0)), .oth (fun v => IsTV rP v [base] (.int .i64 0)), .val rP [base], .oth (fun v => v = .int .i64 0), .new 20, .st 5 rP [base], .oth (fun v => v = .int .i64 0)] ?_ ?_
 ·intro hs
  refine ⟨?_, ?_, ?_, ?_, ?_, ?_, ?_, ?_, trivial⟩
  ·exact mvK hs fun _ => rfl
  ·refine step_callO hs Wn rfl fun L u W hJ hG hL hdep K hK => ?_
   have x0 := (oE (.slice (some ⟨w.heap.size + 1 + 1, 0, none⟩) 32 32) hG hdep 0)
   have hRB0 := ((RdB.blk (n := 32) (cap := 32) [] HD.out (by rfl) (Nat.le_refl _) (by unfold maxLen; omega)).below (Below.refl _ _)).below (hJ.all rfl)
   go_simp
   go_at_call 41
   (with_reducible refine (cDecode dec_base.1 dec_base.2 hRB0).mono ?_); rintro e w1 ⟨r, rfl, hr, hb⟩
   have hk := hK.out _ _ ⟨r, rfl, hr⟩ hb
   simp only [x0] at hk
   exact hk
  ·exact step_pureO hs Wn rfl fun L u W hG hdep => ⟨_, run_move rfl, (show IsTV rP (u 1) [base] (.int .i64 0) from hG 1 (hdep 1 (by kernel_rfl)))⟩
  ·exact step_pure hs Wn rfl fun L u W hG hdep => run_extractV0 rfl (show IsTV rP (u 2) [base] (.int .i64 0) from hG 2 (hdep 2 (by kernel_rfl)))
  ·exact step_pureO hs Wn rfl fun L u W hG hdep => run_extractV1 rfl (show IsTV rP (u 2) [base] (.int .i64 0) from hG 2 (hdep 2 (by kernel_rfl)))
  ·exact step_alloc hs Wn rfl rfl (by omega) rfl allocP
  ·exact step_store 5 hs (by kernel_rfl) Wn rfl rfl rfl (by kernel_rfl) (by kernel_rfl) (by kernel_rfl) (by kernel_rfl) (fun _ => rfl) (gO 3) tyP rfl
  ·exact mvO 4 hs
 intro L3 u3 W3 hall hJ hG
 obtain ⟨q2, e2, hq2, _, ht2⟩ := oN 20 hG 5
 have hm2 := oS rP [base] hG 6 e2
 have HD2_wheapsize := Lib.hid (show w.heap.size ≠ q2 by have := there_lt htk2 (by omega); omega)
 have hq2 : w.heap.size ≤ q2 := by have := hbel0.size; omega
 have E2 := Lib.hid e2; clear e2
 have hb := hJ.all rfl
 have hbel := Below.call hbel hb
 have htk2 := there_later htk2 hb
 have HD := Lib.hid (HD.out.below' hb)
 have hbel0 := hbel
 clear hJ hG hall hb
 go_upto_region 4 with fail
 refine rgT [(13, 0)] [.val rP [base], .sto w.heap.size rP [base]] ?_ ?_
 ·intro hs
  refine ⟨?_, ?_, trivial⟩
  ·exact step_load q2 0 hs Wn rfl rfl tyP (fun _ => E2.out) hm2.lt hm2 (apN HD2_wheapsize.out)
  ·refine step_storeO w.heap.size 20 hs Wn rfl rfl (by kernel_rfl) (fun k hk => ?_) (fun _ => rfl) (there_lt htk2 (by omega)) htk2 (gO 0) tyP rfl
   rcases k with _ | _ | k
   all_goals first | (exact absurd rfl hk) | (intro e; cases e; done)
 intro L4 u4 W4 hall hJ hG
 have hb := hJ.beN hbel
 have hbel := hbel.trans hb
 have hm2 := kB hm2 hJ HD2_wheapsize.out
 have ht2 := tB ht2 hJ HD2_wheapsize.out
 obtain ⟨_, hs4_1t, hs4_1⟩ := (show _ ∧ W4.there w.heap.size 0 20 ∧ HasFs rP W4 w.heap.size 0 [base] from hG 1 (by simp))
 have hbel0 := hbel
 clear hJ hG hall hb
 go_wp2
 exact ret_cell1 (R := rP) Tryz.results22 (by exact rfl) hs4_1 tyP rfl (fun r hr => ⟨r, rfl, hr, hbel⟩)
def edA (seed : List UInt8) : F := wS (clampB (sha512 seed))
def edP (seed : List UInt8) : List UInt8 := (sha512 seed).drop 32
def edPub (seed : List UInt8) : List UInt8 := encP (Cp.mul (edA seed).val base)
theorem edPub_len (seed : List UInt8) : (edPub seed).length = 32 := encP_len _
theorem NewB.mk' {w w' : World} {l : List UInt8} {e : Ending} (h : ∃ g n cap r, e = .returned (.slice (some ⟨g, 0, none⟩) n cap) ∧ w.heap.size ≤ g ∧ Blk w' g (l.map bV ++ r) 5 ∧ l.length = n ∧ n ≤ cap ∧ cap ≤ maxLen ∧ Below w.heap.size w w') : ∃ r, e = .returned r ∧ (IsB l).P r w' ∧ Below w.heap.size w w' := NewB.is h
theorem gSum512 {v : Value} {ls : List (List UInt8)} {l : List UInt8} {w : World} (h : (IsR ls).P v w) (hl : ls.flatten = l) (hs : l.length ≤ 1000000) :
  Calls Tryz.prog 19 #[v] w fun e w' => ∃ r, e = .returned r ∧ (IsB (sha512 l)).P r w' ∧ Below w.heap.size w w' := by
 obtain ⟨a, n, cap, rfl, hr⟩ := h
 exact (sum512_any hr hl hs).mono fun _ _ h => h.is
theorem gCat {v : Value} {ls : List (List UInt8)} {l : List UInt8} {w : World} (h : (IsR ls).P v w) (hl : ls.flatten = l) (hs : l.length ≤ 1000000) :
  Calls Tryz.prog 25 #[v] w fun e w' => ∃ r, e = .returned r ∧ (IsB l).P r w' ∧ Below w.heap.size w w' := by
 obtain ⟨a, n, cap, rfl, hr⟩ := h
 subst hl
 exact (cat_any w hr (by omega)).mono fun _ _ ⟨v, he, ho, hb⟩ => ⟨v, he, IsB.own ho, hb⟩
theorem gClamp {v : Value} {l : List UInt8} {w : World} (h : (IsB l).P v w) :
  Calls Tryz.prog 21 #[v] w fun e w' => ∃ r, e = .returned r ∧ (IsB (clampB l)).P r w' ∧ Below w.heap.size w w' := by
 obtain ⟨a, n, cap, rfl, hr⟩ := h
 exact (clamp_any w hr).mono fun _ _ ⟨he, hB, hb⟩ => ⟨_, he, IsB.mk (RdB.blk (n := 32) (cap := 32) [] (by rw [List.append_nil]; exact hB) (clampB_len _) (by omega) (by unfold maxLen; omega)), hb⟩
theorem gWide {v : Value} {l : List UInt8} {w : World} (h : (IsB l).P v w) :
  Calls Tryz.prog 20 #[v] w fun e w' => ∃ r, e = .returned r ∧ IsFs rS r [wS l] ∧ Below w.heap.size w w' := by
 obtain ⟨a, n, cap, rfl, hr⟩ := h
 exact cWide rfl hr
theorem gClone {v : Value} {l : List UInt8} {w : World} (h : (IsB l).P v w) (hm : l.length ≤ 1000000) :
  Calls Tryz.prog 30 #[v] w fun e w' => ∃ r, e = .returned r ∧ (IsB l).P r w' ∧ Below w.heap.size w w' := by
 obtain ⟨a, n, cap, rfl, hr⟩ := h
 exact (clone_own w hr (by rw [← hr.hlen]; omega)).mono fun _ _ ⟨v, he, ho, hb⟩ => ⟨v, he, IsB.own ho, hb⟩
theorem gEncode {v : Value} {P : EP} (h : IsFs rP v [P]) (w : World) :
  Calls Tryz.prog 24 #[v] w fun e w' => ∃ r, e = .returned r ∧ (IsB (encP P)).P r w' ∧ Below w.heap.size w w' := (cEncode h w).mono fun _ _ h => NewB.mk' h
theorem gDecode {v : Value} {l : List UInt8} {P : EP} {c : Int} {w : World} (hP : decV l = P) (hc : decC l = c) (h : (IsB l).P v w) :
  Calls Tryz.prog 41 #[v] w fun e w' => ∃ r, e = .returned (.tuple #[r, .int .i64 c]) ∧ IsFs rP r [P] ∧ Below w.heap.size w w' := by
 obtain ⟨a, n, cap, rfl, hr⟩ := h
 exact cDecode hP hc hr
theorem gStrict {v : Value} {l : List UInt8} {x : F} {c : Int} {w : World} (hx : ssV l = x) (hc : ssC l = c) (h : (IsB l).P v w) :
  Calls Tryz.prog 43 #[v] w fun e w' => ∃ r, e = .returned (.tuple #[r, .int .i64 c]) ∧ IsFs rS r [x] ∧ Below w.heap.size w w' := by
 obtain ⟨a, n, cap, rfl, hr⟩ := h
 exact cScStrict hx hc hr
theorem field_Signer2 (g : Nat) (w : World) : (Instr.fieldAt 58 (.pointer (some ⟨g, 0, none⟩)) 2).run Tryz.prog w = .ok (.pointer (some ⟨g, 5, none⟩)) w := by kernel_rfl
theorem buildSigner (a b c d : Int) (A B : Option Addr) (n m k j : Nat) (w : World) : (Instr.build 58 #[(0, .agg #[.int .u64 a, .int .u64 b, .int .u64 c, .int .u64 d]), (1, .slice A n k), (2, .slice B m j)]).run Tryz.prog w = .ok (.agg #[.int .u64 a, .int .u64 b, .int .u64 c, .int .u64 d, .slice A n k, .slice B m j]) w := by kernel_rfl
theorem run_buildSigner {ev : Operand → Value} {o : Oper} {x y z : Operand} {w : World} {s : F} {p q : List UInt8} (ho : o.op = .build 58 #[(0, x), (1, y), (2, z)]) (h0 : IsFs rS (ev x) [s]) (h1 : (IsB p).P (ev y) w) (h2 : (IsB q).P (ev z) w) :
  ∃ r w', (execOp ev o).run Tryz.prog w = .ok (.value r) w' ∧ Below w.heap.size w w' ∧ (StV [fNum rS [s], fB p, fB q]).P r w' := by
 have e2 := (of_isS h0).2
 obtain ⟨cs, e, hc⟩ := h0
 have h1' := h1
 have h2' := h2
 obtain ⟨A, n, k, e3, _⟩ := h1
 obtain ⟨B, m, j, e4, _⟩ := h2
 rw [e3] at h1'
 rw [e4] at h2'
 have ec : cs = [.int .u64 (lw s.val 0 : Nat), .int .u64 (lw s.val 1 : Nat), .int .u64 (lw s.val 2 : Nat), .int .u64 (lw s.val 3 : Nat)] := by
  rw [e2] at e; simpa using e.symm
 refine ⟨_, w, run_build3 ho (by rw [e2, e3, e4]; exact buildSigner _ _ _ _ A B n m k j w), Below.refl _ _, cs ++ ([.slice A n k] ++ ([.slice B m j] ++ [])), by rw [ec]; rfl, cs, [.slice A n k] ++ ([.slice B m j] ++ []), rfl, hc, _, _, rfl, ⟨_, rfl, h1'⟩, _, _, rfl, ⟨_, rfl, h2'⟩, rfl⟩
set_option maxHeartbeats 1000000 in
theorem gHash {w : World} {v : Value} {ls : List (List UInt8)} {l : List UInt8} (h : (IsR ls).P v w) (hl : ls.flatten = l) (hs : l.length ≤ 1000000) :
  Calls Tryz.prog 26 #[v] w fun e w' => ∃ r, e = .returned r ∧ IsFs rS r [wS (sha512 l)] ∧ Below w.heap.size w w' := by
 have HL := Lib.hid hl; have HS := Lib.hid hs
 clear hl hs
 go_enter Tryz.func26, Tryz.ntmps26
 have hbel : Below w.heap.size w w := Below.refl _ _
 have hbel0 := hbel
 go_upto_region 0 with fail
 refine rgT [(2, 0)] [.new 4] ?_ ?_
 ·intro hs
  refine ⟨?_, trivial⟩
  ·exact step_alloc hs Wn rfl rfl (by omega) rfl allocS
 intro L0 u0 W0 hall hJ hG
 obtain ⟨q2, e2, hq2, _, ht2⟩ := oN 4 hG 0
 have hq2 : w.heap.size ≤ q2 := by have := hbel0.size; omega
 have E2 := Lib.hid e2; clear e2
 have hb := hJ.all rfl
 have hbel := Below.call hbel hb
 have hbel0 := hbel
 clear hJ hG hall hb
 go_upto_region 1 with fail
 refine rgT [(3, 0), (0, 1), (0, 2)] [.wld (IsR ls) (some 1), .wld (IsB (sha512 l)) (some 2), .val rS [wS (sha512 l)], .sto q2 rS [wS (sha512 l)]] ?_ ?_
 ·intro hs
  refine ⟨?_, ?_, ?_, ?_, trivial⟩
  ·exact step_runP hs Wn rfl fun L u W hJ hG hL hdep => run_moveP (.inl rfl) ((IsR ls).st _ _ _ h (hbel.trans (hJ.below (by have := hbel.size; omega) (fun k b hf => by rcases k with _ | _ | _ | _ | k <;> first | (cases hf; done) | (cases hf; omega)))))
  ·refine step_callP hs Wn rfl fun L u W hJ hG hL hdep K hK => ?_
   go_simp
   go_at_call 19
   (with_reducible refine (gSum512 (l := l) (holds_wld (φ := IsR ls) (hG 0 (hdep 0 (by kernel_rfl))) rfl (till_some hL)) (HL.out) (HS.out)).mono ?_); rintro e w1 ⟨r, rfl, hr, hb⟩
   exact hK.out _ _ hr hb
  ·refine step_call hs Wn rfl fun L u W hJ hG hL hdep K hK => ?_
   go_simp
   go_at_call 20
   (with_reducible refine (gWide (holds_wld (φ := IsB (sha512 l)) (hG 1 (hdep 1 (by kernel_rfl))) rfl (till_some hL))).mono ?_); rintro e w1 ⟨r, rfl, hr, hb⟩
   exact hK.out _ _ hr hb
  ·refine step_storeO q2 4 hs Wn rfl rfl (by kernel_rfl) (fun k hk => ?_) (fun _ => E2.out) (there_lt ht2 (by omega)) ht2 (gO 2) tyS rfl
   rcases k with _ | _ | _ | _ | k
   all_goals first | (exact absurd rfl hk) | (intro e; cases e; done)
 intro L1 u1 W1 hall hJ hG
 have hb := hJ.beN hbel
 have hbel := hbel.trans hb
 obtain ⟨_, hs1_3t, hs1_3⟩ := oT 4 rS [wS (sha512 l)] hG 3
 have hbel0 := hbel
 clear hJ hG hall hb
 go_wp2
 exact ret_cell1 (R := rS) Tryz.results26 (by exact E2.out) hs1_3 tyS rfl (fun r hr => ⟨r, rfl, hr, hbel⟩)
set_option maxHeartbeats 1000000 in
theorem gNewSigner {w : World} {v : Value} {seed : List UInt8} (h : (IsB seed).P v w) (hl : seed.length = 32) :
  Calls Tryz.prog 9 #[v] w fun e w' => ∃ r, e = .returned (.tuple #[r, .int .i64 0]) ∧ (StP [fNum rS [edA seed], fB (edP seed), fB (edPub seed)]).P r w' ∧ Below w.heap.size w w' := by
 have HL := Lib.hid hl
 clear hl
 go_enter Tryz.func9, Tryz.ntmps9
 have hbel : Below w.heap.size w w := Below.refl _ _
 have hbel0 := hbel
 go_upto_region 0 with fail
 refine rgT [(2, 0), (0, 1)] [.oth (fun v => v = .pointer none), .oth (fun v => v = .int .i64 0)] ?_ ?_
 ·intro hs
  refine ⟨?_, ?_, trivial⟩
  ·exact mvK hs fun _ => rfl
  ·exact mvK hs fun _ => rfl
 intro L0 u0 W0 hall hJ hG
 have hb := hJ.all rfl
 have hbel := Below.call hbel hb
 have HC2 := oC (.pointer none) hG 0
 have HC3 := oC (.int .i64 0) hG 1
 have hbel0 := hbel
 clear hJ hG hall hb
 go_upto_region 1 with fail
 refine rgT [(6, 0), (0, 1), (0, 2)] [.wld (IsB seed) none, .oth (fun v => v = .int .i64 32), .oth (fun v => v = .bool false)] ?_ ?_
 ·intro hs
  refine ⟨?_, ?_, ?_, trivial⟩
  ·exact step_runP hs Wn rfl fun L u W hJ hG hL hdep => run_moveP (.inl rfl) ((IsB seed).st _ _ _ h (Below.call hbel (hJ.all rfl)))
  ·exact step_runO hs Wn rfl fun L u W hJ hG hL hdep => run_lenP rfl (hW (IsB seed) hG hdep 0) (by rw [HL.out]; rfl)
  ·refine step_pureO hs Wn rfl fun L u W hG hdep => ⟨_, ?_, rfl⟩
   have e0 := (oE (.int .i64 32) hG hdep 1)
   go_simp
   try simp [bne]
 intro L1 u1 W1 hall hJ hG
 have hb := hJ.all rfl
 have hbel := Below.call hbel hb
 have HC8 := oC (.bool false) hG 2
 have hbel0 := hbel
 clear hJ hG hall hb
 have hx : u1 2 = .bool false := HC8.out
 go_wp2_with fail
 rw [hx]
 clear hx
 go_upto_region 3 with fail
 refine rgT [(4, 3), (4, 0), (0, 1), (0, 2)] [.wld (IsB seed) none, .wld (IsR [seed]) none, .wld (IsB (sha512 seed)) none, .wld (IsB (sha512 seed)) none] ?_ ?_
 ·intro hs
  refine ⟨?_, ?_, ?_, ?_, trivial⟩
  ·exact step_runP hs Wn rfl fun L u W hJ hG hL hdep => run_moveP (.inl rfl) ((IsB seed).st _ _ _ h (Below.call hbel (hJ.all rfl)))
  ·exact step_runP hs Wn rfl fun L u W hJ hG hL hdep => run_rows1 rfl (hW (IsB seed) hG hdep 0)
  ·refine step_callP hs Wn rfl fun L u W hJ hG hL hdep K hK => ?_
   go_simp
   go_at_call 19
   (with_reducible refine (gSum512 (l := seed) (holds_wld (φ := IsR [seed]) (hG 1 (hdep 1 (by kernel_rfl))) rfl till_none) (by simp) (by rw [HL.out]; omega)).mono ?_); rintro e w1 ⟨r, rfl, hr, hb⟩
   exact hK.out _ _ hr hb
  ·exact step_runP hs Wn rfl fun L u W hJ hG hL hdep => run_moveP (.inr rfl) (hW (IsB (sha512 seed)) hG hdep 2)
 intro L3 u3 W3 hall hJ hG
 have hb := hJ.all rfl
 have hbel := Below.call hbel hb
 have hw4 := oW (IsB (sha512 seed)) hG 3
 have hbel0 := hbel
 clear hJ hG hall hb
 go_upto_region 4 with fail
 refine rgT [(5, 3), (6, 0), (0, 1), (0, 2)] [.wld (IsB (sha512 seed)) (some 1), .wld (IsB (clampB (sha512 seed))) (some 2), .val rS [wS (clampB (sha512 seed))], .new 4, .st 3 rS [wS (clampB (sha512 seed))]] ?_ ?_
 ·intro hs
  refine ⟨?_, ?_, ?_, ?_, ?_, trivial⟩
  ·exact step_runP hs Wn rfl fun L u W hJ hG hL hdep => run_moveP (.inl rfl) ((IsB (sha512 seed)).st _ _ _ hw4 (hJ.all rfl))
  ·refine step_callP hs Wn rfl fun L u W hJ hG hL hdep K hK => ?_
   go_simp
   go_at_call 21
   (with_reducible refine (gClamp (holds_wld (φ := IsB (sha512 seed)) (hG 0 (hdep 0 (by kernel_rfl))) rfl (till_some hL))).mono ?_); rintro e w1 ⟨r, rfl, hr, hb⟩
   exact hK.out _ _ hr hb
  ·refine step_call hs Wn rfl fun L u W hJ hG hL hdep K hK => ?_
   go_simp
   go_at_call 20
   (with_reducible refine (gWide (holds_wld (φ := IsB (clampB (sha512 seed))) (hG 1 (hdep 1 (by kernel_rfl))) rfl (till_some hL))).mono ?_); rintro e w1 ⟨r, rfl, hr, hb⟩
   exact hK.out _ _ hr hb
  ·exact step_alloc hs Wn rfl rfl (by omega) rfl allocS
  ·exact step_store 3 hs (by kernel_rfl) Wn rfl rfl rfl (by kernel_rfl) (by kernel_rfl) (by kernel_rfl) (by kernel_rfl) (fun _ => rfl) (gO 2) tyS rfl
 intro L4 u4 W4 hall hJ hG
 obtain ⟨q5, e5, hq5, _, ht5⟩ := oN 4 hG 3
 have hm5 := oS rS [wS (clampB (sha512 seed))] hG 4 e5
 have hq5 : w.heap.size ≤ q5 := by have := hbel0.size; omega
 have E5 := Lib.hid e5; clear e5
 have hb := hJ.all rfl
 have hbel := Below.call hbel hb
 have hw4 := (IsB (sha512 seed)).st _ _ _ hw4 hb
 have hbel0 := hbel
 clear hJ hG hall hb
 go_upto_region 5 with fail
 refine rgM [(2, 9), (0, 10), (11, 0), (0, 1), (0, 2), (0, 3), (0, 4), (0, 5), (0, 6), (0, 7), (0, 8)] [.val rS [wS (clampB (sha512 seed))], .wld (IsB (sha512 seed)) none, .wld (IsB ((sha512 seed).drop 32)) none, .val rP [base], .val rS [wS (clampB (sha512 seed))], .val rP [Cp.mul (wS (clampB (sha512 seed))).val base], .wld (IsB (encP (Cp.mul (wS (clampB (sha512 seed))).val base))) none, .wld (StV [fNum rS [wS (clampB (sha512 seed))], fB ((sha512 seed).drop 32), fB (encP (Cp.mul (wS (clampB (sha512 seed))).val base))]) none, .wld (StP [fNum rS [wS (clampB (sha512 seed))], fB ((sha512 seed).drop 32), fB (encP (Cp.mul (wS (clampB (sha512 seed))).val base))]) none, .wld (StP [fNum rS [wS (clampB (sha512 seed))], fB ((sha512 seed).drop 32), fB (encP (Cp.mul (wS (clampB (sha512 seed))).val base))]) none, .oth (fun v => v = .int .i64 0)] ?_ ?_
 ·intro hs
  refine ⟨?_, ?_, ?_, ?_, ?_, ?_, ?_, ?_, ?_, ?_, ?_, trivial⟩
  ·exact step_load q5 0 hs Wn rfl rfl tyS (fun _ => E5.out) hm5.lt hm5 Na
  ·exact step_runP hs Wn rfl fun L u W hJ hG hL hdep => run_moveP (.inl rfl) ((IsB (sha512 seed)).st _ _ _ hw4 (hJ.all rfl))
  ·exact step_runP hs Wn rfl fun L u W hJ hG hL hdep => run_fromP (k := 32) rfl rfl (hW (IsB (sha512 seed)) hG hdep 1) (by rw [sha512_len]; omega)
  ·refine step_call hs Wn rfl fun L u W hJ hG hL hdep K hK => ?_
   go_simp
   go_at_call 22
   (with_reducible refine (cBase _).mono ?_); rintro e w1 ⟨r, rfl, hr, hb⟩
   exact hK.out _ _ hr hb
  ·exact step_load q5 0 hs Wn rfl rfl tyS (fun _ => E5.out) hm5.lt hm5 Na
  ·refine step_call hs Wn rfl fun L u W hJ hG hL hdep K hK => ?_
   have a0 := (vE rP [base] hG hdep 3)
   have a1 := (vE rS [wS (clampB (sha512 seed))] hG hdep 4)
   go_simp
   go_at_call 23
   (with_reducible refine (cMult rfl a0 a1 _).mono ?_); rintro e w1 ⟨r, rfl, hr, hb⟩
   exact hK.out _ _ hr hb
  ·refine step_callP hs Wn rfl fun L u W hJ hG hL hdep K hK => ?_
   have a0 := (vE rP [Cp.mul (wS (clampB (sha512 seed))).val base] hG hdep 5)
   go_simp
   go_at_call 24
   (with_reducible refine (gEncode a0 _).mono ?_); rintro e w1 ⟨r, rfl, hr, hb⟩
   exact hK.out _ _ hr hb
  ·exact step_runP hs Wn rfl fun L u W hJ hG hL hdep => run_buildSigner rfl (vE rS [wS (clampB (sha512 seed))] hG hdep 0) (hW (IsB ((sha512 seed).drop 32)) hG hdep 2) (hW (IsB (encP (Cp.mul (wS (clampB (sha512 seed))).val base))) hG hdep 6)
  ·exact step_runP hs Wn rfl fun L u W hJ hG hL hdep => run_boxSt rfl (hW (StV [fNum rS [wS (clampB (sha512 seed))], fB ((sha512 seed).drop 32), fB (encP (Cp.mul (wS (clampB (sha512 seed))).val base))]) hG hdep 7)
  ·exact step_runP hs Wn rfl fun L u W hJ hG hL hdep => run_moveP (.inr rfl) (hW (StP [fNum rS [wS (clampB (sha512 seed))], fB ((sha512 seed).drop 32), fB (encP (Cp.mul (wS (clampB (sha512 seed))).val base))]) hG hdep 8)
  ·exact mvK hs fun _ => rfl
 intro L5 u5 W5 hall hJ hG
 have hb := hJ.all rfl
 have hbel := Below.call hbel hb
 have hw4 := (IsB (sha512 seed)).st _ _ _ hw4 hb
 have hw2 := oW (StP [fNum rS [wS (clampB (sha512 seed))], fB ((sha512 seed).drop 32), fB (encP (Cp.mul (wS (clampB (sha512 seed))).val base))]) hG 9
 have HC3 := oC (.int .i64 0) hG 10
 have hbel0 := hbel
 clear hJ hG hall hb
 go_wp2
 go_ret2
 exact ⟨_, by rw [HC3.out]; rfl, hw2, hbel⟩
set_option maxHeartbeats 400000 in
theorem newSigner_no {w : World} {v : Value} {seed : List UInt8} {N : Nat} (h : (IsB seed).P v w) (hl : seed.length = N) (hn : N ≠ 32) :
  Calls Tryz.prog 9 #[v] w fun e w' => e = .returned (.tuple #[.pointer none, .int .i64 1]) ∧ Below w.heap.size w w' := by
 have HL := Lib.hid hl
 have HN : Hid ((!((N : Int) == 32)) = true) := Lib.hid (by simp; omega)
 clear hl hn
 go_enter Tryz.func9, Tryz.ntmps9
 have hbel : Below w.heap.size w w := Below.refl _ _
 have hbel0 := hbel
 go_upto_region 0 with fail
 refine rgT [(2, 0), (0, 1)] [.oth (fun v => v = .pointer none), .oth (fun v => v = .int .i64 0)] ?_ ?_
 ·intro hs
  refine ⟨?_, ?_, trivial⟩
  ·exact mvK hs fun _ => rfl
  ·exact mvK hs fun _ => rfl
 intro L0 u0 W0 hall hJ hG
 have hb := hJ.all rfl
 have hbel := Below.call hbel hb
 have HC2 := oC (.pointer none) hG 0
 have HC3 := oC (.int .i64 0) hG 1
 have hbel0 := hbel
 clear hJ hG hall hb
 go_upto_region 1 with fail
 refine rgT [(6, 0), (0, 1), (0, 2)] [.wld (IsB seed) none, .oth (fun v => v = .int .i64 (N : Int)), .oth (fun v => v = .bool true)] ?_ ?_
 ·intro hs
  refine ⟨?_, ?_, ?_, trivial⟩
  ·exact step_runP hs Wn rfl fun L u W hJ hG hL hdep => run_moveP (.inl rfl) ((IsB seed).st _ _ _ h (Below.call hbel (hJ.all rfl)))
  ·exact step_runO hs Wn rfl fun L u W hJ hG hL hdep => run_lenP rfl (hW (IsB seed) hG hdep 0) (by rw [HL.out])
  ·refine step_pureO hs Wn rfl fun L u W hG hdep => ⟨_, ?_, rfl⟩
   have e0 := (oE (.int .i64 (N : Int)) hG hdep 1)
   have e9 := HN.out
   go_simp
   try exact e9
   try simpa using e9
 intro L1 u1 W1 hall hJ hG
 have hb := hJ.all rfl
 have hbel := Below.call hbel hb
 have HC8 := oC (.bool true) hG 2
 have hbel0 := hbel
 clear hJ hG hall hb
 have hx : u1 2 = .bool true := HC8.out
 go_wp2_with fail
 rw [hx]
 clear hx
 go_upto_region 2 with fail
 refine rgT [(2, 0), (0, 1)] [.oth (fun v => v = .pointer none), .oth (fun v => v = .int .i64 1)] ?_ ?_
 ·intro hs
  refine ⟨?_, ?_, trivial⟩
  ·exact mvK hs fun _ => rfl
  ·exact mvK hs fun _ => rfl
 intro L2 u2 W2 hall hJ hG
 have hb := hJ.all rfl
 have hbel := Below.call hbel hb
 have HC2 := oC (.pointer none) hG 0
 have HC3 := oC (.int .i64 1) hG 1
 have hbel0 := hbel
 clear hJ hG hall hb
 go_wp2
 go_ret2
 exact ⟨by rw [HC2.out, HC3.out]; rfl, hbel⟩
set_option maxHeartbeats 1000000 in
theorem gSPublic {w : World} {v : Value} {s : F} {p q : List UInt8} (h : (StP [fNum rS [s], fB p, fB q]).P v w) (hq : q.length ≤ 1000000) :
  Calls Tryz.prog 11 #[v] w fun e w' => ∃ r, e = .returned r ∧ (IsB q).P r w' ∧ Below w.heap.size w w' := by
 have HQ := Lib.hid hq
 clear hq
 go_enter Tryz.func11, Tryz.ntmps11
 have hbel : Below w.heap.size w w := Below.refl _ _
 have hbel0 := hbel
 go_upto_region 0 with fail
 refine rgT [(2, 0)] [.wld (IsB []) none] ?_ ?_
 ·intro hs
  refine ⟨?_, trivial⟩
  ·exact step_runP hs Wn rfl fun L u W hJ hG hL hdep => run_moveP (.inr rfl) (IsB.nil W)
 intro L0 u0 W0 hall hJ hG
 have hb := hJ.all rfl
 have hbel := Below.call hbel hb
 have hw2 := oW (IsB []) hG 0
 have hbel0 := hbel
 clear hJ hG hall hb
 go_upto_region 1 with fail
 refine rgT [(3, 0), (0, 1)] [.wld (StP [fNum rS [s], fB p, fB q]) none, .oth (fun v => v = .bool false)] ?_ ?_
 ·intro hs
  refine ⟨?_, ?_, trivial⟩
  ·exact step_runP hs Wn rfl fun L u W hJ hG hL hdep => run_moveP (.inl rfl) ((StP [fNum rS [s], fB p, fB q]).st _ _ _ h (Below.call hbel (hJ.all rfl)))
  ·exact step_runO hs Wn rfl fun L u W hJ hG hL hdep => run_eqlNil Tryz.underlying30 rfl rfl (hW (StP [fNum rS [s], fB p, fB q]) hG hdep 0)
 intro L1 u1 W1 hall hJ hG
 have hb := hJ.all rfl
 have hbel := Below.call hbel hb
 have hw2 := (IsB []).st _ _ _ hw2 hb
 have HC4 := oC (.bool false) hG 1
 have hbel0 := hbel
 clear hJ hG hall hb
 have hx : u1 1 = .bool false := HC4.out
 go_wp2_with fail
 rw [hx]
 clear hx
 go_upto_region 3 with fail
 refine rgT [(2, 5), (2, 0), (0, 1), (0, 2), (0, 3), (0, 4)] [.wld (StP [fNum rS [s], fB p, fB q]) none, .wld (StP [fNum rS [s], fB p, fB q]) none, .wld (StA [fNum rS [s], fB p, fB q] 5) none, .wld (IsB q) none, .wld (IsB q) none, .wld (IsB q) none] ?_ ?_
 ·intro hs
  refine ⟨?_, ?_, ?_, ?_, ?_, ?_, trivial⟩
  ·exact step_runP hs Wn rfl fun L u W hJ hG hL hdep => run_moveP (.inl rfl) ((StP [fNum rS [s], fB p, fB q]).st _ _ _ h (Below.call hbel (hJ.all rfl)))
  ·exact step_runP hs Wn rfl fun L u W hJ hG hL hdep => run_nilchk rfl (hW (StP [fNum rS [s], fB p, fB q]) hG hdep 0)
  ·exact step_runP hs Wn rfl fun L u W hJ hG hL hdep => run_fieldSt rfl (hW (StP [fNum rS [s], fB p, fB q]) hG hdep 1) field_Signer2
  ·exact step_runP hs Wn rfl fun L u W hJ hG hL hdep => run_loadWp 2 rfl (hW (StA [fNum rS [s], fB p, fB q] 5) hG hdep 2) rfl rfl load_bytes
  ·refine step_callP hs Wn rfl fun L u W hJ hG hL hdep K hK => ?_
   go_simp
   go_at_call 30
   (with_reducible refine (gClone (holds_wld (φ := IsB q) (hG 3 (hdep 3 (by kernel_rfl))) rfl till_none) (HQ.out)).mono ?_); rintro e w1 ⟨r, rfl, hr, hb⟩
   exact hK.out _ _ hr hb
  ·exact step_runP hs Wn rfl fun L u W hJ hG hL hdep => run_moveP (.inr rfl) (hW (IsB q) hG hdep 4)
 intro L3 u3 W3 hall hJ hG
 have hb := hJ.all rfl
 have hbel := Below.call hbel hb
 have hw2 := (IsB []).st _ _ _ hw2 hb
 have hw2 := oW (IsB q) hG 5
 have hbel0 := hbel
 clear hJ hG hall hb
 go_wp2
 go_ret
 exact ⟨_, rfl, hw2, hbel⟩
set_option maxHeartbeats 400000 in
theorem sSign_nil {v : Value} (w : World) : Calls Tryz.prog 10 #[.pointer none, v] w fun e w' => e = .returned (.slice none 0 0) ∧ Below w.heap.size w w' := by
 go_enter Tryz.func10, Tryz.ntmps10
 go_wp2
 go_ret
 exact ⟨rfl, belowBy⟩
theorem gNewSigner' {v : Value} {seed : List UInt8} {w : World} (h : (IsB seed).P v w) (hl : seed.length = 32) :
  Calls Tryz.prog 9 #[v] w fun e w' => ∃ r, e = .returned r ∧ (TwV (StP [fNum rS [edA seed], fB (edP seed), fB (edPub seed)]) (.int .i64 0)).P r w' ∧ Below w.heap.size w w' :=
 (gNewSigner h hl).mono fun _ _ ⟨r, he, hr, hb⟩ => ⟨_, he, ⟨r, rfl, hr⟩, hb⟩
set_option maxHeartbeats 1000000 in
theorem gPublic {w : World} {v : Value} {seed : List UInt8} (h : (IsB seed).P v w) (hl : seed.length = 32) :
  Calls Tryz.prog 7 #[v] w fun e w' => ∃ r, e = .returned (.tuple #[r, .int .i64 0]) ∧ (IsB (edPub seed)).P r w' ∧ Below w.heap.size w w' := by
 have HL := Lib.hid hl
 clear hl
 go_enter Tryz.func7, Tryz.ntmps7
 have hbel : Below w.heap.size w w := Below.refl _ _
 have hbel0 := hbel
 go_upto_region 0 with fail
 refine rgT [(2, 0), (0, 1)] [.wld (IsB []) none, .oth (fun v => v = .int .i64 0)] ?_ ?_
 ·intro hs
  refine ⟨?_, ?_, trivial⟩
  ·exact step_runP hs Wn rfl fun L u W hJ hG hL hdep => run_moveP (.inr rfl) (IsB.nil W)
  ·exact mvK hs fun _ => rfl
 intro L0 u0 W0 hall hJ hG
 have hb := hJ.all rfl
 have hbel := Below.call hbel hb
 have hw2 := oW (IsB []) hG 0
 have HC3 := oC (.int .i64 0) hG 1
 have hbel0 := hbel
 clear hJ hG hall hb
 go_upto_region 1 with fail
 refine rgT [(4, 5), (0, 6), (0, 2), (0, 0), (0, 1), (0, 3), (0, 4)] [.wld (IsB seed) none, .wld (TwV (StP [fNum rS [edA seed], fB (edP seed), fB (edPub seed)]) (.int .i64 0)) none, .wld (TwV (StP [fNum rS [edA seed], fB (edP seed), fB (edPub seed)]) (.int .i64 0)) none, .wld (StP [fNum rS [edA seed], fB (edP seed), fB (edPub seed)]) none, .oth (fun v => v = .int .i64 0), .wld (StP [fNum rS [edA seed], fB (edP seed), fB (edPub seed)]) none, .oth (fun v => v = .int .i64 0)] ?_ ?_
 ·intro hs
  refine ⟨?_, ?_, ?_, ?_, ?_, ?_, ?_, trivial⟩
  ·exact step_runP hs Wn rfl fun L u W hJ hG hL hdep => run_moveP (.inl rfl) ((IsB seed).st _ _ _ h (Below.call hbel (hJ.all rfl)))
  ·refine step_callP hs Wn rfl fun L u W hJ hG hL hdep K hK => ?_
   go_simp
   go_at_call 9
   (with_reducible refine (gNewSigner' (holds_wld (φ := IsB seed) (hG 0 (hdep 0 (by kernel_rfl))) rfl till_none) HL.out).mono ?_); rintro e w1 ⟨r, rfl, hr, hb⟩
   exact hK.out _ _ hr hb
  ·exact step_runP hs Wn rfl fun L u W hJ hG hL hdep => run_moveP (.inl rfl) (hW (TwV (StP [fNum rS [edA seed], fB (edP seed), fB (edPub seed)]) (.int .i64 0)) hG hdep 1)
  ·exact step_runP hs Wn rfl fun L u W hJ hG hL hdep => run_tw0 rfl (hW (TwV (StP [fNum rS [edA seed], fB (edP seed), fB (edPub seed)]) (.int .i64 0)) hG hdep 2)
  ·exact step_runO hs Wn rfl fun L u W hJ hG hL hdep => run_tw1 rfl (hW (TwV (StP [fNum rS [edA seed], fB (edP seed), fB (edPub seed)]) (.int .i64 0)) hG hdep 2)
  ·exact step_runP hs Wn rfl fun L u W hJ hG hL hdep => run_moveP (.inr rfl) (hW (StP [fNum rS [edA seed], fB (edP seed), fB (edPub seed)]) hG hdep 3)
  ·exact mvO 4 hs
 intro L1 u1 W1 hall hJ hG
 have hb := hJ.all rfl
 have hbel := Below.call hbel hb
 have hw2 := (IsB []).st _ _ _ hw2 hb
 have hw4 := oW (StP [fNum rS [edA seed], fB (edP seed), fB (edPub seed)]) hG 5
 have HC5 := oC (.int .i64 0) hG 6
 have hbel0 := hbel
 clear hJ hG hall hb
 go_upto_region 2 with fail
 refine rgT [(2, 3), (0, 4), (7, 0), (0, 1), (0, 2)] [.wld (StP [fNum rS [edA seed], fB (edP seed), fB (edPub seed)]) none, .wld (IsB (edPub seed)) none, .oth (fun v => v = .int .i64 0), .wld (IsB (edPub seed)) none, .oth (fun v => v = .int .i64 0)] ?_ ?_
 ·intro hs
  refine ⟨?_, ?_, ?_, ?_, ?_, trivial⟩
  ·exact step_runP hs Wn rfl fun L u W hJ hG hL hdep => run_moveP (.inl rfl) ((StP [fNum rS [edA seed], fB (edP seed), fB (edPub seed)]).st _ _ _ hw4 (hJ.all rfl))
  ·refine step_callP hs Wn rfl fun L u W hJ hG hL hdep K hK => ?_
   go_simp
   go_at_call 11
   (with_reducible refine (gSPublic (s := edA seed) (p := edP seed) (q := edPub seed) (holds_wld (φ := StP [fNum rS [edA seed], fB (edP seed), fB (edPub seed)]) (hG 0 (hdep 0 (by kernel_rfl))) rfl till_none) (by rw [edPub_len]; omega)).mono ?_); rintro e w1 ⟨r, rfl, hr, hb⟩
   exact hK.out _ _ hr hb
  ·exact mvK hs fun _ => HC5.out
  ·exact step_runP hs Wn rfl fun L u W hJ hG hL hdep => run_moveP (.inr rfl) (hW (IsB (edPub seed)) hG hdep 1)
  ·exact mvO 2 hs
 intro L2 u2 W2 hall hJ hG
 have hb := hJ.all rfl
 have hbel := Below.call hbel hb
 have hw2 := (IsB []).st _ _ _ hw2 hb
 have hw4 := (StP [fNum rS [edA seed], fB (edP seed), fB (edPub seed)]).st _ _ _ hw4 hb
 have hw2 := oW (IsB (edPub seed)) hG 3
 have HC3 := oC (.int .i64 0) hG 4
 have hbel0 := hbel
 clear hJ hG hall hb
 go_wp2
 go_ret2
 exact ⟨_, by rw [HC3.out]; rfl, hw2, hbel⟩
set_option maxHeartbeats 1000000 in
theorem gSign_no {w : World} {v v1 : Value} {ls : List (List UInt8)} {l : List UInt8} {seed : List UInt8} {N : Nat} (h : (IsB seed).P v w) (h1 : (IsR ls).P v1 w) (hls : ls.flatten = l) (hs : l.length ≤ 100000) (hl : seed.length = N) (hn : N ≠ 32) :
  Calls Tryz.prog 8 #[v, v1] w fun e w' => e = .returned (.tuple #[.slice none 0 0, .int .i64 1]) ∧ Below w.heap.size w w' := by
 have HL := Lib.hid hl
 have HN := Lib.hid hn
 clear hn
 have HLS := Lib.hid hls; have HS := Lib.hid hs
 clear hls hs
 clear hl
 go_enter Tryz.func8, Tryz.ntmps8
 have hbel : Below w.heap.size w w := Below.refl _ _
 have hbel0 := hbel
 go_upto_region 0 with fail
 refine rgT [(4, 0), (0, 1)] [.wld (IsB []) none, .oth (fun v => v = .int .i64 0)] ?_ ?_
 ·intro hs
  refine ⟨?_, ?_, trivial⟩
  ·exact step_runP hs Wn rfl fun L u W hJ hG hL hdep => run_moveP (.inr rfl) (IsB.nil W)
  ·exact mvK hs fun _ => rfl
 intro L0 u0 W0 hall hJ hG
 have hb := hJ.all rfl
 have hbel := Below.call hbel hb
 have hw4 := oW (IsB []) hG 0
 have HC5 := oC (.int .i64 0) hG 1
 have hbel0 := hbel
 clear hJ hG hall hb
 go_upto_region 1 with fail
 refine rgT [(6, 5), (0, 6), (0, 2), (0, 0), (0, 1), (0, 3), (0, 4)] [.wld (IsB seed) none, .oth (fun v => v = .tuple #[.pointer none, .int .i64 1]), .oth (fun v => v = .tuple #[.pointer none, .int .i64 1]), .oth (fun v => v = .pointer none), .oth (fun v => v = .int .i64 1), .oth (fun v => v = .pointer none), .oth (fun v => v = .int .i64 1)] ?_ ?_
 ·intro hs
  refine ⟨?_, ?_, ?_, ?_, ?_, ?_, ?_, trivial⟩
  ·exact step_runP hs Wn rfl fun L u W hJ hG hL hdep => run_moveP (.inl rfl) ((IsB seed).st _ _ _ h (Below.call hbel (hJ.all rfl)))
  ·refine step_callO hs Wn rfl fun L u W hJ hG hL hdep K hK => ?_
   go_simp
   go_at_call 9
   (with_reducible refine (newSigner_no (holds_wld (φ := IsB seed) (hG 0 (hdep 0 (by kernel_rfl))) rfl till_none) HL.out HN.out).mono ?_); rintro e w1 ⟨rfl, hb⟩
   exact hK.out _ _ rfl hb
  ·exact mvO 1 hs
  ·refine step_pureO hs Wn rfl fun L u W hG hdep => ⟨_, ?_, rfl⟩
   have e0 := (oE (.tuple #[.pointer none, .int .i64 1]) hG hdep 2)
   unfold execOp
   go_simp
  ·refine step_pureO hs Wn rfl fun L u W hG hdep => ⟨_, ?_, rfl⟩
   have e0 := (oE (.tuple #[.pointer none, .int .i64 1]) hG hdep 2)
   unfold execOp
   go_simp
  ·exact mvO 3 hs
  ·exact mvO 4 hs
 intro L1 u1 W1 hall hJ hG
 have hb := hJ.all rfl
 have hbel := Below.call hbel hb
 have hw4 := (IsB []).st _ _ _ hw4 hb
 have HC6 := oC (.pointer none) hG 5
 have HC7 := oC (.int .i64 1) hG 6
 have hbel0 := hbel
 clear hJ hG hall hb
 go_upto_region 2 with fail
 refine rgT [(4, 4), (0, 5), (7, 0), (0, 1), (0, 2), (0, 3)] [.oth (fun v => v = .pointer none), .wld (IsR ls) none, .oth (fun v => v = .slice none 0 0), .oth (fun v => v = .int .i64 1), .oth (fun v => v = .slice none 0 0), .oth (fun v => v = .int .i64 1)] ?_ ?_
 ·intro hs
  refine ⟨?_, ?_, ?_, ?_, ?_, ?_, trivial⟩
  ·exact mvK hs fun _ => HC6.out
  ·exact step_runP hs Wn rfl fun L u W hJ hG hL hdep => run_moveP (.inl rfl) ((IsR ls).st _ _ _ h1 (Below.call hbel (hJ.all rfl)))
  ·refine step_callO hs Wn rfl fun L u W hJ hG hL hdep K hK => ?_
   have x0 := (oE (.pointer none) hG hdep 0)
   go_simp
   go_at_call 10
   (with_reducible refine (sSign_nil _).mono ?_); rintro e w1 ⟨rfl, hb⟩
   have hk := hK.out _ _ rfl hb
   simp only [x0] at hk
   exact hk
  ·exact mvK hs fun _ => HC7.out
  ·exact mvO 2 hs
  ·exact mvO 3 hs
 intro L2 u2 W2 hall hJ hG
 have hb := hJ.all rfl
 have hbel := Below.call hbel hb
 have hw4 := (IsB []).st _ _ _ hw4 hb
 have HC4 := oC (.slice none 0 0) hG 4
 have HC5 := oC (.int .i64 1) hG 5
 have hbel0 := hbel
 clear hJ hG hall hb
 go_wp2
 go_ret2
 exact ⟨by rw [HC4.out, HC5.out]; rfl, hbel⟩
end Go.Proofs.YtielgpefoameiaaGreat
