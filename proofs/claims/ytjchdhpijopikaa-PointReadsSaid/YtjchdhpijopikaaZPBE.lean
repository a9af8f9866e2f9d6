/- What PB rests on, part 5 of 6: my own texts, put together (merge.py). -/
import Derived.Test.YtjchdhpijopikaaRows
import Derived.WalkKit
import Derived.ProofKit
import Derived.Lib.Hide
import Derived.OpenShut
import Derived.WalkSpells
import Derived.StillTactics
import Derived.Laws.Pointers
import Derived.Laws.CopyOwn
import Derived.Laws.AppendOwnNone
import Derived.Deep.RegionHeld3
import Derived.RowKit3
import Derived.BigQuiet
import Derived.Deep.QuietTactic
import Derived.Deep.LoopGhost
import Derived.Deep.DeepFit
import Derived.WalkLawsBesides
import Derived.Shelf.Spec.BitsCarry
import Derived.Deep.MidRow
import Derived.Laws.IdiomStrings
import Derived.Deep.DeepCutAuto
import Derived.Deep.WholeRow
import Derived.Laws.Rows
import Derived.Lib.AppendZerosOnto
import Derived.Lib.SliceRun
import Derived.Deep.AppendLies
import Derived.ShutString
import Derived.ChangeOld
import Derived.Test.YtjchdhpijopikaaZPBD
namespace Go.Proofs.Ytjchdhpijopikaa
open Go Go.RowKit
theorem sc_256 {x : F} (h : x.val < Lq) : x.val / 2 ^ 256 = 0 := Nat.div_eq_of_lt (Nat.lt_trans h (by decide +kernel))
theorem mul_eight (P : EP) : Cp.mul 8 P = (Cp.add (Cp.add (Cp.add P P) (Cp.add P P)) (Cp.add (Cp.add P P) (Cp.add P P))) := by
  have h2 := mul_two' P
  rw [← h2, ← Cp.mul_add, ← Cp.mul_add]
set_option maxRecDepth 100000 in
set_option maxHeartbeats 4000000 in
theorem kZero  (w : World) :
    Calls Try.prog 48 #[] w fun e w' => ∃ r, e = .returned r ∧ IsFs rQ r [Cp.zero] ∧ Below w.heap.size w w' := by
  go_enter Try.func48, Try.ntmps48
  have hbel : Below w.heap.size w w := Below.refl _ _
  have hbel0 := hbel
  go_upto_region 0 with fail
  refine wp_region_turn (fun u => #[u 0, undef, undef, undef]) (Holds [.new 48] w) (Keep [.new 48] w) (fun _ => undef) ?_ (by rfl) Keep.start (holds_soft (by kernel_rfl)) ?_ ?_
  · intro u i v h
    rcases i with _ | i
    all_goals first | (simp [Act.put, putV]; done) | (exfalso; simp at h; omega)
  · intro hs
    refine ⟨?_, trivial⟩
    · exact step_alloc hs (wants_none rfl) rfl rfl (by omega) rfl allocPt
  intro L0 u0 W0 hall hJ hG
  obtain ⟨q0, e0, hq0, _, ht0⟩ := (show ∃ g, u0 0 = .pointer (some ⟨g, 0, none⟩) ∧ w.heap.size ≤ g ∧ 0 < 48 ∧ W0.there g 0 48 from hG 0 (by simp))
  have hq0 : w.heap.size ≤ q0 := by have := hbel0.size; omega
  have E0 := Lib.hid e0; clear e0
  have hb := hJ.all rfl
  have hbel := Below.call hbel hb
  have hbel0 := hbel
  clear hJ hG hall hb
  go_upto_region 1 with fail
  refine wp_region_turn (fun u => #[u0 0, u 0, u 1, u 2]) (Holds [.val rR [fn 1], .val rR [fn 1], .val rR [0, fn 1, fn 1], .sto q0 rR [0, fn 1, fn 1]] W0) (Keep [.val rR [fn 1], .val rR [fn 1], .val rR [0, fn 1, fn 1], .sto q0 rR [0, fn 1, fn 1]] W0) (fun _ => undef) ?_ (by rfl) Keep.start (holds_soft (by kernel_rfl)) ?_ ?_
  · intro u i v h
    rcases i with _ | _ | _ | _ | i
    all_goals first | (simp [Act.put, putV]; done) | (exfalso; simp at h; omega)
  · intro hs
    refine ⟨?_, ?_, ?_, ?_, trivial⟩
    · refine step_call hs (wants_none rfl) rfl fun L u W hJ hG hL hdep K hK => ?_
      go_simp
      go_at_call 52
      (with_reducible refine (kSmallI (n := 1) (z := 1) rfl (by omega) _).mono ?_); rintro e w1 ⟨r, rfl, hr, hb⟩
      have hk := hK.out _ _ hr hb
      exact hk
    · refine step_call hs (wants_none rfl) rfl fun L u W hJ hG hL hdep K hK => ?_
      go_simp
      go_at_call 52
      (with_reducible refine (kSmallI (n := 1) (z := 1) rfl (by omega) _).mono ?_); rintro e w1 ⟨r, rfl, hr, hb⟩
      have hk := hK.out _ _ hr hb
      exact hk
    · refine step_pure hs (wants_none rfl) rfl fun L u W hG hdep => ?_
      have a0 := (show IsFs rR (u 0) [fn 1] from hG 0 (hdep 0 (by kernel_rfl)))
      have a1 := (show IsFs rR (u 1) [fn 1] from hG 1 (hdep 1 (by kernel_rfl)))
      obtain ⟨r, hr, hx⟩ := build_Pt12 a0 a1 W
      exact ⟨r, run_build12 rfl hr, hx⟩
    · refine step_storeO q0 48 hs (wants_none rfl) rfl rfl (by kernel_rfl) (fun k hk => ?_) (fun _ => E0.out) (there_lt ht0 (by omega)) ht0 (gives_op 2 rfl (by kernel_rfl) (fun _ => rfl)) tyPt3 rfl
      rcases k with _ | _ | _ | _ | k
      all_goals first | (exact absurd rfl hk) | (intro e; cases e; done)
  intro L1 u1 W1 hall hJ hG
  have hb : Below w.heap.size W0 W1 := hJ.below (by have := hbel.size; omega) (fun k b hf => by rcases k with _ | _ | _ | _ | k <;> first | (cases hf; done) | (cases hf; omega))
  have hbel := hbel.trans hb
  obtain ⟨_, hs1_3t, hs1_3⟩ := (show _ ∧ W1.there q0 0 48 ∧ HasFs rR W1 q0 0 [0, fn 1, fn 1] from hG 3 (by simp))
  have hbel0 := hbel
  clear hJ hG hall hb
  go_wp2
  exact ret_cell1 (R := rR) Try.results48 (by exact E0.out) hs1_3 tyPt3 rfl (fun r hr => ⟨r, rfl, isQ hr Prep.zero, hbel⟩)
set_option maxRecDepth 100000 in
set_option maxHeartbeats 4000000 in
theorem q_d_any  (w : World) :
    Calls Try.prog 53 #[] w fun e w' => ∃ r, e = .returned r ∧ IsFs rR r [-fn 121665 * finv (fn 121666)] ∧ Below w.heap.size w w' := by
  go_enter Try.func53, Try.ntmps53
  have hbel : Below w.heap.size w w := Below.refl _ _
  have hbel0 := hbel
  go_upto_region 0 with fail
  refine wp_region_turn (fun u => #[u 0, undef, undef, undef, undef, undef]) (Holds [.new 16] w) (Keep [.new 16] w) (fun _ => undef) ?_ (by rfl) Keep.start (holds_soft (by kernel_rfl)) ?_ ?_
  · intro u i v h
    rcases i with _ | i
    all_goals first | (simp [Act.put, putV]; done) | (exfalso; simp at h; omega)
  · intro hs
    refine ⟨?_, trivial⟩
    · exact step_alloc hs (wants_none rfl) rfl rfl (by omega) rfl allocFe
  intro L0 u0 W0 hall hJ hG
  obtain ⟨q0, e0, hq0, _, ht0⟩ := (show ∃ g, u0 0 = .pointer (some ⟨g, 0, none⟩) ∧ w.heap.size ≤ g ∧ 0 < 16 ∧ W0.there g 0 16 from hG 0 (by simp))
  have hq0 : w.heap.size ≤ q0 := by have := hbel0.size; omega
  have E0 := Lib.hid e0; clear e0
  have hb := hJ.all rfl
  have hbel := Below.call hbel hb
  have hbel0 := hbel
  clear hJ hG hall hb
  go_upto_region 1 with fail
  refine wp_region_turn (fun u => #[u0 0, u 0, u 1, u 2, u 3, u 4]) (Holds [.val rR [fn 121665], .val rR [-(fn 121665)], .val rR [fn 121666], .val rR [finv (fn 121666)], .val rR [(-(fn 121665)) * (finv (fn 121666))], .sto q0 rR [(-(fn 121665)) * (finv (fn 121666))]] W0) (Keep [.val rR [fn 121665], .val rR [-(fn 121665)], .val rR [fn 121666], .val rR [finv (fn 121666)], .val rR [(-(fn 121665)) * (finv (fn 121666))], .sto q0 rR [(-(fn 121665)) * (finv (fn 121666))]] W0) (fun _ => undef) ?_ (by rfl) Keep.start (holds_soft (by kernel_rfl)) ?_ ?_
  · intro u i v h
    rcases i with _ | _ | _ | _ | _ | _ | i
    all_goals first | (simp [Act.put, putV]; done) | (exfalso; simp at h; omega)
  · intro hs
    refine ⟨?_, ?_, ?_, ?_, ?_, ?_, trivial⟩
    · refine step_call hs (wants_none rfl) rfl fun L u W hJ hG hL hdep K hK => ?_
      go_simp
      go_at_call 52
      (with_reducible refine (kSmallI (n := 121665) (z := 121665) rfl (by omega) _).mono ?_); rintro e w1 ⟨r, rfl, hr, hb⟩
      have hk := hK.out _ _ hr hb
      exact hk
    · refine step_call hs (wants_none rfl) rfl fun L u W hJ hG hL hdep K hK => ?_
      have a0 := (show IsFs rR (u 0) [fn 121665] from hG 0 (hdep 0 (by kernel_rfl)))
      go_simp
      go_at_call 57
      (with_reducible refine (kNeg a0 _).mono ?_); rintro e w1 ⟨r, rfl, hr, hb⟩
      have hk := hK.out _ _ hr hb
      exact hk
    · refine step_call hs (wants_none rfl) rfl fun L u W hJ hG hL hdep K hK => ?_
      go_simp
      go_at_call 52
      (with_reducible refine (kSmallI (n := 121666) (z := 121666) rfl (by omega) _).mono ?_); rintro e w1 ⟨r, rfl, hr, hb⟩
      have hk := hK.out _ _ hr hb
      exact hk
    · refine step_call hs (wants_none rfl) rfl fun L u W hJ hG hL hdep K hK => ?_
      have a0 := (show IsFs rR (u 2) [fn 121666] from hG 2 (hdep 2 (by kernel_rfl)))
      go_simp
      go_at_call 55
      (with_reducible refine (kInv a0 _).mono ?_); rintro e w1 ⟨r, rfl, hr, hb⟩
      have hk := hK.out _ _ hr hb
      exact hk
    · refine step_call hs (wants_none rfl) rfl fun L u W hJ hG hL hdep K hK => ?_
      have a0 := (show IsFs rR (u 1) [-(fn 121665)] from hG 1 (hdep 1 (by kernel_rfl)))
      have a1 := (show IsFs rR (u 3) [finv (fn 121666)] from hG 3 (hdep 3 (by kernel_rfl)))
      go_simp
      go_at_call 50
      (with_reducible refine (kMul a0 a1 _).mono ?_); rintro e w1 ⟨r, rfl, hr, hb⟩
      have hk := hK.out _ _ hr hb
      exact hk
    · refine step_storeO q0 16 hs (wants_none rfl) rfl rfl (by kernel_rfl) (fun k hk => ?_) (fun _ => E0.out) (there_lt ht0 (by omega)) ht0 (gives_op 4 rfl (by kernel_rfl) (fun _ => rfl)) tyFe rfl
      rcases k with _ | _ | _ | _ | _ | _ | k
      all_goals first | (exact absurd rfl hk) | (intro e; cases e; done)
  intro L1 u1 W1 hall hJ hG
  have hb : Below w.heap.size W0 W1 := hJ.below (by have := hbel.size; omega) (fun k b hf => by rcases k with _ | _ | _ | _ | _ | _ | k <;> first | (cases hf; done) | (cases hf; omega))
  have hbel := hbel.trans hb
  obtain ⟨_, hs1_5t, hs1_5⟩ := (show _ ∧ W1.there q0 0 16 ∧ HasFs rR W1 q0 0 [(-(fn 121665)) * (finv (fn 121666))] from hG 5 (by simp))
  have hbel0 := hbel
  clear hJ hG hall hb
  go_wp2
  exact ret_cell1 (R := rR) Try.results53 (by exact E0.out) hs1_5 tyFe rfl (fun r hr => ⟨r, rfl, hr, hbel⟩)
theorem kCurve (w : World) : Calls Try.prog 53 #[] w fun e w' => ∃ r, e = .returned r ∧ IsFs rR r [dE] ∧ Below w.heap.size w w' := by
  have h := q_d_any w
  rw [d_is] at h
  exact h
set_option maxRecDepth 100000 in
set_option maxHeartbeats 4000000 in
theorem q_add_any {v0 v1 v2 : Value} {X Y Z X' Y' Z' D : F} (h0 : IsFs rR v0 [X, Y, Z]) (h1 : IsFs rR v1 [X', Y', Z']) (h2 : IsFs rR v2 [D]) (w : World) :
    Calls Try.prog 62 #[v0, v1, v2] w fun e w' => ∃ r, e = .returned r ∧ IsFs rR r [((Z * Z') * (((Z * Z') * (Z * Z')) - (D * ((X * X') * (Y * Y'))))) * ((X * Y') + (X' * Y)), ((Z * Z') * (((Z * Z') * (Z * Z')) + (D * ((X * X') * (Y * Y'))))) * ((Y * Y') + (X * X')), (((Z * Z') * (Z * Z')) - (D * ((X * X') * (Y * Y')))) * (((Z * Z') * (Z * Z')) + (D * ((X * X') * (Y * Y'))))] ∧ Below w.heap.size w w' := by
  go_enter Try.func62, Try.ntmps62
  have hbel : Below w.heap.size w w := Below.refl _ _
  have hbel0 := hbel
  go_upto_region 0 with fail
  refine wp_region_turn (fun u => (v0 :: v1 :: v2 :: u 0 :: u 1 :: u 2 :: u 3 :: undef :: undef :: undef :: undef :: undef :: undef :: undef :: undef :: undef :: undef :: undef :: undef :: undef :: undef :: undef :: undef :: undef :: undef :: undef :: undef :: undef :: undef :: undef :: undef :: undef :: undef :: undef :: undef :: undef :: undef :: undef :: undef :: undef :: undef :: undef :: undef :: undef :: undef :: undef :: undef :: undef :: undef :: undef :: undef :: undef :: undef :: undef :: undef :: undef :: undef :: undef :: undef :: undef :: undef :: undef :: undef :: undef :: undef :: undef :: undef :: undef :: undef :: undef :: undef :: []).toArray) (Holds [.box rR [X, Y, Z], .box rR [X', Y', Z'], .box rR [D], .new 48] w) (Keep [.box rR [X, Y, Z], .box rR [X', Y', Z'], .box rR [D], .new 48] w) (fun _ => undef) ?_ (by rfl) Keep.start (holds_soft (by kernel_rfl)) ?_ ?_
  · intro u i v h
    rcases i with _ | _ | _ | _ | i
    all_goals first | (simp [Act.put, putV]; done) | (exfalso; simp at h; omega)
  · intro hs
    refine ⟨?_, ?_, ?_, ?_, trivial⟩
    · exact step_box hs (wants_none rfl) rfl rfl (gives_c h0 (fun _ => rfl))
    · exact step_box hs (wants_none rfl) rfl rfl (gives_c h1 (fun _ => rfl))
    · exact step_box hs (wants_none rfl) rfl rfl (gives_c h2 (fun _ => rfl))
    · exact step_alloc hs (wants_none rfl) rfl rfl (by omega) rfl allocPt
  intro L0 u0 W0 hall hJ hG
  obtain ⟨q3, e3, ⟨hq3, _⟩, ht3, hm3⟩ := (show ∃ g, u0 0 = .pointer (some ⟨g, 0, none⟩) ∧ (w.heap.size ≤ g ∧ g < W0.heap.size) ∧ W0.there g 0 48 ∧ HasFs rR W0 g 0 [X, Y, Z] from hG 0 (by simp))
  have hq3 : w.heap.size ≤ q3 := by have := hbel0.size; omega
  have E3 := Lib.hid e3; clear e3
  obtain ⟨q4, e4, ⟨hq4, _⟩, ht4, hm4⟩ := (show ∃ g, u0 1 = .pointer (some ⟨g, 0, none⟩) ∧ (w.heap.size ≤ g ∧ g < W0.heap.size) ∧ W0.there g 0 48 ∧ HasFs rR W0 g 0 [X', Y', Z'] from hG 1 (by simp))
  have hq4 : w.heap.size ≤ q4 := by have := hbel0.size; omega
  have E4 := Lib.hid e4; clear e4
  obtain ⟨q5, e5, ⟨hq5, _⟩, ht5, hm5⟩ := (show ∃ g, u0 2 = .pointer (some ⟨g, 0, none⟩) ∧ (w.heap.size ≤ g ∧ g < W0.heap.size) ∧ W0.there g 0 16 ∧ HasFs rR W0 g 0 [D] from hG 2 (by simp))
  have hq5 : w.heap.size ≤ q5 := by have := hbel0.size; omega
  have E5 := Lib.hid e5; clear e5
  obtain ⟨q6, e6, hq6, _, ht6⟩ := (show ∃ g, u0 3 = .pointer (some ⟨g, 0, none⟩) ∧ w.heap.size ≤ g ∧ 0 < 48 ∧ W0.there g 0 48 from hG 3 (by simp))
  have hq6 : w.heap.size ≤ q6 := by have := hbel0.size; omega
  have E6 := Lib.hid e6; clear e6
  have hb := hJ.all rfl
  have hbel := Below.call hbel hb
  have HN3_4 := Lib.hid (show q3 ≠ q4 from fun e => hJ.apart 0 1 _ (by omega) (hall _ (by simp)) (hall _ (by simp)) rfl rfl (E3.out.trans (by rw [e])) E4.out)
  have HN3_5 := Lib.hid (show q3 ≠ q5 from fun e => hJ.apart 0 2 _ (by omega) (hall _ (by simp)) (hall _ (by simp)) rfl rfl (E3.out.trans (by rw [e])) E5.out)
  have HN3_6 := Lib.hid (show q3 ≠ q6 from fun e => hJ.apart 0 3 _ (by omega) (hall _ (by simp)) (hall _ (by simp)) rfl rfl (E3.out.trans (by rw [e])) E6.out)
  have HN4_5 := Lib.hid (show q4 ≠ q5 from fun e => hJ.apart 1 2 _ (by omega) (hall _ (by simp)) (hall _ (by simp)) rfl rfl (E4.out.trans (by rw [e])) E5.out)
  have HN4_6 := Lib.hid (show q4 ≠ q6 from fun e => hJ.apart 1 3 _ (by omega) (hall _ (by simp)) (hall _ (by simp)) rfl rfl (E4.out.trans (by rw [e])) E6.out)
  have HN5_6 := Lib.hid (show q5 ≠ q6 from fun e => hJ.apart 2 3 _ (by omega) (hall _ (by simp)) (hall _ (by simp)) rfl rfl (E5.out.trans (by rw [e])) E6.out)
  have hbel0 := hbel
  clear hJ hG hall hb
  go_upto_region 1 with fail
  refine wp_region_turn (fun u => (v0 :: v1 :: v2 :: u0 0 :: u0 1 :: u0 2 :: u0 3 :: u 5 :: undef :: undef :: undef :: undef :: undef :: undef :: undef :: u 0 :: u 1 :: u 2 :: u 3 :: u 4 :: undef :: undef :: undef :: undef :: undef :: undef :: undef :: undef :: undef :: undef :: undef :: undef :: undef :: undef :: undef :: undef :: undef :: undef :: undef :: undef :: undef :: undef :: undef :: undef :: undef :: undef :: undef :: undef :: undef :: undef :: undef :: undef :: undef :: undef :: undef :: undef :: undef :: undef :: undef :: undef :: undef :: undef :: undef :: undef :: undef :: undef :: undef :: undef :: undef :: undef :: undef :: []).toArray) (Holds [.ptr q3 32, .val rR [Z], .ptr q4 32, .val rR [Z'], .val rR [Z * Z'], .new 16, .st 5 rR [Z * Z']] W0) (Keep [.ptr q3 32, .val rR [Z], .ptr q4 32, .val rR [Z'], .val rR [Z * Z'], .new 16, .st 5 rR [Z * Z']] W0) (fun _ => undef) ?_ (by rfl) Keep.start (holds_soft (by kernel_rfl)) ?_ ?_
  · intro u i v h
    rcases i with _ | _ | _ | _ | _ | _ | _ | i
    all_goals first | (simp [Act.put, putV]; done) | (exfalso; simp at h; omega)
  · intro hs
    refine ⟨?_, ?_, ?_, ?_, ?_, ?_, ?_, trivial⟩
    · exact step_field hs (wants_none rfl) rfl rfl (fun _ => E3.out) (field_Pt2 _)
    · exact step_loadF 0 q3 32 hs (wants_none rfl) rfl rfl tyFe (fun _ => rfl) rfl (by kernel_rfl) hm3.lt (hm3.fld 2 1) (noSto_apart (by kernel_rfl))
    · exact step_field hs (wants_none rfl) rfl rfl (fun _ => E4.out) (field_Pt2 _)
    · exact step_loadF 2 q4 32 hs (wants_none rfl) rfl rfl tyFe (fun _ => rfl) rfl (by kernel_rfl) hm4.lt (hm4.fld 2 1) (noSto_apart (by kernel_rfl))
    · refine step_call hs (wants_none rfl) rfl fun L u W hJ hG hL hdep K hK => ?_
      have a0 := (show IsFs rR (u 1) [Z] from hG 1 (hdep 1 (by kernel_rfl)))
      have a1 := (show IsFs rR (u 3) [Z'] from hG 3 (hdep 3 (by kernel_rfl)))
      go_simp
      go_at_call 50
      (with_reducible refine (kMul a0 a1 _).mono ?_); rintro e w1 ⟨r, rfl, hr, hb⟩
      have hk := hK.out _ _ hr hb
      exact hk
    · exact step_alloc hs (wants_none rfl) rfl rfl (by omega) rfl allocFe
    · exact step_store 5 hs (by kernel_rfl) (wants_none rfl) rfl rfl rfl (by kernel_rfl) (by kernel_rfl) (by kernel_rfl) (by kernel_rfl) (fun _ => rfl) (gives_op 4 rfl (by kernel_rfl) (fun _ => rfl)) tyFe rfl
  intro L1 u1 W1 hall hJ hG
  obtain ⟨q7, e7, hq7, _, ht7⟩ := (show ∃ g, u1 5 = .pointer (some ⟨g, 0, none⟩) ∧ W0.heap.size ≤ g ∧ 0 < 16 ∧ W1.there g 0 16 from hG 5 (by simp))
  have hm7 : HasFs rR W1 q7 0 [Z * Z'] := by
    obtain ⟨g, e, _, h⟩ := (show ∃ g, u1 5 = .pointer (some ⟨g, 0, none⟩) ∧ W0.heap.size ≤ g ∧ HasFs rR W1 g 0 [Z * Z'] from hG 6 (by simp))
    rw [e7] at e; cases e; exact h
  have HD7_q3 := Lib.hid (show q3 ≠ q7 by have := there_lt ht3 (by omega); omega)
  have HD7_q4 := Lib.hid (show q4 ≠ q7 by have := there_lt ht4 (by omega); omega)
  have HD7_q5 := Lib.hid (show q5 ≠ q7 by have := there_lt ht5 (by omega); omega)
  have HD7_q6 := Lib.hid (show q6 ≠ q7 by have := there_lt ht6 (by omega); omega)
  have hq7 : w.heap.size ≤ q7 := by have := hbel0.size; omega
  have E7 := Lib.hid e7; clear e7
  have hb := hJ.all rfl
  have hbel := Below.call hbel hb
  have hm3 := hm3.later hb
  have hm4 := hm4.later hb
  have hm5 := hm5.later hb
  have ht3 := there_later ht3 hb
  have ht4 := there_later ht4 hb
  have ht5 := there_later ht5 hb
  have ht6 := there_later ht6 hb
  have hbel0 := hbel
  clear hJ hG hall hb
  go_upto_region 2 with fail
  refine wp_region_turn (fun u => (v0 :: v1 :: v2 :: u0 0 :: u0 1 :: u0 2 :: u0 3 :: u1 5 :: u 3 :: undef :: undef :: undef :: undef :: undef :: undef :: u1 0 :: u1 1 :: u1 2 :: u1 3 :: u1 4 :: u 0 :: u 1 :: u 2 :: undef :: undef :: undef :: undef :: undef :: undef :: undef :: undef :: undef :: undef :: undef :: undef :: undef :: undef :: undef :: undef :: undef :: undef :: undef :: undef :: undef :: undef :: undef :: undef :: undef :: undef :: undef :: undef :: undef :: undef :: undef :: undef :: undef :: undef :: undef :: undef :: undef :: undef :: undef :: undef :: undef :: undef :: undef :: undef :: undef :: undef :: undef :: undef :: []).toArray) (Holds [.val rR [Z * Z'], .val rR [Z * Z'], .val rR [(Z * Z') * (Z * Z')], .new 16, .st 3 rR [(Z * Z') * (Z * Z')]] W1) (Keep [.val rR [Z * Z'], .val rR [Z * Z'], .val rR [(Z * Z') * (Z * Z')], .new 16, .st 3 rR [(Z * Z') * (Z * Z')]] W1) (fun _ => undef) ?_ (by rfl) Keep.start (holds_soft (by kernel_rfl)) ?_ ?_
  · intro u i v h
    rcases i with _ | _ | _ | _ | _ | i
    all_goals first | (simp [Act.put, putV]; done) | (exfalso; simp at h; omega)
  · intro hs
    refine ⟨?_, ?_, ?_, ?_, ?_, trivial⟩
    · exact step_load q7 0 hs (wants_none rfl) rfl rfl tyFe (fun _ => E7.out) hm7.lt hm7 (noSto_apart (by kernel_rfl))
    · exact step_load q7 0 hs (wants_none rfl) rfl rfl tyFe (fun _ => E7.out) hm7.lt hm7 (noSto_apart (by kernel_rfl))
    · refine step_call hs (wants_none rfl) rfl fun L u W hJ hG hL hdep K hK => ?_
      have a0 := (show IsFs rR (u 0) [Z * Z'] from hG 0 (hdep 0 (by kernel_rfl)))
      have a1 := (show IsFs rR (u 1) [Z * Z'] from hG 1 (hdep 1 (by kernel_rfl)))
      go_simp
      go_at_call 50
      (with_reducible refine (kMul a0 a1 _).mono ?_); rintro e w1 ⟨r, rfl, hr, hb⟩
      have hk := hK.out _ _ hr hb
      exact hk
    · exact step_alloc hs (wants_none rfl) rfl rfl (by omega) rfl allocFe
    · exact step_store 3 hs (by kernel_rfl) (wants_none rfl) rfl rfl rfl (by kernel_rfl) (by kernel_rfl) (by kernel_rfl) (by kernel_rfl) (fun _ => rfl) (gives_op 2 rfl (by kernel_rfl) (fun _ => rfl)) tyFe rfl
  intro L2 u2 W2 hall hJ hG
  obtain ⟨q8, e8, hq8, _, ht8⟩ := (show ∃ g, u2 3 = .pointer (some ⟨g, 0, none⟩) ∧ W1.heap.size ≤ g ∧ 0 < 16 ∧ W2.there g 0 16 from hG 3 (by simp))
  have hm8 : HasFs rR W2 q8 0 [(Z * Z') * (Z * Z')] := by
    obtain ⟨g, e, _, h⟩ := (show ∃ g, u2 3 = .pointer (some ⟨g, 0, none⟩) ∧ W1.heap.size ≤ g ∧ HasFs rR W2 g 0 [(Z * Z') * (Z * Z')] from hG 4 (by simp))
    rw [e8] at e; cases e; exact h
  have HD8_q3 := Lib.hid (show q3 ≠ q8 by have := there_lt ht3 (by omega); omega)
  have HD8_q4 := Lib.hid (show q4 ≠ q8 by have := there_lt ht4 (by omega); omega)
  have HD8_q5 := Lib.hid (show q5 ≠ q8 by have := there_lt ht5 (by omega); omega)
  have HD8_q6 := Lib.hid (show q6 ≠ q8 by have := there_lt ht6 (by omega); omega)
  have HD8_q7 := Lib.hid (show q7 ≠ q8 by have := there_lt ht7 (by omega); omega)
  have hq8 : w.heap.size ≤ q8 := by have := hbel0.size; omega
  have E8 := Lib.hid e8; clear e8
  have hb := hJ.all rfl
  have hbel := Below.call hbel hb
  have hm3 := hm3.later hb
  have hm4 := hm4.later hb
  have hm5 := hm5.later hb
  have hm7 := hm7.later hb
  have ht3 := there_later ht3 hb
  have ht4 := there_later ht4 hb
  have ht5 := there_later ht5 hb
  have ht6 := there_later ht6 hb
  have ht7 := there_later ht7 hb
  have hbel0 := hbel
  clear hJ hG hall hb
  go_upto_region 3 with fail
  refine wp_region_turn (fun u => (v0 :: v1 :: v2 :: u0 0 :: u0 1 :: u0 2 :: u0 3 :: u1 5 :: u2 3 :: u 5 :: undef :: undef :: undef :: undef :: undef :: u1 0 :: u1 1 :: u1 2 :: u1 3 :: u1 4 :: u2 0 :: u2 1 :: u2 2 :: u 0 :: u 1 :: u 2 :: u 3 :: u 4 :: undef :: undef :: undef :: undef :: undef :: undef :: undef :: undef :: undef :: undef :: undef :: undef :: undef :: undef :: undef :: undef :: undef :: undef :: undef :: undef :: undef :: undef :: undef :: undef :: undef :: undef :: undef :: undef :: undef :: undef :: undef :: undef :: undef :: undef :: undef :: undef :: undef :: undef :: undef :: undef :: undef :: undef :: undef :: []).toArray) (Holds [.ptr q3 0, .val rR [X], .ptr q4 0, .val rR [X'], .val rR [X * X'], .new 16, .st 5 rR [X * X']] W2) (Keep [.ptr q3 0, .val rR [X], .ptr q4 0, .val rR [X'], .val rR [X * X'], .new 16, .st 5 rR [X * X']] W2) (fun _ => undef) ?_ (by rfl) Keep.start (holds_soft (by kernel_rfl)) ?_ ?_
  · intro u i v h
    rcases i with _ | _ | _ | _ | _ | _ | _ | i
    all_goals first | (simp [Act.put, putV]; done) | (exfalso; simp at h; omega)
  · intro hs
    refine ⟨?_, ?_, ?_, ?_, ?_, ?_, ?_, trivial⟩
    · exact step_field hs (wants_none rfl) rfl rfl (fun _ => E3.out) (field_Pt0 _)
    · exact step_loadF 0 q3 0 hs (wants_none rfl) rfl rfl tyFe (fun _ => rfl) rfl (by kernel_rfl) hm3.lt (hm3.fld 0 1) (noSto_apart (by kernel_rfl))
    · exact step_field hs (wants_none rfl) rfl rfl (fun _ => E4.out) (field_Pt0 _)
    · exact step_loadF 2 q4 0 hs (wants_none rfl) rfl rfl tyFe (fun _ => rfl) rfl (by kernel_rfl) hm4.lt (hm4.fld 0 1) (noSto_apart (by kernel_rfl))
    · refine step_call hs (wants_none rfl) rfl fun L u W hJ hG hL hdep K hK => ?_
      have a0 := (show IsFs rR (u 1) [X] from hG 1 (hdep 1 (by kernel_rfl)))
      have a1 := (show IsFs rR (u 3) [X'] from hG 3 (hdep 3 (by kernel_rfl)))
      go_simp
      go_at_call 50
      (with_reducible refine (kMul a0 a1 _).mono ?_); rintro e w1 ⟨r, rfl, hr, hb⟩
      have hk := hK.out _ _ hr hb
      exact hk
    · exact step_alloc hs (wants_none rfl) rfl rfl (by omega) rfl allocFe
    · exact step_store 5 hs (by kernel_rfl) (wants_none rfl) rfl rfl rfl (by kernel_rfl) (by kernel_rfl) (by kernel_rfl) (by kernel_rfl) (fun _ => rfl) (gives_op 4 rfl (by kernel_rfl) (fun _ => rfl)) tyFe rfl
  intro L3 u3 W3 hall hJ hG
  obtain ⟨q9, e9, hq9, _, ht9⟩ := (show ∃ g, u3 5 = .pointer (some ⟨g, 0, none⟩) ∧ W2.heap.size ≤ g ∧ 0 < 16 ∧ W3.there g 0 16 from hG 5 (by simp))
  have hm9 : HasFs rR W3 q9 0 [X * X'] := by
    obtain ⟨g, e, _, h⟩ := (show ∃ g, u3 5 = .pointer (some ⟨g, 0, none⟩) ∧ W2.heap.size ≤ g ∧ HasFs rR W3 g 0 [X * X'] from hG 6 (by simp))
    rw [e9] at e; cases e; exact h
  have HD9_q3 := Lib.hid (show q3 ≠ q9 by have := there_lt ht3 (by omega); omega)
  have HD9_q4 := Lib.hid (show q4 ≠ q9 by have := there_lt ht4 (by omega); omega)
  have HD9_q5 := Lib.hid (show q5 ≠ q9 by have := there_lt ht5 (by omega); omega)
  have HD9_q6 := Lib.hid (show q6 ≠ q9 by have := there_lt ht6 (by omega); omega)
  have HD9_q7 := Lib.hid (show q7 ≠ q9 by have := there_lt ht7 (by omega); omega)
  have HD9_q8 := Lib.hid (show q8 ≠ q9 by have := there_lt ht8 (by omega); omega)
  have hq9 : w.heap.size ≤ q9 := by have := hbel0.size; omega
  have E9 := Lib.hid e9; clear e9
  have hb := hJ.all rfl
  have hbel := Below.call hbel hb
  have hm3 := hm3.later hb
  have hm4 := hm4.later hb
  have hm5 := hm5.later hb
  have hm7 := hm7.later hb
  have hm8 := hm8.later hb
  have ht3 := there_later ht3 hb
  have ht4 := there_later ht4 hb
  have ht5 := there_later ht5 hb
  have ht6 := there_later ht6 hb
  have ht7 := there_later ht7 hb
  have ht8 := there_later ht8 hb
  have hbel0 := hbel
  clear hJ hG hall hb
  go_upto_region 4 with fail
  refine wp_region_turn (fun u => (v0 :: v1 :: v2 :: u0 0 :: u0 1 :: u0 2 :: u0 3 :: u1 5 :: u2 3 :: u3 5 :: u 5 :: undef :: undef :: undef :: undef :: u1 0 :: u1 1 :: u1 2 :: u1 3 :: u1 4 :: u2 0 :: u2 1 :: u2 2 :: u3 0 :: u3 1 :: u3 2 :: u3 3 :: u3 4 :: u 0 :: u 1 :: u 2 :: u 3 :: u 4 :: undef :: undef :: undef :: undef :: undef :: undef :: undef :: undef :: undef :: undef :: undef :: undef :: undef :: undef :: undef :: undef :: undef :: undef :: undef :: undef :: undef :: undef :: undef :: undef :: undef :: undef :: undef :: undef :: undef :: undef :: undef :: undef :: undef :: undef :: undef :: undef :: undef :: undef :: []).toArray) (Holds [.ptr q3 16, .val rR [Y], .ptr q4 16, .val rR [Y'], .val rR [Y * Y'], .new 16, .st 5 rR [Y * Y']] W3) (Keep [.ptr q3 16, .val rR [Y], .ptr q4 16, .val rR [Y'], .val rR [Y * Y'], .new 16, .st 5 rR [Y * Y']] W3) (fun _ => undef) ?_ (by rfl) Keep.start (holds_soft (by kernel_rfl)) ?_ ?_
  · intro u i v h
    rcases i with _ | _ | _ | _ | _ | _ | _ | i
    all_goals first | (simp [Act.put, putV]; done) | (exfalso; simp at h; omega)
  · intro hs
    refine ⟨?_, ?_, ?_, ?_, ?_, ?_, ?_, trivial⟩
    · exact step_field hs (wants_none rfl) rfl rfl (fun _ => E3.out) (field_Pt1 _)
    · exact step_loadF 0 q3 16 hs (wants_none rfl) rfl rfl tyFe (fun _ => rfl) rfl (by kernel_rfl) hm3.lt (hm3.fld 1 1) (noSto_apart (by kernel_rfl))
    · exact step_field hs (wants_none rfl) rfl rfl (fun _ => E4.out) (field_Pt1 _)
    · exact step_loadF 2 q4 16 hs (wants_none rfl) rfl rfl tyFe (fun _ => rfl) rfl (by kernel_rfl) hm4.lt (hm4.fld 1 1) (noSto_apart (by kernel_rfl))
    · refine step_call hs (wants_none rfl) rfl fun L u W hJ hG hL hdep K hK => ?_
      have a0 := (show IsFs rR (u 1) [Y] from hG 1 (hdep 1 (by kernel_rfl)))
      have a1 := (show IsFs rR (u 3) [Y'] from hG 3 (hdep 3 (by kernel_rfl)))
      go_simp
      go_at_call 50
      (with_reducible refine (kMul a0 a1 _).mono ?_); rintro e w1 ⟨r, rfl, hr, hb⟩
      have hk := hK.out _ _ hr hb
      exact hk
    · exact step_alloc hs (wants_none rfl) rfl rfl (by omega) rfl allocFe
    · exact step_store 5 hs (by kernel_rfl) (wants_none rfl) rfl rfl rfl (by kernel_rfl) (by kernel_rfl) (by kernel_rfl) (by kernel_rfl) (fun _ => rfl) (gives_op 4 rfl (by kernel_rfl) (fun _ => rfl)) tyFe rfl
  intro L4 u4 W4 hall hJ hG
  obtain ⟨q10, e10, hq10, _, ht10⟩ := (show ∃ g, u4 5 = .pointer (some ⟨g, 0, none⟩) ∧ W3.heap.size ≤ g ∧ 0 < 16 ∧ W4.there g 0 16 from hG 5 (by simp))
  have hm10 : HasFs rR W4 q10 0 [Y * Y'] := by
    obtain ⟨g, e, _, h⟩ := (show ∃ g, u4 5 = .pointer (some ⟨g, 0, none⟩) ∧ W3.heap.size ≤ g ∧ HasFs rR W4 g 0 [Y * Y'] from hG 6 (by simp))
    rw [e10] at e; cases e; exact h
  have HD10_q3 := Lib.hid (show q3 ≠ q10 by have := there_lt ht3 (by omega); omega)
  have HD10_q4 := Lib.hid (show q4 ≠ q10 by have := there_lt ht4 (by omega); omega)
  have HD10_q5 := Lib.hid (show q5 ≠ q10 by have := there_lt ht5 (by omega); omega)
  have HD10_q6 := Lib.hid (show q6 ≠ q10 by have := there_lt ht6 (by omega); omega)
  have HD10_q7 := Lib.hid (show q7 ≠ q10 by have := there_lt ht7 (by omega); omega)
  have HD10_q8 := Lib.hid (show q8 ≠ q10 by have := there_lt ht8 (by omega); omega)
  have HD10_q9 := Lib.hid (show q9 ≠ q10 by have := there_lt ht9 (by omega); omega)
  have hq10 : w.heap.size ≤ q10 := by have := hbel0.size; omega
  have E10 := Lib.hid e10; clear e10
  have hb := hJ.all rfl
  have hbel := Below.call hbel hb
  have hm3 := hm3.later hb
  have hm4 := hm4.later hb
  have hm5 := hm5.later hb
  have hm7 := hm7.later hb
  have hm8 := hm8.later hb
  have hm9 := hm9.later hb
  have ht3 := there_later ht3 hb
  have ht4 := there_later ht4 hb
  have ht5 := there_later ht5 hb
  have ht6 := there_later ht6 hb
  have ht7 := there_later ht7 hb
  have ht8 := there_later ht8 hb
  have ht9 := there_later ht9 hb
  have hbel0 := hbel
  clear hJ hG hall hb
  go_upto_region 5 with fail
  refine wp_region_mid (fun u => (v0 :: v1 :: v2 :: u0 0 :: u0 1 :: u0 2 :: u0 3 :: u1 5 :: u2 3 :: u3 5 :: u4 5 :: u 5 :: undef :: undef :: undef :: u1 0 :: u1 1 :: u1 2 :: u1 3 :: u1 4 :: u2 0 :: u2 1 :: u2 2 :: u3 0 :: u3 1 :: u3 2 :: u3 3 :: u3 4 :: u4 0 :: u4 1 :: u4 2 :: u4 3 :: u4 4 :: u 0 :: u 1 :: u 2 :: u 3 :: u 4 :: undef :: undef :: undef :: undef :: undef :: undef :: undef :: undef :: undef :: undef :: undef :: undef :: undef :: undef :: undef :: undef :: undef :: undef :: undef :: undef :: undef :: undef :: undef :: undef :: undef :: undef :: undef :: undef :: undef :: undef :: undef :: undef :: undef :: []).toArray) (Holds [.val rR [D], .val rR [X * X'], .val rR [Y * Y'], .val rR [(X * X') * (Y * Y')], .val rR [D * ((X * X') * (Y * Y'))], .new 16, .st 5 rR [D * ((X * X') * (Y * Y'))]] W4) (Keep [.val rR [D], .val rR [X * X'], .val rR [Y * Y'], .val rR [(X * X') * (Y * Y')], .val rR [D * ((X * X') * (Y * Y'))], .new 16, .st 5 rR [D * ((X * X') * (Y * Y'))]] W4) (fun _ => undef) (by kernel_rfl) (by kernel_rfl) ?_ (by rfl) Keep.drew (holds_soft (by kernel_rfl)) ?_ ?_
  · intro u i v h
    rcases i with _ | _ | _ | _ | _ | _ | _ | i
    all_goals first | (simp [Act.put, putV]; done) | (exfalso; simp at h; omega)
  · intro hs
    refine ⟨?_, ?_, ?_, ?_, ?_, ?_, ?_, trivial⟩
    · exact step_load q5 0 hs (wants_none rfl) rfl rfl tyFe (fun _ => E5.out) hm5.lt hm5 (noSto_apart (by kernel_rfl))
    · exact step_load q9 0 hs (wants_none rfl) rfl rfl tyFe (fun _ => E9.out) hm9.lt hm9 (noSto_apart (by kernel_rfl))
    · exact step_load q10 0 hs (wants_none rfl) rfl rfl tyFe (fun _ => E10.out) hm10.lt hm10 (noSto_apart (by kernel_rfl))
    · refine step_call hs (wants_none rfl) rfl fun L u W hJ hG hL hdep K hK => ?_
      have a0 := (show IsFs rR (u 1) [X * X'] from hG 1 (hdep 1 (by kernel_rfl)))
      have a1 := (show IsFs rR (u 2) [Y * Y'] from hG 2 (hdep 2 (by kernel_rfl)))
      go_simp
      go_at_call 50
      (with_reducible refine (kMul a0 a1 _).mono ?_); rintro e w1 ⟨r, rfl, hr, hb⟩
      have hk := hK.out _ _ hr hb
      exact hk
    · refine step_call hs (wants_none rfl) rfl fun L u W hJ hG hL hdep K hK => ?_
      have a0 := (show IsFs rR (u 0) [D] from hG 0 (hdep 0 (by kernel_rfl)))
      have a1 := (show IsFs rR (u 3) [(X * X') * (Y * Y')] from hG 3 (hdep 3 (by kernel_rfl)))
      go_simp
      go_at_call 50
      (with_reducible refine (kMul a0 a1 _).mono ?_); rintro e w1 ⟨r, rfl, hr, hb⟩
      have hk := hK.out _ _ hr hb
      exact hk
    · exact step_alloc hs (wants_none rfl) rfl rfl (by omega) rfl allocFe
    · exact step_store 5 hs (by kernel_rfl) (wants_none rfl) rfl rfl rfl (by kernel_rfl) (by kernel_rfl) (by kernel_rfl) (by kernel_rfl) (fun _ => rfl) (gives_op 4 rfl (by kernel_rfl) (fun _ => rfl)) tyFe rfl
  intro L5 u5 W5 hall hJ hG
  obtain ⟨q11, e11, hq11, _, ht11⟩ := (show ∃ g, u5 5 = .pointer (some ⟨g, 0, none⟩) ∧ W4.heap.size ≤ g ∧ 0 < 16 ∧ W5.there g 0 16 from hG 5 (by simp))
  have hm11 : HasFs rR W5 q11 0 [D * ((X * X') * (Y * Y'))] := by
    obtain ⟨g, e, _, h⟩ := (show ∃ g, u5 5 = .pointer (some ⟨g, 0, none⟩) ∧ W4.heap.size ≤ g ∧ HasFs rR W5 g 0 [D * ((X * X') * (Y * Y'))] from hG 6 (by simp))
    rw [e11] at e; cases e; exact h
  have HD11_q3 := Lib.hid (show q3 ≠ q11 by have := there_lt ht3 (by omega); omega)
  have HD11_q4 := Lib.hid (show q4 ≠ q11 by have := there_lt ht4 (by omega); omega)
  have HD11_q5 := Lib.hid (show q5 ≠ q11 by have := there_lt ht5 (by omega); omega)
  have HD11_q6 := Lib.hid (show q6 ≠ q11 by have := there_lt ht6 (by omega); omega)
  have HD11_q7 := Lib.hid (show q7 ≠ q11 by have := there_lt ht7 (by omega); omega)
  have HD11_q8 := Lib.hid (show q8 ≠ q11 by have := there_lt ht8 (by omega); omega)
  have HD11_q9 := Lib.hid (show q9 ≠ q11 by have := there_lt ht9 (by omega); omega)
  have HD11_q10 := Lib.hid (show q10 ≠ q11 by have := there_lt ht10 (by omega); omega)
  have hq11 : w.heap.size ≤ q11 := by have := hbel0.size; omega
  have E11 := Lib.hid e11; clear e11
  have hb := hJ.all rfl
  have hbel := Below.call hbel hb
  have hm3 := hm3.later hb
  have hm4 := hm4.later hb
  have hm5 := hm5.later hb
  have hm7 := hm7.later hb
  have hm8 := hm8.later hb
  have hm9 := hm9.later hb
  have hm10 := hm10.later hb
  have ht3 := there_later ht3 hb
  have ht4 := there_later ht4 hb
  have ht5 := there_later ht5 hb
  have ht6 := there_later ht6 hb
  have ht7 := there_later ht7 hb
  have ht8 := there_later ht8 hb
  have ht9 := there_later ht9 hb
  have ht10 := there_later ht10 hb
  have hbel0 := hbel
  clear hJ hG hall hb
  go_upto_region 6 with fail
  refine wp_region_turn (fun u => (v0 :: v1 :: v2 :: u0 0 :: u0 1 :: u0 2 :: u0 3 :: u1 5 :: u2 3 :: u3 5 :: u4 5 :: u5 5 :: u 3 :: undef :: undef :: u1 0 :: u1 1 :: u1 2 :: u1 3 :: u1 4 :: u2 0 :: u2 1 :: u2 2 :: u3 0 :: u3 1 :: u3 2 :: u3 3 :: u3 4 :: u4 0 :: u4 1 :: u4 2 :: u4 3 :: u4 4 :: u5 0 :: u5 1 :: u5 2 :: u5 3 :: u5 4 :: u 0 :: u 1 :: u 2 :: undef :: undef :: undef :: undef :: undef :: undef :: undef :: undef :: undef :: undef :: undef :: undef :: undef :: undef :: undef :: undef :: undef :: undef :: undef :: undef :: undef :: undef :: undef :: undef :: undef :: undef :: undef :: undef :: undef :: undef :: []).toArray) (Holds [.val rR [(Z * Z') * (Z * Z')], .val rR [D * ((X * X') * (Y * Y'))], .val rR [((Z * Z') * (Z * Z')) - (D * ((X * X') * (Y * Y')))], .new 16, .st 3 rR [((Z * Z') * (Z * Z')) - (D * ((X * X') * (Y * Y')))]] W5) (Keep [.val rR [(Z * Z') * (Z * Z')], .val rR [D * ((X * X') * (Y * Y'))], .val rR [((Z * Z') * (Z * Z')) - (D * ((X * X') * (Y * Y')))], .new 16, .st 3 rR [((Z * Z') * (Z * Z')) - (D * ((X * X') * (Y * Y')))]] W5) (fun _ => undef) ?_ (by rfl) Keep.start (holds_soft (by kernel_rfl)) ?_ ?_
  · intro u i v h
    rcases i with _ | _ | _ | _ | _ | i
    all_goals first | (simp [Act.put, putV]; done) | (exfalso; simp at h; omega)
  · intro hs
    refine ⟨?_, ?_, ?_, ?_, ?_, trivial⟩
    · exact step_load q8 0 hs (wants_none rfl) rfl rfl tyFe (fun _ => E8.out) hm8.lt hm8 (noSto_apart (by kernel_rfl))
    · exact step_load q11 0 hs (wants_none rfl) rfl rfl tyFe (fun _ => E11.out) hm11.lt hm11 (noSto_apart (by kernel_rfl))
    · refine step_call hs (wants_none rfl) rfl fun L u W hJ hG hL hdep K hK => ?_
      have a0 := (show IsFs rR (u 0) [(Z * Z') * (Z * Z')] from hG 0 (hdep 0 (by kernel_rfl)))
      have a1 := (show IsFs rR (u 1) [D * ((X * X') * (Y * Y'))] from hG 1 (hdep 1 (by kernel_rfl)))
      go_simp
      go_at_call 51
      (with_reducible refine (kSub a0 a1 _).mono ?_); rintro e w1 ⟨r, rfl, hr, hb⟩
      have hk := hK.out _ _ hr hb
      exact hk
    · exact step_alloc hs (wants_none rfl) rfl rfl (by omega) rfl allocFe
    · exact step_store 3 hs (by kernel_rfl) (wants_none rfl) rfl rfl rfl (by kernel_rfl) (by kernel_rfl) (by kernel_rfl) (by kernel_rfl) (fun _ => rfl) (gives_op 2 rfl (by kernel_rfl) (fun _ => rfl)) tyFe rfl
  intro L6 u6 W6 hall hJ hG
  obtain ⟨q12, e12, hq12, _, ht12⟩ := (show ∃ g, u6 3 = .pointer (some ⟨g, 0, none⟩) ∧ W5.heap.size ≤ g ∧ 0 < 16 ∧ W6.there g 0 16 from hG 3 (by simp))
  have hm12 : HasFs rR W6 q12 0 [((Z * Z') * (Z * Z')) - (D * ((X * X') * (Y * Y')))] := by
    obtain ⟨g, e, _, h⟩ := (show ∃ g, u6 3 = .pointer (some ⟨g, 0, none⟩) ∧ W5.heap.size ≤ g ∧ HasFs rR W6 g 0 [((Z * Z') * (Z * Z')) - (D * ((X * X') * (Y * Y')))] from hG 4 (by simp))
    rw [e12] at e; cases e; exact h
  have HD12_q3 := Lib.hid (show q3 ≠ q12 by have := there_lt ht3 (by omega); omega)
  have HD12_q4 := Lib.hid (show q4 ≠ q12 by have := there_lt ht4 (by omega); omega)
  have HD12_q5 := Lib.hid (show q5 ≠ q12 by have := there_lt ht5 (by omega); omega)
  have HD12_q6 := Lib.hid (show q6 ≠ q12 by have := there_lt ht6 (by omega); omega)
  have HD12_q7 := Lib.hid (show q7 ≠ q12 by have := there_lt ht7 (by omega); omega)
  have HD12_q8 := Lib.hid (show q8 ≠ q12 by have := there_lt ht8 (by omega); omega)
  have HD12_q9 := Lib.hid (show q9 ≠ q12 by have := there_lt ht9 (by omega); omega)
  have HD12_q10 := Lib.hid (show q10 ≠ q12 by have := there_lt ht10 (by omega); omega)
  have HD12_q11 := Lib.hid (show q11 ≠ q12 by have := there_lt ht11 (by omega); omega)
  have hq12 : w.heap.size ≤ q12 := by have := hbel0.size; omega
  have E12 := Lib.hid e12; clear e12
  have hb := hJ.all rfl
  have hbel := Below.call hbel hb
  have hm3 := hm3.later hb
  have hm4 := hm4.later hb
  have hm5 := hm5.later hb
  have hm7 := hm7.later hb
  have hm8 := hm8.later hb
  have hm9 := hm9.later hb
  have hm10 := hm10.later hb
  have hm11 := hm11.later hb
  have ht3 := there_later ht3 hb
  have ht4 := there_later ht4 hb
  have ht5 := there_later ht5 hb
  have ht6 := there_later ht6 hb
  have ht7 := there_later ht7 hb
  have ht8 := there_later ht8 hb
  have ht9 := there_later ht9 hb
  have ht10 := there_later ht10 hb
  have ht11 := there_later ht11 hb
  have hbel0 := hbel
  clear hJ hG hall hb
  go_upto_region 7 with fail
  refine wp_region_turn (fun u => (v0 :: v1 :: v2 :: u0 0 :: u0 1 :: u0 2 :: u0 3 :: u1 5 :: u2 3 :: u3 5 :: u4 5 :: u5 5 :: u6 3 :: u 3 :: undef :: u1 0 :: u1 1 :: u1 2 :: u1 3 :: u1 4 :: u2 0 :: u2 1 :: u2 2 :: u3 0 :: u3 1 :: u3 2 :: u3 3 :: u3 4 :: u4 0 :: u4 1 :: u4 2 :: u4 3 :: u4 4 :: u5 0 :: u5 1 :: u5 2 :: u5 3 :: u5 4 :: u6 0 :: u6 1 :: u6 2 :: u 0 :: u 1 :: u 2 :: undef :: undef :: undef :: undef :: undef :: undef :: undef :: undef :: undef :: undef :: undef :: undef :: undef :: undef :: undef :: undef :: undef :: undef :: undef :: undef :: undef :: undef :: undef :: undef :: undef :: undef :: undef :: []).toArray) (Holds [.val rR [(Z * Z') * (Z * Z')], .val rR [D * ((X * X') * (Y * Y'))], .val rR [((Z * Z') * (Z * Z')) + (D * ((X * X') * (Y * Y')))], .new 16, .st 3 rR [((Z * Z') * (Z * Z')) + (D * ((X * X') * (Y * Y')))]] W6) (Keep [.val rR [(Z * Z') * (Z * Z')], .val rR [D * ((X * X') * (Y * Y'))], .val rR [((Z * Z') * (Z * Z')) + (D * ((X * X') * (Y * Y')))], .new 16, .st 3 rR [((Z * Z') * (Z * Z')) + (D * ((X * X') * (Y * Y')))]] W6) (fun _ => undef) ?_ (by rfl) Keep.start (holds_soft (by kernel_rfl)) ?_ ?_
  · intro u i v h
    rcases i with _ | _ | _ | _ | _ | i
    all_goals first | (simp [Act.put, putV]; done) | (exfalso; simp at h; omega)
  · intro hs
    refine ⟨?_, ?_, ?_, ?_, ?_, trivial⟩
    · exact step_load q8 0 hs (wants_none rfl) rfl rfl tyFe (fun _ => E8.out) hm8.lt hm8 (noSto_apart (by kernel_rfl))
    · exact step_load q11 0 hs (wants_none rfl) rfl rfl tyFe (fun _ => E11.out) hm11.lt hm11 (noSto_apart (by kernel_rfl))
    · refine step_call hs (wants_none rfl) rfl fun L u W hJ hG hL hdep K hK => ?_
      have a0 := (show IsFs rR (u 0) [(Z * Z') * (Z * Z')] from hG 0 (hdep 0 (by kernel_rfl)))
      have a1 := (show IsFs rR (u 1) [D * ((X * X') * (Y * Y'))] from hG 1 (hdep 1 (by kernel_rfl)))
      go_simp
      go_at_call 54
      (with_reducible refine (kAdd a0 a1 _).mono ?_); rintro e w1 ⟨r, rfl, hr, hb⟩
      have hk := hK.out _ _ hr hb
      exact hk
    · exact step_alloc hs (wants_none rfl) rfl rfl (by omega) rfl allocFe
    · exact step_store 3 hs (by kernel_rfl) (wants_none rfl) rfl rfl rfl (by kernel_rfl) (by kernel_rfl) (by kernel_rfl) (by kernel_rfl) (fun _ => rfl) (gives_op 2 rfl (by kernel_rfl) (fun _ => rfl)) tyFe rfl
  intro L7 u7 W7 hall hJ hG
  obtain ⟨q13, e13, hq13, _, ht13⟩ := (show ∃ g, u7 3 = .pointer (some ⟨g, 0, none⟩) ∧ W6.heap.size ≤ g ∧ 0 < 16 ∧ W7.there g 0 16 from hG 3 (by simp))
  have hm13 : HasFs rR W7 q13 0 [((Z * Z') * (Z * Z')) + (D * ((X * X') * (Y * Y')))] := by
    obtain ⟨g, e, _, h⟩ := (show ∃ g, u7 3 = .pointer (some ⟨g, 0, none⟩) ∧ W6.heap.size ≤ g ∧ HasFs rR W7 g 0 [((Z * Z') * (Z * Z')) + (D * ((X * X') * (Y * Y')))] from hG 4 (by simp))
    rw [e13] at e; cases e; exact h
  have HD13_q3 := Lib.hid (show q3 ≠ q13 by have := there_lt ht3 (by omega); omega)
  have HD13_q4 := Lib.hid (show q4 ≠ q13 by have := there_lt ht4 (by omega); omega)
  have HD13_q5 := Lib.hid (show q5 ≠ q13 by have := there_lt ht5 (by omega); omega)
  have HD13_q6 := Lib.hid (show q6 ≠ q13 by have := there_lt ht6 (by omega); omega)
  have HD13_q7 := Lib.hid (show q7 ≠ q13 by have := there_lt ht7 (by omega); omega)
  have HD13_q8 := Lib.hid (show q8 ≠ q13 by have := there_lt ht8 (by omega); omega)
  have HD13_q9 := Lib.hid (show q9 ≠ q13 by have := there_lt ht9 (by omega); omega)
  have HD13_q10 := Lib.hid (show q10 ≠ q13 by have := there_lt ht10 (by omega); omega)
  have HD13_q11 := Lib.hid (show q11 ≠ q13 by have := there_lt ht11 (by omega); omega)
  have HD13_q12 := Lib.hid (show q12 ≠ q13 by have := there_lt ht12 (by omega); omega)
  have hq13 : w.heap.size ≤ q13 := by have := hbel0.size; omega
  have E13 := Lib.hid e13; clear e13
  have hb := hJ.all rfl
  have hbel := Below.call hbel hb
  have hm3 := hm3.later hb
  have hm4 := hm4.later hb
  have hm5 := hm5.later hb
  have hm7 := hm7.later hb
  have hm8 := hm8.later hb
  have hm9 := hm9.later hb
  have hm10 := hm10.later hb
  have hm11 := hm11.later hb
  have hm12 := hm12.later hb
  have ht3 := there_later ht3 hb
  have ht4 := there_later ht4 hb
  have ht5 := there_later ht5 hb
  have ht6 := there_later ht6 hb
  have ht7 := there_later ht7 hb
  have ht8 := there_later ht8 hb
  have ht9 := there_later ht9 hb
  have ht10 := there_later ht10 hb
  have ht11 := there_later ht11 hb
  have ht12 := there_later ht12 hb
  have hbel0 := hbel
  clear hJ hG hall hb
  go_upto_region 8 with fail
  refine wp_region_mid (fun u => (v0 :: v1 :: v2 :: u0 0 :: u0 1 :: u0 2 :: u0 3 :: u1 5 :: u2 3 :: u3 5 :: u4 5 :: u5 5 :: u6 3 :: u7 3 :: u 11 :: u1 0 :: u1 1 :: u1 2 :: u1 3 :: u1 4 :: u2 0 :: u2 1 :: u2 2 :: u3 0 :: u3 1 :: u3 2 :: u3 3 :: u3 4 :: u4 0 :: u4 1 :: u4 2 :: u4 3 :: u4 4 :: u5 0 :: u5 1 :: u5 2 :: u5 3 :: u5 4 :: u6 0 :: u6 1 :: u6 2 :: u7 0 :: u7 1 :: u7 2 :: u 0 :: u 1 :: u 2 :: u 3 :: u 4 :: u 5 :: u 6 :: u 7 :: u 8 :: u 9 :: u 10 :: undef :: undef :: undef :: undef :: undef :: undef :: undef :: undef :: undef :: undef :: undef :: undef :: undef :: undef :: undef :: undef :: []).toArray) (Holds [.ptr q3 0, .val rR [X], .ptr q4 16, .val rR [Y'], .val rR [X * Y'], .ptr q4 0, .val rR [X'], .ptr q3 16, .val rR [Y], .val rR [X' * Y], .val rR [(X * Y') + (X' * Y)], .new 16, .st 11 rR [(X * Y') + (X' * Y)]] W7) (Keep [.ptr q3 0, .val rR [X], .ptr q4 16, .val rR [Y'], .val rR [X * Y'], .ptr q4 0, .val rR [X'], .ptr q3 16, .val rR [Y], .val rR [X' * Y], .val rR [(X * Y') + (X' * Y)], .new 16, .st 11 rR [(X * Y') + (X' * Y)]] W7) (fun _ => undef) (by kernel_rfl) (by kernel_rfl) ?_ (by rfl) Keep.drew (holds_soft (by kernel_rfl)) ?_ ?_
  · intro u i v h
    rcases i with _ | _ | _ | _ | _ | _ | _ | _ | _ | _ | _ | _ | _ | i
    all_goals first | (simp [Act.put, putV]; done) | (exfalso; simp at h; omega)
  · intro hs
    refine ⟨?_, ?_, ?_, ?_, ?_, ?_, ?_, ?_, ?_, ?_, ?_, ?_, ?_, trivial⟩
    · exact step_field hs (wants_none rfl) rfl rfl (fun _ => E3.out) (field_Pt0 _)
    · exact step_loadF 0 q3 0 hs (wants_none rfl) rfl rfl tyFe (fun _ => rfl) rfl (by kernel_rfl) hm3.lt (hm3.fld 0 1) (noSto_apart (by kernel_rfl))
    · exact step_field hs (wants_none rfl) rfl rfl (fun _ => E4.out) (field_Pt1 _)
    · exact step_loadF 2 q4 16 hs (wants_none rfl) rfl rfl tyFe (fun _ => rfl) rfl (by kernel_rfl) hm4.lt (hm4.fld 1 1) (noSto_apart (by kernel_rfl))
    · refine step_call hs (wants_none rfl) rfl fun L u W hJ hG hL hdep K hK => ?_
      have a0 := (show IsFs rR (u 1) [X] from hG 1 (hdep 1 (by kernel_rfl)))
      have a1 := (show IsFs rR (u 3) [Y'] from hG 3 (hdep 3 (by kernel_rfl)))
      go_simp
      go_at_call 50
      (with_reducible refine (kMul a0 a1 _).mono ?_); rintro e w1 ⟨r, rfl, hr, hb⟩
      have hk := hK.out _ _ hr hb
      exact hk
    · exact step_field hs (wants_none rfl) rfl rfl (fun _ => E4.out) (field_Pt0 _)
    · exact step_loadF 5 q4 0 hs (wants_none rfl) rfl rfl tyFe (fun _ => rfl) rfl (by kernel_rfl) hm4.lt (hm4.fld 0 1) (noSto_apart (by kernel_rfl))
    · exact step_field hs (wants_none rfl) rfl rfl (fun _ => E3.out) (field_Pt1 _)
    · exact step_loadF 7 q3 16 hs (wants_none rfl) rfl rfl tyFe (fun _ => rfl) rfl (by kernel_rfl) hm3.lt (hm3.fld 1 1) (noSto_apart (by kernel_rfl))
    · refine step_call hs (wants_none rfl) rfl fun L u W hJ hG hL hdep K hK => ?_
      have a0 := (show IsFs rR (u 6) [X'] from hG 6 (hdep 6 (by kernel_rfl)))
      have a1 := (show IsFs rR (u 8) [Y] from hG 8 (hdep 8 (by kernel_rfl)))
      go_simp
      go_at_call 50
      (with_reducible refine (kMul a0 a1 _).mono ?_); rintro e w1 ⟨r, rfl, hr, hb⟩
      have hk := hK.out _ _ hr hb
      exact hk
    · refine step_call hs (wants_none rfl) rfl fun L u W hJ hG hL hdep K hK => ?_
      have a0 := (show IsFs rR (u 4) [X * Y'] from hG 4 (hdep 4 (by kernel_rfl)))
      have a1 := (show IsFs rR (u 9) [X' * Y] from hG 9 (hdep 9 (by kernel_rfl)))
      go_simp
      go_at_call 54
      (with_reducible refine (kAdd a0 a1 _).mono ?_); rintro e w1 ⟨r, rfl, hr, hb⟩
      have hk := hK.out _ _ hr hb
      exact hk
    · exact step_alloc hs (wants_none rfl) rfl rfl (by omega) rfl allocFe
    · exact step_store 11 hs (by kernel_rfl) (wants_none rfl) rfl rfl rfl (by kernel_rfl) (by kernel_rfl) (by kernel_rfl) (by kernel_rfl) (fun _ => rfl) (gives_op 10 rfl (by kernel_rfl) (fun _ => rfl)) tyFe rfl
  intro L8 u8 W8 hall hJ hG
  obtain ⟨q14, e14, hq14, _, ht14⟩ := (show ∃ g, u8 11 = .pointer (some ⟨g, 0, none⟩) ∧ W7.heap.size ≤ g ∧ 0 < 16 ∧ W8.there g 0 16 from hG 11 (by simp))
  have hm14 : HasFs rR W8 q14 0 [(X * Y') + (X' * Y)] := by
    obtain ⟨g, e, _, h⟩ := (show ∃ g, u8 11 = .pointer (some ⟨g, 0, none⟩) ∧ W7.heap.size ≤ g ∧ HasFs rR W8 g 0 [(X * Y') + (X' * Y)] from hG 12 (by simp))
    rw [e14] at e; cases e; exact h
  have HD14_q3 := Lib.hid (show q3 ≠ q14 by have := there_lt ht3 (by omega); omega)
  have HD14_q4 := Lib.hid (show q4 ≠ q14 by have := there_lt ht4 (by omega); omega)
  have HD14_q5 := Lib.hid (show q5 ≠ q14 by have := there_lt ht5 (by omega); omega)
  have HD14_q6 := Lib.hid (show q6 ≠ q14 by have := there_lt ht6 (by omega); omega)
  have HD14_q7 := Lib.hid (show q7 ≠ q14 by have := there_lt ht7 (by omega); omega)
  have HD14_q8 := Lib.hid (show q8 ≠ q14 by have := there_lt ht8 (by omega); omega)
  have HD14_q9 := Lib.hid (show q9 ≠ q14 by have := there_lt ht9 (by omega); omega)
  have HD14_q10 := Lib.hid (show q10 ≠ q14 by have := there_lt ht10 (by omega); omega)
  have HD14_q11 := Lib.hid (show q11 ≠ q14 by have := there_lt ht11 (by omega); omega)
  have HD14_q12 := Lib.hid (show q12 ≠ q14 by have := there_lt ht12 (by omega); omega)
  have HD14_q13 := Lib.hid (show q13 ≠ q14 by have := there_lt ht13 (by omega); omega)
  have hq14 : w.heap.size ≤ q14 := by have := hbel0.size; omega
  have E14 := Lib.hid e14; clear e14
  have hb := hJ.all rfl
  have hbel := Below.call hbel hb
  have hm3 := hm3.later hb
  have hm4 := hm4.later hb
  have hm5 := hm5.later hb
  have hm7 := hm7.later hb
  have hm8 := hm8.later hb
  have hm9 := hm9.later hb
  have hm10 := hm10.later hb
  have hm11 := hm11.later hb
  have hm12 := hm12.later hb
  have hm13 := hm13.later hb
  have ht3 := there_later ht3 hb
  have ht4 := there_later ht4 hb
  have ht5 := there_later ht5 hb
  have ht6 := there_later ht6 hb
  have ht7 := there_later ht7 hb
  have ht8 := there_later ht8 hb
  have ht9 := there_later ht9 hb
  have ht10 := there_later ht10 hb
  have ht11 := there_later ht11 hb
  have ht12 := there_later ht12 hb
  have ht13 := there_later ht13 hb
  have hbel0 := hbel
  clear hJ hG hall hb
  go_upto_region 9 with fail
  refine wp_region_mid (fun u => (v0 :: v1 :: v2 :: u0 0 :: u0 1 :: u0 2 :: u0 3 :: u1 5 :: u2 3 :: u3 5 :: u4 5 :: u5 5 :: u6 3 :: u7 3 :: u8 11 :: u1 0 :: u1 1 :: u1 2 :: u1 3 :: u1 4 :: u2 0 :: u2 1 :: u2 2 :: u3 0 :: u3 1 :: u3 2 :: u3 3 :: u3 4 :: u4 0 :: u4 1 :: u4 2 :: u4 3 :: u4 4 :: u5 0 :: u5 1 :: u5 2 :: u5 3 :: u5 4 :: u6 0 :: u6 1 :: u6 2 :: u7 0 :: u7 1 :: u7 2 :: u8 0 :: u8 1 :: u8 2 :: u8 3 :: u8 4 :: u8 5 :: u8 6 :: u8 7 :: u8 8 :: u8 9 :: u8 10 :: u 0 :: u 1 :: u 2 :: u 3 :: u 4 :: u 5 :: u 6 :: u 7 :: u 8 :: u 9 :: u 10 :: u 11 :: u 12 :: u 13 :: u 14 :: u 15 :: []).toArray) (Holds [.val rR [Z * Z'], .val rR [((Z * Z') * (Z * Z')) - (D * ((X * X') * (Y * Y')))], .val rR [(Z * Z') * (((Z * Z') * (Z * Z')) - (D * ((X * X') * (Y * Y'))))], .val rR [(X * Y') + (X' * Y)], .val rR [((Z * Z') * (((Z * Z') * (Z * Z')) - (D * ((X * X') * (Y * Y'))))) * ((X * Y') + (X' * Y))], .val rR [Z * Z'], .val rR [((Z * Z') * (Z * Z')) + (D * ((X * X') * (Y * Y')))], .val rR [(Z * Z') * (((Z * Z') * (Z * Z')) + (D * ((X * X') * (Y * Y'))))], .val rR [Y * Y'], .val rR [X * X'], .val rR [(Y * Y') + (X * X')], .val rR [((Z * Z') * (((Z * Z') * (Z * Z')) + (D * ((X * X') * (Y * Y'))))) * ((Y * Y') + (X * X'))], .val rR [((Z * Z') * (Z * Z')) - (D * ((X * X') * (Y * Y')))], .val rR [((Z * Z') * (Z * Z')) + (D * ((X * X') * (Y * Y')))], .val rR [(((Z * Z') * (Z * Z')) - (D * ((X * X') * (Y * Y')))) * (((Z * Z') * (Z * Z')) + (D * ((X * X') * (Y * Y'))))], .val rR [((Z * Z') * (((Z * Z') * (Z * Z')) - (D * ((X * X') * (Y * Y'))))) * ((X * Y') + (X' * Y)), ((Z * Z') * (((Z * Z') * (Z * Z')) + (D * ((X * X') * (Y * Y'))))) * ((Y * Y') + (X * X')), (((Z * Z') * (Z * Z')) - (D * ((X * X') * (Y * Y')))) * (((Z * Z') * (Z * Z')) + (D * ((X * X') * (Y * Y'))))], .sto q6 rR [((Z * Z') * (((Z * Z') * (Z * Z')) - (D * ((X * X') * (Y * Y'))))) * ((X * Y') + (X' * Y)), ((Z * Z') * (((Z * Z') * (Z * Z')) + (D * ((X * X') * (Y * Y'))))) * ((Y * Y') + (X * X')), (((Z * Z') * (Z * Z')) - (D * ((X * X') * (Y * Y')))) * (((Z * Z') * (Z * Z')) + (D * ((X * X') * (Y * Y'))))]] W8) (Keep [.val rR [Z * Z'], .val rR [((Z * Z') * (Z * Z')) - (D * ((X * X') * (Y * Y')))], .val rR [(Z * Z') * (((Z * Z') * (Z * Z')) - (D * ((X * X') * (Y * Y'))))], .val rR [(X * Y') + (X' * Y)], .val rR [((Z * Z') * (((Z * Z') * (Z * Z')) - (D * ((X * X') * (Y * Y'))))) * ((X * Y') + (X' * Y))], .val rR [Z * Z'], .val rR [((Z * Z') * (Z * Z')) + (D * ((X * X') * (Y * Y')))], .val rR [(Z * Z') * (((Z * Z') * (Z * Z')) + (D * ((X * X') * (Y * Y'))))], .val rR [Y * Y'], .val rR [X * X'], .val rR [(Y * Y') + (X * X')], .val rR [((Z * Z') * (((Z * Z') * (Z * Z')) + (D * ((X * X') * (Y * Y'))))) * ((Y * Y') + (X * X'))], .val rR [((Z * Z') * (Z * Z')) - (D * ((X * X') * (Y * Y')))], .val rR [((Z * Z') * (Z * Z')) + (D * ((X * X') * (Y * Y')))], .val rR [(((Z * Z') * (Z * Z')) - (D * ((X * X') * (Y * Y')))) * (((Z * Z') * (Z * Z')) + (D * ((X * X') * (Y * Y'))))], .val rR [((Z * Z') * (((Z * Z') * (Z * Z')) - (D * ((X * X') * (Y * Y'))))) * ((X * Y') + (X' * Y)), ((Z * Z') * (((Z * Z') * (Z * Z')) + (D * ((X * X') * (Y * Y'))))) * ((Y * Y') + (X * X')), (((Z * Z') * (Z * Z')) - (D * ((X * X') * (Y * Y')))) * (((Z * Z') * (Z * Z')) + (D * ((X * X') * (Y * Y'))))], .sto q6 rR [((Z * Z') * (((Z * Z') * (Z * Z')) - (D * ((X * X') * (Y * Y'))))) * ((X * Y') + (X' * Y)), ((Z * Z') * (((Z * Z') * (Z * Z')) + (D * ((X * X') * (Y * Y'))))) * ((Y * Y') + (X * X')), (((Z * Z') * (Z * Z')) - (D * ((X * X') * (Y * Y')))) * (((Z * Z') * (Z * Z')) + (D * ((X * X') * (Y * Y'))))]] W8) (fun _ => undef) (by kernel_rfl) (by kernel_rfl) ?_ (by rfl) Keep.drew (holds_soft (by kernel_rfl)) ?_ ?_
  · intro u i v h
    rcases i with _ | _ | _ | _ | _ | _ | _ | _ | _ | _ | _ | _ | _ | _ | _ | _ | _ | i
    all_goals first | (simp [Act.put, putV]; done) | (exfalso; simp at h; omega)
  · intro hs
    refine ⟨?_, ?_, ?_, ?_, ?_, ?_, ?_, ?_, ?_, ?_, ?_, ?_, ?_, ?_, ?_, ?_, ?_, trivial⟩
    · exact step_load q7 0 hs (wants_none rfl) rfl rfl tyFe (fun _ => E7.out) hm7.lt hm7 (fun k g hk => by rcases k with _ | _ | _ | _ | _ | _ | _ | _ | _ | _ | _ | _ | _ | _ | _ | _ | _ | k <;> first | (cases hk; done) | (cases hk; exact .inr HD7_q6.out))
    · exact step_load q12 0 hs (wants_none rfl) rfl rfl tyFe (fun _ => E12.out) hm12.lt hm12 (fun k g hk => by rcases k with _ | _ | _ | _ | _ | _ | _ | _ | _ | _ | _ | _ | _ | _ | _ | _ | _ | k <;> first | (cases hk; done) | (cases hk; exact .inr HD12_q6.out))
    · refine step_call hs (wants_none rfl) rfl fun L u W hJ hG hL hdep K hK => ?_
      have a0 := (show IsFs rR (u 0) [Z * Z'] from hG 0 (hdep 0 (by kernel_rfl)))
      have a1 := (show IsFs rR (u 1) [((Z * Z') * (Z * Z')) - (D * ((X * X') * (Y * Y')))] from hG 1 (hdep 1 (by kernel_rfl)))
      go_simp
      go_at_call 50
      (with_reducible refine (kMul a0 a1 _).mono ?_); rintro e w1 ⟨r, rfl, hr, hb⟩
      have hk := hK.out _ _ hr hb
      exact hk
    · exact step_load q14 0 hs (wants_none rfl) rfl rfl tyFe (fun _ => E14.out) hm14.lt hm14 (fun k g hk => by rcases k with _ | _ | _ | _ | _ | _ | _ | _ | _ | _ | _ | _ | _ | _ | _ | _ | _ | k <;> first | (cases hk; done) | (cases hk; exact .inr HD14_q6.out))
    · refine step_call hs (wants_none rfl) rfl fun L u W hJ hG hL hdep K hK => ?_
      have a0 := (show IsFs rR (u 2) [(Z * Z') * (((Z * Z') * (Z * Z')) - (D * ((X * X') * (Y * Y'))))] from hG 2 (hdep 2 (by kernel_rfl)))
      have a1 := (show IsFs rR (u 3) [(X * Y') + (X' * Y)] from hG 3 (hdep 3 (by kernel_rfl)))
      go_simp
      go_at_call 50
      (with_reducible refine (kMul a0 a1 _).mono ?_); rintro e w1 ⟨r, rfl, hr, hb⟩
      have hk := hK.out _ _ hr hb
      exact hk
    · exact step_load q7 0 hs (wants_none rfl) rfl rfl tyFe (fun _ => E7.out) hm7.lt hm7 (fun k g hk => by rcases k with _ | _ | _ | _ | _ | _ | _ | _ | _ | _ | _ | _ | _ | _ | _ | _ | _ | k <;> first | (cases hk; done) | (cases hk; exact .inr HD7_q6.out))
    · exact step_load q13 0 hs (wants_none rfl) rfl rfl tyFe (fun _ => E13.out) hm13.lt hm13 (fun k g hk => by rcases k with _ | _ | _ | _ | _ | _ | _ | _ | _ | _ | _ | _ | _ | _ | _ | _ | _ | k <;> first | (cases hk; done) | (cases hk; exact .inr HD13_q6.out))
    · refine step_call hs (wants_none rfl) rfl fun L u W hJ hG hL hdep K hK => ?_
      have a0 := (show IsFs rR (u 5) [Z * Z'] from hG 5 (hdep 5 (by kernel_rfl)))
      have a1 := (show IsFs rR (u 6) [((Z * Z') * (Z * Z')) + (D * ((X * X') * (Y * Y')))] from hG 6 (hdep 6 (by kernel_rfl)))
      go_simp
      go_at_call 50
      (with_reducible refine (kMul a0 a1 _).mono ?_); rintro e w1 ⟨r, rfl, hr, hb⟩
      have hk := hK.out _ _ hr hb
      exact hk
    · exact step_load q10 0 hs (wants_none rfl) rfl rfl tyFe (fun _ => E10.out) hm10.lt hm10 (fun k g hk => by rcases k with _ | _ | _ | _ | _ | _ | _ | _ | _ | _ | _ | _ | _ | _ | _ | _ | _ | k <;> first | (cases hk; done) | (cases hk; exact .inr HD10_q6.out))
    · exact step_load q9 0 hs (wants_none rfl) rfl rfl tyFe (fun _ => E9.out) hm9.lt hm9 (fun k g hk => by rcases k with _ | _ | _ | _ | _ | _ | _ | _ | _ | _ | _ | _ | _ | _ | _ | _ | _ | k <;> first | (cases hk; done) | (cases hk; exact .inr HD9_q6.out))
    · refine step_call hs (wants_none rfl) rfl fun L u W hJ hG hL hdep K hK => ?_
      have a0 := (show IsFs rR (u 8) [Y * Y'] from hG 8 (hdep 8 (by kernel_rfl)))
      have a1 := (show IsFs rR (u 9) [X * X'] from hG 9 (hdep 9 (by kernel_rfl)))
      go_simp
      go_at_call 54
      (with_reducible refine (kAdd a0 a1 _).mono ?_); rintro e w1 ⟨r, rfl, hr, hb⟩
      have hk := hK.out _ _ hr hb
      exact hk
    · refine step_call hs (wants_none rfl) rfl fun L u W hJ hG hL hdep K hK => ?_
      have a0 := (show IsFs rR (u 7) [(Z * Z') * (((Z * Z') * (Z * Z')) + (D * ((X * X') * (Y * Y'))))] from hG 7 (hdep 7 (by kernel_rfl)))
      have a1 := (show IsFs rR (u 10) [(Y * Y') + (X * X')] from hG 10 (hdep 10 (by kernel_rfl)))
      go_simp
      go_at_call 50
      (with_reducible refine (kMul a0 a1 _).mono ?_); rintro e w1 ⟨r, rfl, hr, hb⟩
      have hk := hK.out _ _ hr hb
      exact hk
    · exact step_load q12 0 hs (wants_none rfl) rfl rfl tyFe (fun _ => E12.out) hm12.lt hm12 (fun k g hk => by rcases k with _ | _ | _ | _ | _ | _ | _ | _ | _ | _ | _ | _ | _ | _ | _ | _ | _ | k <;> first | (cases hk; done) | (cases hk; exact .inr HD12_q6.out))
    · exact step_load q13 0 hs (wants_none rfl) rfl rfl tyFe (fun _ => E13.out) hm13.lt hm13 (fun k g hk => by rcases k with _ | _ | _ | _ | _ | _ | _ | _ | _ | _ | _ | _ | _ | _ | _ | _ | _ | k <;> first | (cases hk; done) | (cases hk; exact .inr HD13_q6.out))
    · refine step_call hs (wants_none rfl) rfl fun L u W hJ hG hL hdep K hK => ?_
      have a0 := (show IsFs rR (u 12) [((Z * Z') * (Z * Z')) - (D * ((X * X') * (Y * Y')))] from hG 12 (hdep 12 (by kernel_rfl)))
      have a1 := (show IsFs rR (u 13) [((Z * Z') * (Z * Z')) + (D * ((X * X') * (Y * Y')))] from hG 13 (hdep 13 (by kernel_rfl)))
      go_simp
      go_at_call 50
      (with_reducible refine (kMul a0 a1 _).mono ?_); rintro e w1 ⟨r, rfl, hr, hb⟩
      have hk := hK.out _ _ hr hb
      exact hk
    · refine step_pure hs (wants_none rfl) rfl fun L u W hG hdep => ?_
      have a0 := (show IsFs rR (u 4) [((Z * Z') * (((Z * Z') * (Z * Z')) - (D * ((X * X') * (Y * Y'))))) * ((X * Y') + (X' * Y))] from hG 4 (hdep 4 (by kernel_rfl)))
      have a1 := (show IsFs rR (u 11) [((Z * Z') * (((Z * Z') * (Z * Z')) + (D * ((X * X') * (Y * Y'))))) * ((Y * Y') + (X * X'))] from hG 11 (hdep 11 (by kernel_rfl)))
      have a2 := (show IsFs rR (u 14) [(((Z * Z') * (Z * Z')) - (D * ((X * X') * (Y * Y')))) * (((Z * Z') * (Z * Z')) + (D * ((X * X') * (Y * Y'))))] from hG 14 (hdep 14 (by kernel_rfl)))
      obtain ⟨r, hr, hx⟩ := build_Pt a0 a1 a2 W
      exact ⟨r, run_build3 rfl hr, hx⟩
    · refine step_storeO q6 48 hs (wants_none rfl) rfl rfl (by kernel_rfl) (fun k hk => ?_) (fun _ => E6.out) (there_lt ht6 (by omega)) ht6 (gives_op 15 rfl (by kernel_rfl) (fun _ => rfl)) tyPt3 rfl
      rcases k with _ | _ | _ | _ | _ | _ | _ | _ | _ | _ | _ | _ | _ | _ | _ | _ | _ | k
      all_goals first | (exact absurd rfl hk) | (intro e; cases e; done)
  intro L9 u9 W9 hall hJ hG
  have hb : Below w.heap.size W8 W9 := hJ.below (by have := hbel.size; omega) (fun k b hf => by rcases k with _ | _ | _ | _ | _ | _ | _ | _ | _ | _ | _ | _ | _ | _ | _ | _ | _ | k <;> first | (cases hf; done) | (cases hf; omega))
  have hbel := hbel.trans hb
  have hm3 := hm3.blk (hJ.block _ (hm3.lt) (fun k hk => by rcases k with _ | _ | _ | _ | _ | _ | _ | _ | _ | _ | _ | _ | _ | _ | _ | _ | _ | k <;> first | (cases hk; done) | (cases hk; exact absurd rfl (Ne.symm HN3_6.out))))
  have hm4 := hm4.blk (hJ.block _ (hm4.lt) (fun k hk => by rcases k with _ | _ | _ | _ | _ | _ | _ | _ | _ | _ | _ | _ | _ | _ | _ | _ | _ | k <;> first | (cases hk; done) | (cases hk; exact absurd rfl (Ne.symm HN4_6.out))))
  have hm5 := hm5.blk (hJ.block _ (hm5.lt) (fun k hk => by rcases k with _ | _ | _ | _ | _ | _ | _ | _ | _ | _ | _ | _ | _ | _ | _ | _ | _ | k <;> first | (cases hk; done) | (cases hk; exact absurd rfl (Ne.symm HN5_6.out))))
  have hm7 := hm7.blk (hJ.block _ (hm7.lt) (fun k hk => by rcases k with _ | _ | _ | _ | _ | _ | _ | _ | _ | _ | _ | _ | _ | _ | _ | _ | _ | k <;> first | (cases hk; done) | (cases hk; exact absurd rfl HD7_q6.out)))
  have hm8 := hm8.blk (hJ.block _ (hm8.lt) (fun k hk => by rcases k with _ | _ | _ | _ | _ | _ | _ | _ | _ | _ | _ | _ | _ | _ | _ | _ | _ | k <;> first | (cases hk; done) | (cases hk; exact absurd rfl HD8_q6.out)))
  have hm9 := hm9.blk (hJ.block _ (hm9.lt) (fun k hk => by rcases k with _ | _ | _ | _ | _ | _ | _ | _ | _ | _ | _ | _ | _ | _ | _ | _ | _ | k <;> first | (cases hk; done) | (cases hk; exact absurd rfl HD9_q6.out)))
  have hm10 := hm10.blk (hJ.block _ (hm10.lt) (fun k hk => by rcases k with _ | _ | _ | _ | _ | _ | _ | _ | _ | _ | _ | _ | _ | _ | _ | _ | _ | k <;> first | (cases hk; done) | (cases hk; exact absurd rfl HD10_q6.out)))
  have hm11 := hm11.blk (hJ.block _ (hm11.lt) (fun k hk => by rcases k with _ | _ | _ | _ | _ | _ | _ | _ | _ | _ | _ | _ | _ | _ | _ | _ | _ | k <;> first | (cases hk; done) | (cases hk; exact absurd rfl HD11_q6.out)))
  have hm12 := hm12.blk (hJ.block _ (hm12.lt) (fun k hk => by rcases k with _ | _ | _ | _ | _ | _ | _ | _ | _ | _ | _ | _ | _ | _ | _ | _ | _ | k <;> first | (cases hk; done) | (cases hk; exact absurd rfl HD12_q6.out)))
  have hm13 := hm13.blk (hJ.block _ (hm13.lt) (fun k hk => by rcases k with _ | _ | _ | _ | _ | _ | _ | _ | _ | _ | _ | _ | _ | _ | _ | _ | _ | k <;> first | (cases hk; done) | (cases hk; exact absurd rfl HD13_q6.out)))
  have hm14 := hm14.blk (hJ.block _ (hm14.lt) (fun k hk => by rcases k with _ | _ | _ | _ | _ | _ | _ | _ | _ | _ | _ | _ | _ | _ | _ | _ | _ | k <;> first | (cases hk; done) | (cases hk; exact absurd rfl HD14_q6.out)))
  have ht3 := there_blk ht3 (hJ.block _ (there_lt ht3 (by omega)) (fun k hk => by rcases k with _ | _ | _ | _ | _ | _ | _ | _ | _ | _ | _ | _ | _ | _ | _ | _ | _ | k <;> first | (cases hk; done) | (cases hk; exact absurd rfl (Ne.symm HN3_6.out))))
  have ht4 := there_blk ht4 (hJ.block _ (there_lt ht4 (by omega)) (fun k hk => by rcases k with _ | _ | _ | _ | _ | _ | _ | _ | _ | _ | _ | _ | _ | _ | _ | _ | _ | k <;> first | (cases hk; done) | (cases hk; exact absurd rfl (Ne.symm HN4_6.out))))
  have ht5 := there_blk ht5 (hJ.block _ (there_lt ht5 (by omega)) (fun k hk => by rcases k with _ | _ | _ | _ | _ | _ | _ | _ | _ | _ | _ | _ | _ | _ | _ | _ | _ | k <;> first | (cases hk; done) | (cases hk; exact absurd rfl (Ne.symm HN5_6.out))))
  have ht7 := there_blk ht7 (hJ.block _ (there_lt ht7 (by omega)) (fun k hk => by rcases k with _ | _ | _ | _ | _ | _ | _ | _ | _ | _ | _ | _ | _ | _ | _ | _ | _ | k <;> first | (cases hk; done) | (cases hk; exact absurd rfl HD7_q6.out)))
  have ht8 := there_blk ht8 (hJ.block _ (there_lt ht8 (by omega)) (fun k hk => by rcases k with _ | _ | _ | _ | _ | _ | _ | _ | _ | _ | _ | _ | _ | _ | _ | _ | _ | k <;> first | (cases hk; done) | (cases hk; exact absurd rfl HD8_q6.out)))
  have ht9 := there_blk ht9 (hJ.block _ (there_lt ht9 (by omega)) (fun k hk => by rcases k with _ | _ | _ | _ | _ | _ | _ | _ | _ | _ | _ | _ | _ | _ | _ | _ | _ | k <;> first | (cases hk; done) | (cases hk; exact absurd rfl HD9_q6.out)))
  have ht10 := there_blk ht10 (hJ.block _ (there_lt ht10 (by omega)) (fun k hk => by rcases k with _ | _ | _ | _ | _ | _ | _ | _ | _ | _ | _ | _ | _ | _ | _ | _ | _ | k <;> first | (cases hk; done) | (cases hk; exact absurd rfl HD10_q6.out)))
  have ht11 := there_blk ht11 (hJ.block _ (there_lt ht11 (by omega)) (fun k hk => by rcases k with _ | _ | _ | _ | _ | _ | _ | _ | _ | _ | _ | _ | _ | _ | _ | _ | _ | k <;> first | (cases hk; done) | (cases hk; exact absurd rfl HD11_q6.out)))
  have ht12 := there_blk ht12 (hJ.block _ (there_lt ht12 (by omega)) (fun k hk => by rcases k with _ | _ | _ | _ | _ | _ | _ | _ | _ | _ | _ | _ | _ | _ | _ | _ | _ | k <;> first | (cases hk; done) | (cases hk; exact absurd rfl HD12_q6.out)))
  have ht13 := there_blk ht13 (hJ.block _ (there_lt ht13 (by omega)) (fun k hk => by rcases k with _ | _ | _ | _ | _ | _ | _ | _ | _ | _ | _ | _ | _ | _ | _ | _ | _ | k <;> first | (cases hk; done) | (cases hk; exact absurd rfl HD13_q6.out)))
  have ht14 := there_blk ht14 (hJ.block _ (there_lt ht14 (by omega)) (fun k hk => by rcases k with _ | _ | _ | _ | _ | _ | _ | _ | _ | _ | _ | _ | _ | _ | _ | _ | _ | k <;> first | (cases hk; done) | (cases hk; exact absurd rfl HD14_q6.out)))
  obtain ⟨_, hs9_16t, hs9_16⟩ := (show _ ∧ W9.there q6 0 48 ∧ HasFs rR W9 q6 0 [((Z * Z') * (((Z * Z') * (Z * Z')) - (D * ((X * X') * (Y * Y'))))) * ((X * Y') + (X' * Y)), ((Z * Z') * (((Z * Z') * (Z * Z')) + (D * ((X * X') * (Y * Y'))))) * ((Y * Y') + (X * X')), (((Z * Z') * (Z * Z')) - (D * ((X * X') * (Y * Y')))) * (((Z * Z') * (Z * Z')) + (D * ((X * X') * (Y * Y'))))] from hG 16 (by simp))
  have hbel0 := hbel
  clear hJ hG hall hb
  go_wp2
  exact ret_cell1 (R := rR) Try.results62 (by exact E6.out) hs9_16 tyPt3 rfl (fun r hr => ⟨r, rfl, hr, hbel⟩)
theorem kAddD {v0 v1 v2 : Value} {P Q : EP} (h0 : IsFs rQ v0 [P]) (h1 : IsFs rQ v1 [Q]) (h2 : IsFs rR v2 [dE]) (w : World) :
    Calls Try.prog 62 #[v0, v1, v2] w fun e w' => ∃ r, e = .returned r ∧ IsFs rQ r [Cp.add P Q] ∧ Below w.heap.size w w' := by
  obtain ⟨x, y, z, i0, hp⟩ := of_isQ h0
  obtain ⟨x', y', z', i1, hq⟩ := of_isQ h1
  exact (q_add_any i0 i1 h2 w).mono fun _ _ ⟨r, he, hr, hb⟩ => ⟨r, he, isQ hr (Prep.add (c := cuE) hp hq), hb⟩
set_option maxRecDepth 100000 in
set_option maxHeartbeats 4000000 in
theorem kPAdd {v0 v1 : Value} {P Q : EP} (h0 : IsFs rQ v0 [P]) (h1 : IsFs rQ v1 [Q]) (w : World) :
    Calls Try.prog 26 #[v0, v1] w fun e w' => ∃ r, e = .returned r ∧ IsFs rQ r [Cp.add P Q] ∧ Below w.heap.size w w' := by
  go_enter Try.func26, Try.ntmps26
  have hbel : Below w.heap.size w w := Below.refl _ _
  have hbel0 := hbel
  go_upto_region 0 with fail
  refine wp_region_turn (fun u => #[v0, v1, u 0, u 1, u 2, undef, undef, undef, undef]) (Holds [.box rQ [P], .box rQ [Q], .new 48] w) (Keep [.box rQ [P], .box rQ [Q], .new 48] w) (fun _ => undef) ?_ (by rfl) Keep.start (holds_soft (by kernel_rfl)) ?_ ?_
  · intro u i v h
    rcases i with _ | _ | _ | i
    all_goals first | (simp [Act.put, putV]; done) | (exfalso; simp at h; omega)
  · intro hs
    refine ⟨?_, ?_, ?_, trivial⟩
    · exact step_box hs (wants_none rfl) rfl rfl (gives_c h0 (fun _ => rfl))
    · exact step_box hs (wants_none rfl) rfl rfl (gives_c h1 (fun _ => rfl))
    · exact step_alloc hs (wants_none rfl) rfl rfl (by omega) rfl allocPt
  intro L0 u0 W0 hall hJ hG
  obtain ⟨q2, e2, ⟨hq2, _⟩, ht2, hm2⟩ := (show ∃ g, u0 0 = .pointer (some ⟨g, 0, none⟩) ∧ (w.heap.size ≤ g ∧ g < W0.heap.size) ∧ W0.there g 0 48 ∧ HasFs rQ W0 g 0 [P] from hG 0 (by simp))
  have hq2 : w.heap.size ≤ q2 := by have := hbel0.size; omega
  have E2 := Lib.hid e2; clear e2
  obtain ⟨q3, e3, ⟨hq3, _⟩, ht3, hm3⟩ := (show ∃ g, u0 1 = .pointer (some ⟨g, 0, none⟩) ∧ (w.heap.size ≤ g ∧ g < W0.heap.size) ∧ W0.there g 0 48 ∧ HasFs rQ W0 g 0 [Q] from hG 1 (by simp))
  have hq3 : w.heap.size ≤ q3 := by have := hbel0.size; omega
  have E3 := Lib.hid e3; clear e3
  obtain ⟨q4, e4, hq4, _, ht4⟩ := (show ∃ g, u0 2 = .pointer (some ⟨g, 0, none⟩) ∧ w.heap.size ≤ g ∧ 0 < 48 ∧ W0.there g 0 48 from hG 2 (by simp))
  have hq4 : w.heap.size ≤ q4 := by have := hbel0.size; omega
  have E4 := Lib.hid e4; clear e4
  have hb := hJ.all rfl
  have hbel := Below.call hbel hb
  have HN2_3 := Lib.hid (show q2 ≠ q3 from fun e => hJ.apart 0 1 _ (by omega) (hall _ (by simp)) (hall _ (by simp)) rfl rfl (E2.out.trans (by rw [e])) E3.out)
  have HN2_4 := Lib.hid (show q2 ≠ q4 from fun e => hJ.apart 0 2 _ (by omega) (hall _ (by simp)) (hall _ (by simp)) rfl rfl (E2.out.trans (by rw [e])) E4.out)
  have HN3_4 := Lib.hid (show q3 ≠ q4 from fun e => hJ.apart 1 2 _ (by omega) (hall _ (by simp)) (hall _ (by simp)) rfl rfl (E3.out.trans (by rw [e])) E4.out)
  have hbel0 := hbel
  clear hJ hG hall hb
  go_upto_region 1 with fail
  refine wp_region_mid (fun u => #[v0, v1, u0 0, u0 1, u0 2, u 0, u 1, u 2, u 3]) (Holds [.val rQ [P], .val rQ [Q], .val rR [dE], .val rQ [Cp.add P Q], .sto q4 rQ [Cp.add P Q]] W0) (Keep [.val rQ [P], .val rQ [Q], .val rR [dE], .val rQ [Cp.add P Q], .sto q4 rQ [Cp.add P Q]] W0) (fun _ => undef) (by kernel_rfl) (by kernel_rfl) ?_ (by rfl) Keep.drew (holds_soft (by kernel_rfl)) ?_ ?_
  · intro u i v h
    rcases i with _ | _ | _ | _ | _ | i
    all_goals first | (simp [Act.put, putV]; done) | (exfalso; simp at h; omega)
  · intro hs
    refine ⟨?_, ?_, ?_, ?_, ?_, trivial⟩
    · exact step_load q2 0 hs (wants_none rfl) rfl rfl tyPt (fun _ => E2.out) hm2.lt hm2 (fun k g hk => by rcases k with _ | _ | _ | _ | _ | k <;> first | (cases hk; done) | (cases hk; exact .inr (Ne.symm HN2_4.out)))
    · exact step_load q3 0 hs (wants_none rfl) rfl rfl tyPt (fun _ => E3.out) hm3.lt hm3 (fun k g hk => by rcases k with _ | _ | _ | _ | _ | k <;> first | (cases hk; done) | (cases hk; exact .inr (Ne.symm HN3_4.out)))
    · refine step_call hs (wants_none rfl) rfl fun L u W hJ hG hL hdep K hK => ?_
      go_simp
      go_at_call 53
      (with_reducible refine (kCurve _).mono ?_); rintro e w1 ⟨r, rfl, hr, hb⟩
      have hk := hK.out _ _ hr hb
      exact hk
    · refine step_call hs (wants_none rfl) rfl fun L u W hJ hG hL hdep K hK => ?_
      have a0 := (show IsFs rQ (u 0) [P] from hG 0 (hdep 0 (by kernel_rfl)))
      have a1 := (show IsFs rQ (u 1) [Q] from hG 1 (hdep 1 (by kernel_rfl)))
      have a2 := (show IsFs rR (u 2) [dE] from hG 2 (hdep 2 (by kernel_rfl)))
      go_simp
      go_at_call 62
      (with_reducible refine (kAddD a0 a1 a2 _).mono ?_); rintro e w1 ⟨r, rfl, hr, hb⟩
      have hk := hK.out _ _ hr hb
      exact hk
    · refine step_storeO q4 48 hs (wants_none rfl) rfl rfl (by kernel_rfl) (fun k hk => ?_) (fun _ => E4.out) (there_lt ht4 (by omega)) ht4 (gives_op 3 rfl (by kernel_rfl) (fun _ => rfl)) tyPt rfl
      rcases k with _ | _ | _ | _ | _ | k
      all_goals first | (exact absurd rfl hk) | (intro e; cases e; done)
  intro L1 u1 W1 hall hJ hG
  have hb : Below w.heap.size W0 W1 := hJ.below (by have := hbel.size; omega) (fun k b hf => by rcases k with _ | _ | _ | _ | _ | k <;> first | (cases hf; done) | (cases hf; omega))
  have hbel := hbel.trans hb
  have hm2 := hm2.blk (hJ.block _ (hm2.lt) (fun k hk => by rcases k with _ | _ | _ | _ | _ | k <;> first | (cases hk; done) | (cases hk; exact absurd rfl (Ne.symm HN2_4.out))))
  have hm3 := hm3.blk (hJ.block _ (hm3.lt) (fun k hk => by rcases k with _ | _ | _ | _ | _ | k <;> first | (cases hk; done) | (cases hk; exact absurd rfl (Ne.symm HN3_4.out))))
  have ht2 := there_blk ht2 (hJ.block _ (there_lt ht2 (by omega)) (fun k hk => by rcases k with _ | _ | _ | _ | _ | k <;> first | (cases hk; done) | (cases hk; exact absurd rfl (Ne.symm HN2_4.out))))
  have ht3 := there_blk ht3 (hJ.block _ (there_lt ht3 (by omega)) (fun k hk => by rcases k with _ | _ | _ | _ | _ | k <;> first | (cases hk; done) | (cases hk; exact absurd rfl (Ne.symm HN3_4.out))))
  obtain ⟨_, hs1_4t, hs1_4⟩ := (show _ ∧ W1.there q4 0 48 ∧ HasFs rQ W1 q4 0 [Cp.add P Q] from hG 4 (by simp))
  have hbel0 := hbel
  clear hJ hG hall hb
  go_wp2
  exact ret_cell1 (R := rQ) Try.results26 (by exact E4.out) hs1_4 tyPt rfl (fun r hr => ⟨r, rfl, hr, hbel⟩)
set_option maxRecDepth 100000 in
set_option maxHeartbeats 4000000 in
theorem q_neg_any {v0 : Value} {X Y Z : F} (h0 : IsFs rR v0 [X, Y, Z]) (w : World) :
    Calls Try.prog 27 #[v0] w fun e w' => ∃ r, e = .returned r ∧ IsFs rR r [-X, Y, Z] ∧ Below w.heap.size w w' := by
  go_enter Try.func27, Try.ntmps27
  have hbel : Below w.heap.size w w := Below.refl _ _
  have hbel0 := hbel
  go_upto_region 0 with fail
  refine wp_region_turn (fun u => #[v0, u 0, u 1, undef, undef, undef, undef, undef, undef, undef, undef]) (Holds [.box rR [X, Y, Z], .new 48] w) (Keep [.box rR [X, Y, Z], .new 48] w) (fun _ => undef) ?_ (by rfl) Keep.start (holds_soft (by kernel_rfl)) ?_ ?_
  · intro u i v h
    rcases i with _ | _ | i
    all_goals first | (simp [Act.put, putV]; done) | (exfalso; simp at h; omega)
  · intro hs
    refine ⟨?_, ?_, trivial⟩
    · exact step_box hs (wants_none rfl) rfl rfl (gives_c h0 (fun _ => rfl))
    · exact step_alloc hs (wants_none rfl) rfl rfl (by omega) rfl allocPt
  intro L0 u0 W0 hall hJ hG
  obtain ⟨q1, e1, ⟨hq1, _⟩, ht1, hm1⟩ := (show ∃ g, u0 0 = .pointer (some ⟨g, 0, none⟩) ∧ (w.heap.size ≤ g ∧ g < W0.heap.size) ∧ W0.there g 0 48 ∧ HasFs rR W0 g 0 [X, Y, Z] from hG 0 (by simp))
  have hq1 : w.heap.size ≤ q1 := by have := hbel0.size; omega
  have E1 := Lib.hid e1; clear e1
  obtain ⟨q2, e2, hq2, _, ht2⟩ := (show ∃ g, u0 1 = .pointer (some ⟨g, 0, none⟩) ∧ w.heap.size ≤ g ∧ 0 < 48 ∧ W0.there g 0 48 from hG 1 (by simp))
  have hq2 : w.heap.size ≤ q2 := by have := hbel0.size; omega
  have E2 := Lib.hid e2; clear e2
  have hb := hJ.all rfl
  have hbel := Below.call hbel hb
  have HN1_2 := Lib.hid (show q1 ≠ q2 from fun e => hJ.apart 0 1 _ (by omega) (hall _ (by simp)) (hall _ (by simp)) rfl rfl (E1.out.trans (by rw [e])) E2.out)
  have hbel0 := hbel
  clear hJ hG hall hb
  go_upto_region 1 with fail
  refine wp_region_mid (fun u => #[v0, u0 0, u0 1, u 0, u 1, u 2, u 3, u 4, u 5, u 6, u 7]) (Holds [.ptr q1 0, .val rR [X], .val rR [-X], .ptr q1 16, .val rR [Y], .ptr q1 32, .val rR [Z], .val rR [-X, Y, Z], .sto q2 rR [-X, Y, Z]] W0) (Keep [.ptr q1 0, .val rR [X], .val rR [-X], .ptr q1 16, .val rR [Y], .ptr q1 32, .val rR [Z], .val rR [-X, Y, Z], .sto q2 rR [-X, Y, Z]] W0) (fun _ => undef) (by kernel_rfl) (by kernel_rfl) ?_ (by rfl) Keep.drew (holds_soft (by kernel_rfl)) ?_ ?_
  · intro u i v h
    rcases i with _ | _ | _ | _ | _ | _ | _ | _ | _ | i
    all_goals first | (simp [Act.put, putV]; done) | (exfalso; simp at h; omega)
  · intro hs
    refine ⟨?_, ?_, ?_, ?_, ?_, ?_, ?_, ?_, ?_, trivial⟩
    · exact step_field hs (wants_none rfl) rfl rfl (fun _ => E1.out) (field_Pt0 _)
    · exact step_loadF 0 q1 0 hs (wants_none rfl) rfl rfl tyFe (fun _ => rfl) rfl (by kernel_rfl) hm1.lt (hm1.fld 0 1) (fun k g hk => by rcases k with _ | _ | _ | _ | _ | _ | _ | _ | _ | k <;> first | (cases hk; done) | (cases hk; exact .inr (Ne.symm HN1_2.out)))
    · refine step_call hs (wants_none rfl) rfl fun L u W hJ hG hL hdep K hK => ?_
      have a0 := (show IsFs rR (u 1) [X] from hG 1 (hdep 1 (by kernel_rfl)))
      go_simp
      go_at_call 57
      (with_reducible refine (kNeg a0 _).mono ?_); rintro e w1 ⟨r, rfl, hr, hb⟩
      have hk := hK.out _ _ hr hb
      exact hk
    · exact step_field hs (wants_none rfl) rfl rfl (fun _ => E1.out) (field_Pt1 _)
    · exact step_loadF 3 q1 16 hs (wants_none rfl) rfl rfl tyFe (fun _ => rfl) rfl (by kernel_rfl) hm1.lt (hm1.fld 1 1) (fun k g hk => by rcases k with _ | _ | _ | _ | _ | _ | _ | _ | _ | k <;> first | (cases hk; done) | (cases hk; exact .inr (Ne.symm HN1_2.out)))
    · exact step_field hs (wants_none rfl) rfl rfl (fun _ => E1.out) (field_Pt2 _)
    · exact step_loadF 5 q1 32 hs (wants_none rfl) rfl rfl tyFe (fun _ => rfl) rfl (by kernel_rfl) hm1.lt (hm1.fld 2 1) (fun k g hk => by rcases k with _ | _ | _ | _ | _ | _ | _ | _ | _ | k <;> first | (cases hk; done) | (cases hk; exact .inr (Ne.symm HN1_2.out)))
    · refine step_pure hs (wants_none rfl) rfl fun L u W hG hdep => ?_
      have a0 := (show IsFs rR (u 2) [-X] from hG 2 (hdep 2 (by kernel_rfl)))
      have a1 := (show IsFs rR (u 4) [Y] from hG 4 (hdep 4 (by kernel_rfl)))
      have a2 := (show IsFs rR (u 6) [Z] from hG 6 (hdep 6 (by kernel_rfl)))
      obtain ⟨r, hr, hx⟩ := build_Pt a0 a1 a2 W
      exact ⟨r, run_build3 rfl hr, hx⟩
    · refine step_storeO q2 48 hs (wants_none rfl) rfl rfl (by kernel_rfl) (fun k hk => ?_) (fun _ => E2.out) (there_lt ht2 (by omega)) ht2 (gives_op 7 rfl (by kernel_rfl) (fun _ => rfl)) tyPt3 rfl
      rcases k with _ | _ | _ | _ | _ | _ | _ | _ | _ | k
      all_goals first | (exact absurd rfl hk) | (intro e; cases e; done)
  intro L1 u1 W1 hall hJ hG
  have hb : Below w.heap.size W0 W1 := hJ.below (by have := hbel.size; omega) (fun k b hf => by rcases k with _ | _ | _ | _ | _ | _ | _ | _ | _ | k <;> first | (cases hf; done) | (cases hf; omega))
  have hbel := hbel.trans hb
  have hm1 := hm1.blk (hJ.block _ (hm1.lt) (fun k hk => by rcases k with _ | _ | _ | _ | _ | _ | _ | _ | _ | k <;> first | (cases hk; done) | (cases hk; exact absurd rfl (Ne.symm HN1_2.out))))
  have ht1 := there_blk ht1 (hJ.block _ (there_lt ht1 (by omega)) (fun k hk => by rcases k with _ | _ | _ | _ | _ | _ | _ | _ | _ | k <;> first | (cases hk; done) | (cases hk; exact absurd rfl (Ne.symm HN1_2.out))))
  obtain ⟨_, hs1_8t, hs1_8⟩ := (show _ ∧ W1.there q2 0 48 ∧ HasFs rR W1 q2 0 [-X, Y, Z] from hG 8 (by simp))
  have hbel0 := hbel
  clear hJ hG hall hb
  go_wp2
  exact ret_cell1 (R := rR) Try.results27 (by exact E2.out) hs1_8 tyPt3 rfl (fun r hr => ⟨r, rfl, hr, hbel⟩)
theorem neg_num {K : Type} [Lean.Grind.Field K] {p z : K} : -(p * z) = -p * z := by grind
theorem Prep.neg {P : EP} {X Y Z : F} (h : Prep P X Y Z) : Prep P.neg (-X) Y Z := by
  obtain ⟨hz, rfl, rfl⟩ := h
  exact ⟨hz, neg_num, rfl⟩
theorem kPNeg {v0 : Value} {P : EP} (h0 : IsFs rQ v0 [P]) (w : World) :
    Calls Try.prog 27 #[v0] w fun e w' => ∃ r, e = .returned r ∧ IsFs rQ r [Cp.neg P] ∧ Below w.heap.size w w' := by
  obtain ⟨x, y, z, i0, hp⟩ := of_isQ h0
  exact (q_neg_any i0 w).mono fun _ _ ⟨r, he, hr, hb⟩ => ⟨r, he, isQ hr hp.neg, hb⟩
set_option maxRecDepth 100000 in
set_option maxHeartbeats 4000000 in
theorem qsame_0 {v0 v1 : Value} {P Q : EP} {X Y Z X' Y' Z' : F} (h0 : IsFs rR v0 [X, Y, Z]) (h1 : IsFs rR v1 [X', Y', Z']) (hp : Prep P X Y Z) (hq' : Prep Q X' Y' Z') (hx : P.x ≠ Q.x) (w : World) :
    Calls Try.prog 28 #[v0, v1] w fun e w' => e = .returned (.bool false) ∧ Below w.heap.size w w' := by
  have HX := Lib.hid hx; clear hx
  go_enter Try.func28, Try.ntmps28
  have hbel : Below w.heap.size w w := Below.refl _ _
  have hbel0 := hbel
  go_upto_region 0 with fail
  refine wp_region_turn (fun u => #[v0, v1, u 0, u 1, u 2, undef, undef, undef, undef, undef, undef, undef, undef, undef, undef, undef, undef, undef, undef, undef, undef, undef, undef, undef, undef, undef, undef, undef, undef]) (Holds [.box rR [X, Y, Z], .box rR [X', Y', Z'], .oth (fun v => v = .bool false)] w) (Keep [.box rR [X, Y, Z], .box rR [X', Y', Z'], .oth (fun v => v = .bool false)] w) (fun _ => undef) ?_ (by rfl) Keep.start (holds_soft (by kernel_rfl)) ?_ ?_
  · intro u i v h
    rcases i with _ | _ | _ | i
    all_goals first | (simp [Act.put, putV]; done) | (exfalso; simp at h; omega)
  · intro hs
    refine ⟨?_, ?_, ?_, trivial⟩
    · exact step_box hs (wants_none rfl) rfl rfl (gives_c h0 (fun _ => rfl))
    · exact step_box hs (wants_none rfl) rfl rfl (gives_c h1 (fun _ => rfl))
    · exact step_pureO hs (wants_none rfl) rfl fun L u W hG hdep => ⟨_, run_assign rfl, rfl⟩
  intro L0 u0 W0 hall hJ hG
  obtain ⟨q2, e2, ⟨hq2, _⟩, ht2, hm2⟩ := (show ∃ g, u0 0 = .pointer (some ⟨g, 0, none⟩) ∧ (w.heap.size ≤ g ∧ g < W0.heap.size) ∧ W0.there g 0 48 ∧ HasFs rR W0 g 0 [X, Y, Z] from hG 0 (by simp))
  have hq2 : w.heap.size ≤ q2 := by have := hbel0.size; omega
  have E2 := Lib.hid e2; clear e2
  obtain ⟨q3, e3, ⟨hq3, _⟩, ht3, hm3⟩ := (show ∃ g, u0 1 = .pointer (some ⟨g, 0, none⟩) ∧ (w.heap.size ≤ g ∧ g < W0.heap.size) ∧ W0.there g 0 48 ∧ HasFs rR W0 g 0 [X', Y', Z'] from hG 1 (by simp))
  have hq3 : w.heap.size ≤ q3 := by have := hbel0.size; omega
  have E3 := Lib.hid e3; clear e3
  have hb := hJ.all rfl
  have hbel := Below.call hbel hb
  have HN2_3 := Lib.hid (show q2 ≠ q3 from fun e => hJ.apart 0 1 _ (by omega) (hall _ (by simp)) (hall _ (by simp)) rfl rfl (E2.out.trans (by rw [e])) E3.out)
  have HC4 := Lib.hid (show u0 2 = .bool false from hG 2 (by simp))
  have hbel0 := hbel
  clear hJ hG hall hb
  go_upto_region 1 with fail
  refine wp_region_mid (fun u => #[v0, v1, u0 0, u0 1, u 24, u 0, u 1, u 2, u 3, u 4, u 5, u 6, u 7, u 8, u 9, u 10, u 11, u 12, u 13, u 14, u 15, u 16, u 17, u 18, u 19, u 20, u 21, u 22, u 23]) (Holds [.ptr q2 0, .val rR [X], .ptr q3 32, .val rR [Z'], .val rR [X * Z'], .ptr q3 0, .val rR [X'], .ptr q2 32, .val rR [Z], .val rR [X' * Z], .oth (fun v => v = .bool false), .oth (fun v => v = .bool false), .oth (fun v => v = undef), .oth (fun v => v = undef), .oth (fun v => v = undef), .oth (fun v => v = undef), .oth (fun v => v = undef), .oth (fun v => v = undef), .oth (fun v => v = undef), .oth (fun v => v = undef), .oth (fun v => v = undef), .oth (fun v => v = undef), .oth (fun v => v = undef), .oth (fun v => v = .bool false), .oth (fun v => v = .bool false)] W0) (Keep [.ptr q2 0, .val rR [X], .ptr q3 32, .val rR [Z'], .val rR [X * Z'], .ptr q3 0, .val rR [X'], .ptr q2 32, .val rR [Z], .val rR [X' * Z], .oth (fun v => v = .bool false), .oth (fun v => v = .bool false), .oth (fun v => v = undef), .oth (fun v => v = undef), .oth (fun v => v = undef), .oth (fun v => v = undef), .oth (fun v => v = undef), .oth (fun v => v = undef), .oth (fun v => v = undef), .oth (fun v => v = undef), .oth (fun v => v = undef), .oth (fun v => v = undef), .oth (fun v => v = undef), .oth (fun v => v = .bool false), .oth (fun v => v = .bool false)] W0) (fun k => ((undef :: undef :: undef :: undef :: undef :: undef :: undef :: undef :: undef :: undef :: undef :: undef :: undef :: undef :: undef :: undef :: undef :: undef :: undef :: undef :: undef :: undef :: undef :: undef :: u0 2 :: []) : List Value).getD k undef) (by kernel_rfl) (by kernel_rfl) ?_ (by rfl) Keep.drew (holds_soft (by kernel_rfl)) ?_ ?_
  · intro u i v h
    rcases i with _ | _ | _ | _ | _ | _ | _ | _ | _ | _ | _ | _ | _ | _ | _ | _ | _ | _ | _ | _ | _ | _ | _ | _ | _ | i
    iterate 25 kernel_rfl
    exfalso; simp at h; omega
  · intro hs
    refine ⟨?_, ?_, ?_, ?_, ?_, ?_, ?_, ?_, ?_, ?_, ?_, ?_, ?_, ?_, ?_, ?_, ?_, ?_, ?_, ?_, ?_, ?_, ?_, ?_, ?_, trivial⟩
    · exact step_field hs (wants_none rfl) rfl rfl (fun _ => E2.out) (field_Pt0 _)
    · exact step_loadF 0 q2 0 hs (wants_none rfl) rfl rfl tyFe (fun _ => rfl) rfl (by kernel_rfl) hm2.lt (hm2.fld 0 1) (noSto_apart (by kernel_rfl))
    · exact step_field hs (wants_none rfl) rfl rfl (fun _ => E3.out) (field_Pt2 _)
    · exact step_loadF 2 q3 32 hs (wants_none rfl) rfl rfl tyFe (fun _ => rfl) rfl (by kernel_rfl) hm3.lt (hm3.fld 2 1) (noSto_apart (by kernel_rfl))
    · refine step_call hs (wants_none rfl) rfl fun L u W hJ hG hL hdep K hK => ?_
      have a0 := (show IsFs rR (u 1) [X] from hG 1 (hdep 1 (by kernel_rfl)))
      have a1 := (show IsFs rR (u 3) [Z'] from hG 3 (hdep 3 (by kernel_rfl)))
      go_simp
      go_at_call 50
      (with_reducible refine (kMul a0 a1 _).mono ?_); rintro e w1 ⟨r, rfl, hr, hb⟩
      have hk := hK.out _ _ hr hb
      exact hk
    · exact step_field hs (wants_none rfl) rfl rfl (fun _ => E3.out) (field_Pt0 _)
    · exact step_loadF 5 q3 0 hs (wants_none rfl) rfl rfl tyFe (fun _ => rfl) rfl (by kernel_rfl) hm3.lt (hm3.fld 0 1) (noSto_apart (by kernel_rfl))
    · exact step_field hs (wants_none rfl) rfl rfl (fun _ => E2.out) (field_Pt2 _)
    · exact step_loadF 7 q2 32 hs (wants_none rfl) rfl rfl tyFe (fun _ => rfl) rfl (by kernel_rfl) hm2.lt (hm2.fld 2 1) (noSto_apart (by kernel_rfl))
    · refine step_call hs (wants_none rfl) rfl fun L u W hJ hG hL hdep K hK => ?_
      have a0 := (show IsFs rR (u 6) [X'] from hG 6 (hdep 6 (by kernel_rfl)))
      have a1 := (show IsFs rR (u 8) [Z] from hG 8 (hdep 8 (by kernel_rfl)))
      go_simp
      go_at_call 50
      (with_reducible refine (kMul a0 a1 _).mono ?_); rintro e w1 ⟨r, rfl, hr, hb⟩
      have hk := hK.out _ _ hr hb
      exact hk
    · exact step_pureO hs (wants_none rfl) rfl fun L u W hG hdep => ⟨_, run_eqlR rfl (show IsFs rR (u 4) [X * Z'] from hG 4 (hdep 4 (by kernel_rfl))) (show IsFs rR (u 9) [X' * Z] from hG 9 (hdep 9 (by kernel_rfl))), by rw [decide_eq_false fun e => absurd (Prep.same_x hp hq' e) HX.out]⟩
    · exact step_pureO hs (wants_none rfl) rfl fun L u W hG hdep => ⟨_, run_move rfl, (show u 10 = .bool false from hG 10 (hdep 10 (by kernel_rfl)))⟩
    · exact step_outU hs (wants_off 11 rfl rfl rfl (by kernel_rfl) (fun _ => rfl)) rfl
    · exact step_outU hs (wants_off 11 rfl rfl rfl (by kernel_rfl) (fun _ => rfl)) rfl
    · exact step_outU hs (wants_off 11 rfl rfl rfl (by kernel_rfl) (fun _ => rfl)) rfl
    · exact step_outU hs (wants_off 11 rfl rfl rfl (by kernel_rfl) (fun _ => rfl)) rfl
    · exact step_outU hs (wants_off 11 rfl rfl rfl (by kernel_rfl) (fun _ => rfl)) rfl
    · exact step_outU hs (wants_off 11 rfl rfl rfl (by kernel_rfl) (fun _ => rfl)) rfl
    · exact step_outU hs (wants_off 11 rfl rfl rfl (by kernel_rfl) (fun _ => rfl)) rfl
    · exact step_outU hs (wants_off 11 rfl rfl rfl (by kernel_rfl) (fun _ => rfl)) rfl
    · exact step_outU hs (wants_off 11 rfl rfl rfl (by kernel_rfl) (fun _ => rfl)) rfl
    · exact step_outU hs (wants_off 11 rfl rfl rfl (by kernel_rfl) (fun _ => rfl)) rfl
    · exact step_outU hs (wants_off 11 rfl rfl rfl (by kernel_rfl) (fun _ => rfl)) rfl
    · exact step_pick false hs (wants_none rfl) rfl rfl (fun L u W hG hdep => (show u 11 = .bool false from hG 11 (hdep 11 (by kernel_rfl)))) (fun L u W hG hdep => rfl)
    · exact step_pureO hs (wants_none rfl) rfl fun L u W hG hdep => ⟨_, run_assign rfl, (show u 23 = .bool false from hG 23 (hdep 23 (by kernel_rfl)))⟩
  intro L1 u1 W1 hall hJ hG
  have hb := hJ.all rfl
  have hbel := Below.call hbel hb
  have hm2 := hm2.later hb
  have hm3 := hm3.later hb
  have ht2 := there_later ht2 hb
  have ht3 := there_later ht3 hb
  have HC15 := Lib.hid (show u1 10 = .bool false from hG 10 (by simp))
  have HC16 := Lib.hid (show u1 11 = .bool false from hG 11 (by simp))
  have HC28 := Lib.hid (show u1 23 = .bool false from hG 23 (by simp))
  have HC4 := Lib.hid (show u1 24 = .bool false from hG 24 (by simp))
  have hbel0 := hbel
  clear hJ hG hall hb
  rw [HC4.out]
  go_wp2
  go_ret
  exact ⟨rfl, hbel⟩
set_option maxRecDepth 100000 in
set_option maxHeartbeats 4000000 in
theorem qsame_1 {v0 v1 : Value} {P Q : EP} {X Y Z X' Y' Z' : F} {q : Bool} (h0 : IsFs rR v0 [X, Y, Z]) (h1 : IsFs rR v1 [X', Y', Z']) (hp : Prep P X Y Z) (hq' : Prep Q X' Y' Z') (hx : P.x = Q.x) (hq : decide (P = Q) = q) (w : World) :
    Calls Try.prog 28 #[v0, v1] w fun e w' => e = .returned (.bool q) ∧ Below w.heap.size w w' := by
  have HX := Lib.hid hx; clear hx
  have HQ := Lib.hid hq; clear hq
  go_enter Try.func28, Try.ntmps28
  have hbel : Below w.heap.size w w := Below.refl _ _
  have hbel0 := hbel
  go_upto_region 0 with fail
  refine wp_region_turn (fun u => #[v0, v1, u 0, u 1, u 2, undef, undef, undef, undef, undef, undef, undef, undef, undef, undef, undef, undef, undef, undef, undef, undef, undef, undef, undef, undef, undef, undef, undef, undef]) (Holds [.box rR [X, Y, Z], .box rR [X', Y', Z'], .oth (fun v => v = .bool false)] w) (Keep [.box rR [X, Y, Z], .box rR [X', Y', Z'], .oth (fun v => v = .bool false)] w) (fun _ => undef) ?_ (by rfl) Keep.start (holds_soft (by kernel_rfl)) ?_ ?_
  · intro u i v h
    rcases i with _ | _ | _ | i
    all_goals first | (simp [Act.put, putV]; done) | (exfalso; simp at h; omega)
  · intro hs
    refine ⟨?_, ?_, ?_, trivial⟩
    · exact step_box hs (wants_none rfl) rfl rfl (gives_c h0 (fun _ => rfl))
    · exact step_box hs (wants_none rfl) rfl rfl (gives_c h1 (fun _ => rfl))
    · exact step_pureO hs (wants_none rfl) rfl fun L u W hG hdep => ⟨_, run_assign rfl, rfl⟩
  intro L0 u0 W0 hall hJ hG
  obtain ⟨q2, e2, ⟨hq2, _⟩, ht2, hm2⟩ := (show ∃ g, u0 0 = .pointer (some ⟨g, 0, none⟩) ∧ (w.heap.size ≤ g ∧ g < W0.heap.size) ∧ W0.there g 0 48 ∧ HasFs rR W0 g 0 [X, Y, Z] from hG 0 (by simp))
  have hq2 : w.heap.size ≤ q2 := by have := hbel0.size; omega
  have E2 := Lib.hid e2; clear e2
  obtain ⟨q3, e3, ⟨hq3, _⟩, ht3, hm3⟩ := (show ∃ g, u0 1 = .pointer (some ⟨g, 0, none⟩) ∧ (w.heap.size ≤ g ∧ g < W0.heap.size) ∧ W0.there g 0 48 ∧ HasFs rR W0 g 0 [X', Y', Z'] from hG 1 (by simp))
  have hq3 : w.heap.size ≤ q3 := by have := hbel0.size; omega
  have E3 := Lib.hid e3; clear e3
  have hb := hJ.all rfl
  have hbel := Below.call hbel hb
  have HN2_3 := Lib.hid (show q2 ≠ q3 from fun e => hJ.apart 0 1 _ (by omega) (hall _ (by simp)) (hall _ (by simp)) rfl rfl (E2.out.trans (by rw [e])) E3.out)
  have HC4 := Lib.hid (show u0 2 = .bool false from hG 2 (by simp))
  have hbel0 := hbel
  clear hJ hG hall hb
  go_upto_region 1 with fail
  refine wp_region_mid (fun u => #[v0, v1, u0 0, u0 1, u 24, u 0, u 1, u 2, u 3, u 4, u 5, u 6, u 7, u 8, u 9, u 10, u 11, u 12, u 13, u 14, u 15, u 16, u 17, u 18, u 19, u 20, u 21, u 22, u 23]) (Holds [.ptr q2 0, .val rR [X], .ptr q3 32, .val rR [Z'], .val rR [X * Z'], .ptr q3 0, .val rR [X'], .ptr q2 32, .val rR [Z], .val rR [X' * Z], .oth (fun v => v = .bool true), .oth (fun v => v = .bool true), .ptr q2 16, .val rR [Y], .ptr q3 32, .val rR [Z'], .val rR [Y * Z'], .ptr q3 16, .val rR [Y'], .ptr q2 32, .val rR [Z], .val rR [Y' * Z], .oth (fun v => v = .bool q), .oth (fun v => v = .bool q), .oth (fun v => v = .bool q)] W0) (Keep [.ptr q2 0, .val rR [X], .ptr q3 32, .val rR [Z'], .val rR [X * Z'], .ptr q3 0, .val rR [X'], .ptr q2 32, .val rR [Z], .val rR [X' * Z], .oth (fun v => v = .bool true), .oth (fun v => v = .bool true), .ptr q2 16, .val rR [Y], .ptr q3 32, .val rR [Z'], .val rR [Y * Z'], .ptr q3 16, .val rR [Y'], .ptr q2 32, .val rR [Z], .val rR [Y' * Z], .oth (fun v => v = .bool q), .oth (fun v => v = .bool q), .oth (fun v => v = .bool q)] W0) (fun k => ((undef :: undef :: undef :: undef :: undef :: undef :: undef :: undef :: undef :: undef :: undef :: undef :: undef :: undef :: undef :: undef :: undef :: undef :: undef :: undef :: undef :: undef :: undef :: undef :: u0 2 :: []) : List Value).getD k undef) (by kernel_rfl) (by kernel_rfl) ?_ (by rfl) Keep.drew (holds_soft (by kernel_rfl)) ?_ ?_
  · intro u i v h
    rcases i with _ | _ | _ | _ | _ | _ | _ | _ | _ | _ | _ | _ | _ | _ | _ | _ | _ | _ | _ | _ | _ | _ | _ | _ | _ | i
    iterate 25 kernel_rfl
    exfalso; simp at h; omega
  · intro hs
    refine ⟨?_, ?_, ?_, ?_, ?_, ?_, ?_, ?_, ?_, ?_, ?_, ?_, ?_, ?_, ?_, ?_, ?_, ?_, ?_, ?_, ?_, ?_, ?_, ?_, ?_, trivial⟩
    · exact step_field hs (wants_none rfl) rfl rfl (fun _ => E2.out) (field_Pt0 _)
    · exact step_loadF 0 q2 0 hs (wants_none rfl) rfl rfl tyFe (fun _ => rfl) rfl (by kernel_rfl) hm2.lt (hm2.fld 0 1) (noSto_apart (by kernel_rfl))
    · exact step_field hs (wants_none rfl) rfl rfl (fun _ => E3.out) (field_Pt2 _)
    · exact step_loadF 2 q3 32 hs (wants_none rfl) rfl rfl tyFe (fun _ => rfl) rfl (by kernel_rfl) hm3.lt (hm3.fld 2 1) (noSto_apart (by kernel_rfl))
    · refine step_call hs (wants_none rfl) rfl fun L u W hJ hG hL hdep K hK => ?_
      have a0 := (show IsFs rR (u 1) [X] from hG 1 (hdep 1 (by kernel_rfl)))
      have a1 := (show IsFs rR (u 3) [Z'] from hG 3 (hdep 3 (by kernel_rfl)))
      go_simp
      go_at_call 50
      (with_reducible refine (kMul a0 a1 _).mono ?_); rintro e w1 ⟨r, rfl, hr, hb⟩
      have hk := hK.out _ _ hr hb
      exact hk
    · exact step_field hs (wants_none rfl) rfl rfl (fun _ => E3.out) (field_Pt0 _)
    · exact step_loadF 5 q3 0 hs (wants_none rfl) rfl rfl tyFe (fun _ => rfl) rfl (by kernel_rfl) hm3.lt (hm3.fld 0 1) (noSto_apart (by kernel_rfl))
    · exact step_field hs (wants_none rfl) rfl rfl (fun _ => E2.out) (field_Pt2 _)
    · exact step_loadF 7 q2 32 hs (wants_none rfl) rfl rfl tyFe (fun _ => rfl) rfl (by kernel_rfl) hm2.lt (hm2.fld 2 1) (noSto_apart (by kernel_rfl))
    · refine step_call hs (wants_none rfl) rfl fun L u W hJ hG hL hdep K hK => ?_
      have a0 := (show IsFs rR (u 6) [X'] from hG 6 (hdep 6 (by kernel_rfl)))
      have a1 := (show IsFs rR (u 8) [Z] from hG 8 (hdep 8 (by kernel_rfl)))
      go_simp
      go_at_call 50
      (with_reducible refine (kMul a0 a1 _).mono ?_); rintro e w1 ⟨r, rfl, hr, hb⟩
      have hk := hK.out _ _ hr hb
      exact hk
    · exact step_pureO hs (wants_none rfl) rfl fun L u W hG hdep => ⟨_, run_eqlR rfl (show IsFs rR (u 4) [X * Z'] from hG 4 (hdep 4 (by kernel_rfl))) (show IsFs rR (u 9) [X' * Z] from hG 9 (hdep 9 (by kernel_rfl))), by rw [decide_eq_true (Prep.same_x' hp hq' HX.out)]⟩
    · exact step_pureO hs (wants_none rfl) rfl fun L u W hG hdep => ⟨_, run_move rfl, (show u 10 = .bool true from hG 10 (hdep 10 (by kernel_rfl)))⟩
    · exact step_field hs (wants_on 11 rfl rfl (by kernel_rfl) (fun _ => rfl)) rfl rfl (fun _ => E2.out) (field_Pt1 _)
    · exact step_loadF 12 q2 16 hs (wants_on 11 rfl rfl (by kernel_rfl) (fun _ => rfl)) rfl rfl tyFe (fun _ => rfl) rfl (by kernel_rfl) hm2.lt (hm2.fld 1 1) (noSto_apart (by kernel_rfl))
    · exact step_field hs (wants_on 11 rfl rfl (by kernel_rfl) (fun _ => rfl)) rfl rfl (fun _ => E3.out) (field_Pt2 _)
    · exact step_loadF 14 q3 32 hs (wants_on 11 rfl rfl (by kernel_rfl) (fun _ => rfl)) rfl rfl tyFe (fun _ => rfl) rfl (by kernel_rfl) hm3.lt (hm3.fld 2 1) (noSto_apart (by kernel_rfl))
    · refine step_call hs (wants_on 11 rfl rfl (by kernel_rfl) (fun _ => rfl)) rfl fun L u W hJ hG hL hdep K hK => ?_
      have a0 := (show IsFs rR (u 13) [Y] from hG 13 (hdep 13 (by kernel_rfl)))
      have a1 := (show IsFs rR (u 15) [Z'] from hG 15 (hdep 15 (by kernel_rfl)))
      go_simp
      go_at_call 50
      (with_reducible refine (kMul a0 a1 _).mono ?_); rintro e w1 ⟨r, rfl, hr, hb⟩
      have hk := hK.out _ _ hr hb
      exact hk
    · exact step_field hs (wants_on 11 rfl rfl (by kernel_rfl) (fun _ => rfl)) rfl rfl (fun _ => E3.out) (field_Pt1 _)
    · exact step_loadF 17 q3 16 hs (wants_on 11 rfl rfl (by kernel_rfl) (fun _ => rfl)) rfl rfl tyFe (fun _ => rfl) rfl (by kernel_rfl) hm3.lt (hm3.fld 1 1) (noSto_apart (by kernel_rfl))
    · exact step_field hs (wants_on 11 rfl rfl (by kernel_rfl) (fun _ => rfl)) rfl rfl (fun _ => E2.out) (field_Pt2 _)
    · exact step_loadF 19 q2 32 hs (wants_on 11 rfl rfl (by kernel_rfl) (fun _ => rfl)) rfl rfl tyFe (fun _ => rfl) rfl (by kernel_rfl) hm2.lt (hm2.fld 2 1) (noSto_apart (by kernel_rfl))
    · refine step_call hs (wants_on 11 rfl rfl (by kernel_rfl) (fun _ => rfl)) rfl fun L u W hJ hG hL hdep K hK => ?_
      have a0 := (show IsFs rR (u 18) [Y'] from hG 18 (hdep 18 (by kernel_rfl)))
      have a1 := (show IsFs rR (u 20) [Z] from hG 20 (hdep 20 (by kernel_rfl)))
      go_simp
      go_at_call 50
      (with_reducible refine (kMul a0 a1 _).mono ?_); rintro e w1 ⟨r, rfl, hr, hb⟩
      have hk := hK.out _ _ hr hb
      exact hk
    · exact step_pureO hs (wants_on 11 rfl rfl (by kernel_rfl) (fun _ => rfl)) rfl fun L u W hG hdep => ⟨_, run_eqlR rfl (show IsFs rR (u 16) [Y * Z'] from hG 16 (hdep 16 (by kernel_rfl))) (show IsFs rR (u 21) [Y' * Z] from hG 21 (hdep 21 (by kernel_rfl))), by rw [Prep.same_y hp hq' HX.out HQ.out]⟩
    · exact step_pick true hs (wants_none rfl) rfl rfl (fun L u W hG hdep => (show u 11 = .bool true from hG 11 (hdep 11 (by kernel_rfl)))) (fun L u W hG hdep => (show u 22 = .bool q from hG 22 (hdep 22 (by kernel_rfl))))
    · exact step_pureO hs (wants_none rfl) rfl fun L u W hG hdep => ⟨_, run_assign rfl, (show u 23 = .bool q from hG 23 (hdep 23 (by kernel_rfl)))⟩
  intro L1 u1 W1 hall hJ hG
  have hb := hJ.all rfl
  have hbel := Below.call hbel hb
  have hm2 := hm2.later hb
  have hm3 := hm3.later hb
  have ht2 := there_later ht2 hb
  have ht3 := there_later ht3 hb
  have HC15 := Lib.hid (show u1 10 = .bool true from hG 10 (by simp))
  have HC16 := Lib.hid (show u1 11 = .bool true from hG 11 (by simp))
  have HC27 := Lib.hid (show u1 22 = .bool q from hG 22 (by simp))
  have HC28 := Lib.hid (show u1 23 = .bool q from hG 23 (by simp))
  have HC4 := Lib.hid (show u1 24 = .bool q from hG 24 (by simp))
  have hbel0 := hbel
  clear hJ hG hall hb
  rw [HC4.out]
  go_wp2
  go_ret
  exact ⟨rfl, hbel⟩
theorem kPSame {v0 v1 : Value} {P Q : EP} {b : Bool} (hq : decide (P = Q) = b) (h0 : IsFs rQ v0 [P]) (h1 : IsFs rQ v1 [Q]) (w : World) :
    Calls Try.prog 28 #[v0, v1] w fun e w' => e = .returned (.bool b) ∧ Below w.heap.size w w' := by
  obtain ⟨x, y, z, i0, hp⟩ := of_isQ h0
  obtain ⟨x', y', z', i1, hp'⟩ := of_isQ h1
  by_cases hx : P.x = Q.x
  · exact qsame_1 i0 i1 hp hp' hx hq w
  · rw [← hq, decide_eq_false (fun e => hx (by rw [e]))]
    exact qsame_0 i0 i1 hp hp' hx w
set_option maxRecDepth 100000 in
set_option maxHeartbeats 4000000 in
theorem kPSmall {v0 : Value} {P : EP} {b : Bool} (hq : decide (Cp.mul 8 P = Cp.zero) = b) (h0 : IsFs rQ v0 [P]) (w : World) :
    Calls Try.prog 15 #[v0] w fun e w' => e = .returned (.bool b) ∧ Below w.heap.size w w' := by
  have HQ := Lib.hid hq; clear hq
  go_enter Try.func15, Try.ntmps15
  have hbel : Below w.heap.size w w := Below.refl _ _
  have hbel0 := hbel
  go_upto_region 0 with fail
  refine wp_region_turn (fun u => #[v0, u 0, u 1, undef, undef, undef, undef, undef, undef, undef, undef, undef, undef, undef, undef, undef, undef, undef, undef, undef, undef]) (Holds [.box rQ [P], .oth (fun v => v = .bool false)] w) (Keep [.box rQ [P], .oth (fun v => v = .bool false)] w) (fun _ => undef) ?_ (by rfl) Keep.start (holds_soft (by kernel_rfl)) ?_ ?_
  · intro u i v h
    rcases i with _ | _ | i
    all_goals first | (simp [Act.put, putV]; done) | (exfalso; simp at h; omega)
  · intro hs
    refine ⟨?_, ?_, trivial⟩
    · exact step_box hs (wants_none rfl) rfl rfl (gives_c h0 (fun _ => rfl))
    · exact step_pureO hs (wants_none rfl) rfl fun L u W hG hdep => ⟨_, run_assign rfl, rfl⟩
  intro L0 u0 W0 hall hJ hG
  obtain ⟨q1, e1, ⟨hq1, _⟩, ht1, hm1⟩ := (show ∃ g, u0 0 = .pointer (some ⟨g, 0, none⟩) ∧ (w.heap.size ≤ g ∧ g < W0.heap.size) ∧ W0.there g 0 48 ∧ HasFs rQ W0 g 0 [P] from hG 0 (by simp))
  have hq1 : w.heap.size ≤ q1 := by have := hbel0.size; omega
  have E1 := Lib.hid e1; clear e1
  have hb := hJ.all rfl
  have hbel := Below.call hbel hb
  have HC2 := Lib.hid (show u0 1 = .bool false from hG 1 (by simp))
  have hbel0 := hbel
  clear hJ hG hall hb
  go_upto_region 1 with fail
  refine wp_region_turn (fun u => #[v0, u0 0, u0 1, u 1, undef, u 0, undef, undef, undef, undef, undef, undef, undef, undef, undef, undef, undef, undef, undef, undef, undef]) (Holds [.val rR [dE], .new 16, .st 1 rR [dE]] W0) (Keep [.val rR [dE], .new 16, .st 1 rR [dE]] W0) (fun _ => undef) ?_ (by rfl) Keep.start (holds_soft (by kernel_rfl)) ?_ ?_
  · intro u i v h
    rcases i with _ | _ | _ | i
    all_goals first | (simp [Act.put, putV]; done) | (exfalso; simp at h; omega)
  · intro hs
    refine ⟨?_, ?_, ?_, trivial⟩
    · refine step_call hs (wants_none rfl) rfl fun L u W hJ hG hL hdep K hK => ?_
      go_simp
      go_at_call 53
      (with_reducible refine (kCurve _).mono ?_); rintro e w1 ⟨r, rfl, hr, hb⟩
      have hk := hK.out _ _ hr hb
      exact hk
    · exact step_alloc hs (wants_none rfl) rfl rfl (by omega) rfl allocFe
    · exact step_store 1 hs (by kernel_rfl) (wants_none rfl) rfl rfl rfl (by kernel_rfl) (by kernel_rfl) (by kernel_rfl) (by kernel_rfl) (fun _ => rfl) (gives_op 0 rfl (by kernel_rfl) (fun _ => rfl)) tyFe rfl
  intro L1 u1 W1 hall hJ hG
  obtain ⟨q3, e3, hq3, _, ht3⟩ := (show ∃ g, u1 1 = .pointer (some ⟨g, 0, none⟩) ∧ W0.heap.size ≤ g ∧ 0 < 16 ∧ W1.there g 0 16 from hG 1 (by simp))
  have hm3 : HasFs rR W1 q3 0 [dE] := by
    obtain ⟨g, e, _, h⟩ := (show ∃ g, u1 1 = .pointer (some ⟨g, 0, none⟩) ∧ W0.heap.size ≤ g ∧ HasFs rR W1 g 0 [dE] from hG 2 (by simp))
    rw [e3] at e; cases e; exact h
  have HD3_q1 := Lib.hid (show q1 ≠ q3 by have := there_lt ht1 (by omega); omega)
  have hq3 : w.heap.size ≤ q3 := by have := hbel0.size; omega
  have E3 := Lib.hid e3; clear e3
  have hb := hJ.all rfl
  have hbel := Below.call hbel hb
  have hm1 := hm1.later hb
  have ht1 := there_later ht1 hb
  have hbel0 := hbel
  clear hJ hG hall hb
  go_upto_region 2 with fail
  refine wp_region_turn (fun u => #[v0, u0 0, u0 1, u1 1, u 4, u1 0, u 0, u 1, u 2, u 3, undef, undef, undef, undef, undef, undef, undef, undef, undef, undef, undef]) (Holds [.val rQ [P], .val rQ [P], .val rR [dE], .val rQ [Cp.add P P], .new 48, .st 4 rQ [Cp.add P P]] W1) (Keep [.val rQ [P], .val rQ [P], .val rR [dE], .val rQ [Cp.add P P], .new 48, .st 4 rQ [Cp.add P P]] W1) (fun _ => undef) ?_ (by rfl) Keep.start (holds_soft (by kernel_rfl)) ?_ ?_
  · intro u i v h
    rcases i with _ | _ | _ | _ | _ | _ | i
    all_goals first | (simp [Act.put, putV]; done) | (exfalso; simp at h; omega)
  · intro hs
    refine ⟨?_, ?_, ?_, ?_, ?_, ?_, trivial⟩
    · exact step_load q1 0 hs (wants_none rfl) rfl rfl tyPt (fun _ => E1.out) hm1.lt hm1 (noSto_apart (by kernel_rfl))
    · exact step_load q1 0 hs (wants_none rfl) rfl rfl tyPt (fun _ => E1.out) hm1.lt hm1 (noSto_apart (by kernel_rfl))
    · exact step_load q3 0 hs (wants_none rfl) rfl rfl tyFe (fun _ => E3.out) hm3.lt hm3 (noSto_apart (by kernel_rfl))
    · refine step_call hs (wants_none rfl) rfl fun L u W hJ hG hL hdep K hK => ?_
      have a0 := (show IsFs rQ (u 0) [P] from hG 0 (hdep 0 (by kernel_rfl)))
      have a1 := (show IsFs rQ (u 1) [P] from hG 1 (hdep 1 (by kernel_rfl)))
      have a2 := (show IsFs rR (u 2) [dE] from hG 2 (hdep 2 (by kernel_rfl)))
      go_simp
      go_at_call 62
      (with_reducible refine (kAddD a0 a1 a2 _).mono ?_); rintro e w1 ⟨r, rfl, hr, hb⟩
      have hk := hK.out _ _ hr hb
      exact hk
    · exact step_alloc hs (wants_none rfl) rfl rfl (by omega) rfl allocPt
    · exact step_store 4 hs (by kernel_rfl) (wants_none rfl) rfl rfl rfl (by kernel_rfl) (by kernel_rfl) (by kernel_rfl) (by kernel_rfl) (fun _ => rfl) (gives_op 3 rfl (by kernel_rfl) (fun _ => rfl)) tyPt rfl
  intro L2 u2 W2 hall hJ hG
  obtain ⟨q4, e4, hq4, _, ht4⟩ := (show ∃ g, u2 4 = .pointer (some ⟨g, 0, none⟩) ∧ W1.heap.size ≤ g ∧ 0 < 48 ∧ W2.there g 0 48 from hG 4 (by simp))
  have hm4 : HasFs rQ W2 q4 0 [Cp.add P P] := by
    obtain ⟨g, e, _, h⟩ := (show ∃ g, u2 4 = .pointer (some ⟨g, 0, none⟩) ∧ W1.heap.size ≤ g ∧ HasFs rQ W2 g 0 [Cp.add P P] from hG 5 (by simp))
    rw [e4] at e; cases e; exact h
  have HD4_q1 := Lib.hid (show q1 ≠ q4 by have := there_lt ht1 (by omega); omega)
  have HD4_q3 := Lib.hid (show q3 ≠ q4 by have := there_lt ht3 (by omega); omega)
  have hq4 : w.heap.size ≤ q4 := by have := hbel0.size; omega
  have E4 := Lib.hid e4; clear e4
  have hb := hJ.all rfl
  have hbel := Below.call hbel hb
  have hm1 := hm1.later hb
  have hm3 := hm3.later hb
  have ht1 := there_later ht1 hb
  have ht3 := there_later ht3 hb
  have hbel0 := hbel
  clear hJ hG hall hb
  go_upto_region 3 with fail
  refine wp_region_turn (fun u => #[v0, u0 0, u0 1, u1 1, u2 4, u1 0, u2 0, u2 1, u2 2, u2 3, u 0, u 1, u 2, u 3, undef, undef, undef, undef, undef, undef, undef]) (Holds [.val rQ [Cp.add P P], .val rQ [Cp.add P P], .val rR [dE], .val rQ [Cp.add (Cp.add P P) (Cp.add P P)], .sto q4 rQ [Cp.add (Cp.add P P) (Cp.add P P)]] W2) (Keep [.val rQ [Cp.add P P], .val rQ [Cp.add P P], .val rR [dE], .val rQ [Cp.add (Cp.add P P) (Cp.add P P)], .sto q4 rQ [Cp.add (Cp.add P P) (Cp.add P P)]] W2) (fun _ => undef) ?_ (by rfl) Keep.start (holds_soft (by kernel_rfl)) ?_ ?_
  · intro u i v h
    rcases i with _ | _ | _ | _ | _ | i
    all_goals first | (simp [Act.put, putV]; done) | (exfalso; simp at h; omega)
  · intro hs
    refine ⟨?_, ?_, ?_, ?_, ?_, trivial⟩
    · exact step_load q4 0 hs (wants_none rfl) rfl rfl tyPt (fun _ => E4.out) hm4.lt hm4 (fun k g hk => by rcases k with _ | _ | _ | _ | _ | k <;> first | (cases hk; done) | (cases hk; exact .inl (by kernel_rfl)))
    · exact step_load q4 0 hs (wants_none rfl) rfl rfl tyPt (fun _ => E4.out) hm4.lt hm4 (fun k g hk => by rcases k with _ | _ | _ | _ | _ | k <;> first | (cases hk; done) | (cases hk; exact .inl (by kernel_rfl)))
    · exact step_load q3 0 hs (wants_none rfl) rfl rfl tyFe (fun _ => E3.out) hm3.lt hm3 (fun k g hk => by rcases k with _ | _ | _ | _ | _ | k <;> first | (cases hk; done) | (cases hk; exact .inr (Ne.symm HD4_q3.out)))
    · refine step_call hs (wants_none rfl) rfl fun L u W hJ hG hL hdep K hK => ?_
      have a0 := (show IsFs rQ (u 0) [Cp.add P P] from hG 0 (hdep 0 (by kernel_rfl)))
      have a1 := (show IsFs rQ (u 1) [Cp.add P P] from hG 1 (hdep 1 (by kernel_rfl)))
      have a2 := (show IsFs rR (u 2) [dE] from hG 2 (hdep 2 (by kernel_rfl)))
      go_simp
      go_at_call 62
      (with_reducible refine (kAddD a0 a1 a2 _).mono ?_); rintro e w1 ⟨r, rfl, hr, hb⟩
      have hk := hK.out _ _ hr hb
      exact hk
    · refine step_storeO q4 48 hs (wants_none rfl) rfl rfl (by kernel_rfl) (fun k hk => ?_) (fun _ => E4.out) (there_lt ht4 (by omega)) ht4 (gives_op 3 rfl (by kernel_rfl) (fun _ => rfl)) tyPt rfl
      rcases k with _ | _ | _ | _ | _ | k
      all_goals first | (exact absurd rfl hk) | (intro e; cases e; done)
  intro L3 u3 W3 hall hJ hG
  have hb : Below w.heap.size W2 W3 := hJ.below (by have := hbel.size; omega) (fun k b hf => by rcases k with _ | _ | _ | _ | _ | k <;> first | (cases hf; done) | (cases hf; omega))
  have hbel := hbel.trans hb
  have hm1 := hm1.blk (hJ.block _ (hm1.lt) (fun k hk => by rcases k with _ | _ | _ | _ | _ | k <;> first | (cases hk; done) | (cases hk; exact absurd rfl (Ne.symm HD4_q1.out))))
  have hm3 := hm3.blk (hJ.block _ (hm3.lt) (fun k hk => by rcases k with _ | _ | _ | _ | _ | k <;> first | (cases hk; done) | (cases hk; exact absurd rfl (Ne.symm HD4_q3.out))))
  have ht1 := there_blk ht1 (hJ.block _ (there_lt ht1 (by omega)) (fun k hk => by rcases k with _ | _ | _ | _ | _ | k <;> first | (cases hk; done) | (cases hk; exact absurd rfl (Ne.symm HD4_q1.out))))
  have ht3 := there_blk ht3 (hJ.block _ (there_lt ht3 (by omega)) (fun k hk => by rcases k with _ | _ | _ | _ | _ | k <;> first | (cases hk; done) | (cases hk; exact absurd rfl (Ne.symm HD4_q3.out))))
  obtain ⟨_, hs3_4t, hs3_4⟩ := (show _ ∧ W3.there q4 0 48 ∧ HasFs rQ W3 q4 0 [Cp.add (Cp.add P P) (Cp.add P P)] from hG 4 (by simp))
  have hbel0 := hbel
  clear hJ hG hall hb
  go_upto_region 4 with fail
  refine wp_region_turn (fun u => #[v0, u0 0, u0 1, u1 1, u2 4, u1 0, u2 0, u2 1, u2 2, u2 3, u3 0, u3 1, u3 2, u3 3, u 0, u 1, u 2, u 3, undef, undef, undef]) (Holds [.val rQ [Cp.add (Cp.add P P) (Cp.add P P)], .val rQ [Cp.add (Cp.add P P) (Cp.add P P)], .val rR [dE], .val rQ [Cp.add (Cp.add (Cp.add P P) (Cp.add P P)) (Cp.add (Cp.add P P) (Cp.add P P))], .sto q4 rQ [Cp.add (Cp.add (Cp.add P P) (Cp.add P P)) (Cp.add (Cp.add P P) (Cp.add P P))]] W3) (Keep [.val rQ [Cp.add (Cp.add P P) (Cp.add P P)], .val rQ [Cp.add (Cp.add P P) (Cp.add P P)], .val rR [dE], .val rQ [Cp.add (Cp.add (Cp.add P P) (Cp.add P P)) (Cp.add (Cp.add P P) (Cp.add P P))], .sto q4 rQ [Cp.add (Cp.add (Cp.add P P) (Cp.add P P)) (Cp.add (Cp.add P P) (Cp.add P P))]] W3) (fun _ => undef) ?_ (by rfl) Keep.start (holds_soft (by kernel_rfl)) ?_ ?_
  · intro u i v h
    rcases i with _ | _ | _ | _ | _ | i
    all_goals first | (simp [Act.put, putV]; done) | (exfalso; simp at h; omega)
  · intro hs
    refine ⟨?_, ?_, ?_, ?_, ?_, trivial⟩
    · exact step_load q4 0 hs (wants_none rfl) rfl rfl tyPt (fun _ => E4.out) hs3_4.lt hs3_4 (fun k g hk => by rcases k with _ | _ | _ | _ | _ | k <;> first | (cases hk; done) | (cases hk; exact .inl (by kernel_rfl)))
    · exact step_load q4 0 hs (wants_none rfl) rfl rfl tyPt (fun _ => E4.out) hs3_4.lt hs3_4 (fun k g hk => by rcases k with _ | _ | _ | _ | _ | k <;> first | (cases hk; done) | (cases hk; exact .inl (by kernel_rfl)))
    · exact step_load q3 0 hs (wants_none rfl) rfl rfl tyFe (fun _ => E3.out) hm3.lt hm3 (fun k g hk => by rcases k with _ | _ | _ | _ | _ | k <;> first | (cases hk; done) | (cases hk; exact .inr (Ne.symm HD4_q3.out)))
    · refine step_call hs (wants_none rfl) rfl fun L u W hJ hG hL hdep K hK => ?_
      have a0 := (show IsFs rQ (u 0) [Cp.add (Cp.add P P) (Cp.add P P)] from hG 0 (hdep 0 (by kernel_rfl)))
      have a1 := (show IsFs rQ (u 1) [Cp.add (Cp.add P P) (Cp.add P P)] from hG 1 (hdep 1 (by kernel_rfl)))
      have a2 := (show IsFs rR (u 2) [dE] from hG 2 (hdep 2 (by kernel_rfl)))
      go_simp
      go_at_call 62
      (with_reducible refine (kAddD a0 a1 a2 _).mono ?_); rintro e w1 ⟨r, rfl, hr, hb⟩
      have hk := hK.out _ _ hr hb
      exact hk
    · refine step_storeO q4 48 hs (wants_none rfl) rfl rfl (by kernel_rfl) (fun k hk => ?_) (fun _ => E4.out) (there_lt hs3_4t (by omega)) hs3_4t (gives_op 3 rfl (by kernel_rfl) (fun _ => rfl)) tyPt rfl
      rcases k with _ | _ | _ | _ | _ | k
      all_goals first | (exact absurd rfl hk) | (intro e; cases e; done)
  intro L4 u4 W4 hall hJ hG
  have hb : Below w.heap.size W3 W4 := hJ.below (by have := hbel.size; omega) (fun k b hf => by rcases k with _ | _ | _ | _ | _ | k <;> first | (cases hf; done) | (cases hf; omega))
  have hbel := hbel.trans hb
  have hm1 := hm1.blk (hJ.block _ (hm1.lt) (fun k hk => by rcases k with _ | _ | _ | _ | _ | k <;> first | (cases hk; done) | (cases hk; exact absurd rfl (Ne.symm HD4_q1.out))))
  have hm3 := hm3.blk (hJ.block _ (hm3.lt) (fun k hk => by rcases k with _ | _ | _ | _ | _ | k <;> first | (cases hk; done) | (cases hk; exact absurd rfl (Ne.symm HD4_q3.out))))
  have ht1 := there_blk ht1 (hJ.block _ (there_lt ht1 (by omega)) (fun k hk => by rcases k with _ | _ | _ | _ | _ | k <;> first | (cases hk; done) | (cases hk; exact absurd rfl (Ne.symm HD4_q1.out))))
  have ht3 := there_blk ht3 (hJ.block _ (there_lt ht3 (by omega)) (fun k hk => by rcases k with _ | _ | _ | _ | _ | k <;> first | (cases hk; done) | (cases hk; exact absurd rfl (Ne.symm HD4_q3.out))))
  obtain ⟨_, hs4_4t, hs4_4⟩ := (show _ ∧ W4.there q4 0 48 ∧ HasFs rQ W4 q4 0 [Cp.add (Cp.add (Cp.add P P) (Cp.add P P)) (Cp.add (Cp.add P P) (Cp.add P P))] from hG 4 (by simp))
  have hbel0 := hbel
  clear hJ hG hall hb
  go_upto_region 5 with fail
  refine wp_region_mid (fun u => #[v0, u0 0, u 3, u1 1, u2 4, u1 0, u2 0, u2 1, u2 2, u2 3, u3 0, u3 1, u3 2, u3 3, u4 0, u4 1, u4 2, u4 3, u 0, u 1, u 2]) (Holds [.val rQ [Cp.add (Cp.add (Cp.add P P) (Cp.add P P)) (Cp.add (Cp.add P P) (Cp.add P P))], .val rQ [Cp.zero], .oth (fun v => v = .bool b), .oth (fun v => v = .bool b)] W4) (Keep [.val rQ [Cp.add (Cp.add (Cp.add P P) (Cp.add P P)) (Cp.add (Cp.add P P) (Cp.add P P))], .val rQ [Cp.zero], .oth (fun v => v = .bool b), .oth (fun v => v = .bool b)] W4) (fun k => ((undef :: undef :: undef :: u0 1 :: []) : List Value).getD k undef) (by kernel_rfl) (by kernel_rfl) ?_ (by rfl) Keep.drew (holds_soft (by kernel_rfl)) ?_ ?_
  · intro u i v h
    rcases i with _ | _ | _ | _ | i
    all_goals first | (simp [Act.put, putV]; done) | (exfalso; simp at h; omega)
  · intro hs
    refine ⟨?_, ?_, ?_, ?_, trivial⟩
    · exact step_load q4 0 hs (wants_none rfl) rfl rfl tyPt (fun _ => E4.out) hs4_4.lt hs4_4 (noSto_apart (by kernel_rfl))
    · refine step_call hs (wants_none rfl) rfl fun L u W hJ hG hL hdep K hK => ?_
      go_simp
      go_at_call 48
      (with_reducible refine (kZero _).mono ?_); rintro e w1 ⟨r, rfl, hr, hb⟩
      have hk := hK.out _ _ hr hb
      exact hk
    · refine step_callO hs (wants_none rfl) rfl fun L u W hJ hG hL hdep K hK => ?_
      have a0 := (show IsFs rQ (u 0) [Cp.add (Cp.add (Cp.add P P) (Cp.add P P)) (Cp.add (Cp.add P P) (Cp.add P P))] from hG 0 (hdep 0 (by kernel_rfl)))
      have a1 := (show IsFs rQ (u 1) [Cp.zero] from hG 1 (hdep 1 (by kernel_rfl)))
      go_simp
      go_at_call 28
      (with_reducible refine (kPSame (b := b) (by rw [← HQ.out, mul_eight]) a0 a1 _).mono ?_); rintro e w1 ⟨rfl, hb⟩
      have hk := hK.out _ _ rfl hb
      exact hk
    · exact step_pureO hs (wants_none rfl) rfl fun L u W hG hdep => ⟨_, run_assign rfl, (show u 2 = .bool b from hG 2 (hdep 2 (by kernel_rfl)))⟩
  intro L5 u5 W5 hall hJ hG
  have hb := hJ.all rfl
  have hbel := Below.call hbel hb
  have hm1 := hm1.later hb
  have hm3 := hm3.later hb
  have hs4_4 := hs4_4.later hb
  have ht1 := there_later ht1 hb
  have ht3 := there_later ht3 hb
  have hs4_4t := there_later hs4_4t hb
  have HC20 := Lib.hid (show u5 2 = .bool b from hG 2 (by simp))
  have HC2 := Lib.hid (show u5 3 = .bool b from hG 3 (by simp))
  have hbel0 := hbel
  clear hJ hG hall hb
  rw [HC2.out]
  go_wp2
  go_ret
  exact ⟨rfl, hbel⟩
set_option maxRecDepth 100000 in
set_option maxHeartbeats 4000000 in
theorem kMult {v0 v1 : Value} {P Q : EP} {s : F} (hq : Cp.mul s.val P = Q) (h0 : IsFs rQ v0 [P]) (h1 : IsFs rC v1 [s]) (w : World) :
    Calls Try.prog 23 #[v0, v1] w fun e w' => ∃ r, e = .returned r ∧ IsFs rQ r [Q] ∧ Below w.heap.size w w' := by
  have HL := Lib.hid (of_isC h1).1
  subst hq
  go_enter Try.func23, Try.ntmps23
  have hbel : Below w.heap.size w w := Below.refl _ _
  have hbel0 := hbel
  go_upto_region 0 with fail
  refine wp_region_turn (fun u => #[v0, v1, u 0, u 1, u 2, undef, undef, undef, undef, undef, undef, undef, undef, undef, undef, undef, undef, undef, undef, undef, undef, undef, undef, undef, undef, undef, undef]) (Holds [.box rQ [P], .box rC [s], .new 48] w) (Keep [.box rQ [P], .box rC [s], .new 48] w) (fun _ => undef) ?_ (by rfl) Keep.start (holds_soft (by kernel_rfl)) ?_ ?_
  · intro u i v h
    rcases i with _ | _ | _ | i
    all_goals first | (simp [Act.put, putV]; done) | (exfalso; simp at h; omega)
  · intro hs
    refine ⟨?_, ?_, ?_, trivial⟩
    · exact step_box hs (wants_none rfl) rfl rfl (gives_c h0 (fun _ => rfl))
    · exact step_box hs (wants_none rfl) rfl rfl (gives_c h1 (fun _ => rfl))
    · exact step_alloc hs (wants_none rfl) rfl rfl (by omega) rfl allocPt
  intro L0 u0 W0 hall hJ hG
  obtain ⟨q2, e2, ⟨hq2, _⟩, ht2, hm2⟩ := (show ∃ g, u0 0 = .pointer (some ⟨g, 0, none⟩) ∧ (w.heap.size ≤ g ∧ g < W0.heap.size) ∧ W0.there g 0 48 ∧ HasFs rQ W0 g 0 [P] from hG 0 (by simp))
  have hq2 : w.heap.size ≤ q2 := by have := hbel0.size; omega
  have E2 := Lib.hid e2; clear e2
  obtain ⟨q3, e3, ⟨hq3, _⟩, ht3, hm3⟩ := (show ∃ g, u0 1 = .pointer (some ⟨g, 0, none⟩) ∧ (w.heap.size ≤ g ∧ g < W0.heap.size) ∧ W0.there g 0 32 ∧ HasFs rC W0 g 0 [s] from hG 1 (by simp))
  have hq3 : w.heap.size ≤ q3 := by have := hbel0.size; omega
  have E3 := Lib.hid e3; clear e3
  obtain ⟨q4, e4, hq4, _, ht4⟩ := (show ∃ g, u0 2 = .pointer (some ⟨g, 0, none⟩) ∧ w.heap.size ≤ g ∧ 0 < 48 ∧ W0.there g 0 48 from hG 2 (by simp))
  have hq4 : w.heap.size ≤ q4 := by have := hbel0.size; omega
  have E4 := Lib.hid e4; clear e4
  have hb := hJ.all rfl
  have hbel := Below.call hbel hb
  have HN2_3 := Lib.hid (show q2 ≠ q3 from fun e => hJ.apart 0 1 _ (by omega) (hall _ (by simp)) (hall _ (by simp)) rfl rfl (E2.out.trans (by rw [e])) E3.out)
  have HN2_4 := Lib.hid (show q2 ≠ q4 from fun e => hJ.apart 0 2 _ (by omega) (hall _ (by simp)) (hall _ (by simp)) rfl rfl (E2.out.trans (by rw [e])) E4.out)
  have HN3_4 := Lib.hid (show q3 ≠ q4 from fun e => hJ.apart 1 2 _ (by omega) (hall _ (by simp)) (hall _ (by simp)) rfl rfl (E3.out.trans (by rw [e])) E4.out)
  have hbel0 := hbel
  clear hJ hG hall hb
  go_upto_region 1 with fail
  refine wp_region_turn (fun u => #[v0, v1, u0 0, u0 1, u0 2, u 1, undef, undef, u 0, undef, undef, undef, undef, undef, undef, undef, undef, undef, undef, undef, undef, undef, undef, undef, undef, undef, undef]) (Holds [.val rR [dE], .new 16, .st 1 rR [dE]] W0) (Keep [.val rR [dE], .new 16, .st 1 rR [dE]] W0) (fun _ => undef) ?_ (by rfl) Keep.start (holds_soft (by kernel_rfl)) ?_ ?_
  · intro u i v h
    rcases i with _ | _ | _ | i
    all_goals first | (simp [Act.put, putV]; done) | (exfalso; simp at h; omega)
  · intro hs
    refine ⟨?_, ?_, ?_, trivial⟩
    · refine step_call hs (wants_none rfl) rfl fun L u W hJ hG hL hdep K hK => ?_
      go_simp
      go_at_call 53
      (with_reducible refine (kCurve _).mono ?_); rintro e w1 ⟨r, rfl, hr, hb⟩
      have hk := hK.out _ _ hr hb
      exact hk
    · exact step_alloc hs (wants_none rfl) rfl rfl (by omega) rfl allocFe
    · exact step_store 1 hs (by kernel_rfl) (wants_none rfl) rfl rfl rfl (by kernel_rfl) (by kernel_rfl) (by kernel_rfl) (by kernel_rfl) (fun _ => rfl) (gives_op 0 rfl (by kernel_rfl) (fun _ => rfl)) tyFe rfl
  intro L1 u1 W1 hall hJ hG
  obtain ⟨q5, e5, hq5, _, ht5⟩ := (show ∃ g, u1 1 = .pointer (some ⟨g, 0, none⟩) ∧ W0.heap.size ≤ g ∧ 0 < 16 ∧ W1.there g 0 16 from hG 1 (by simp))
  have hm5 : HasFs rR W1 q5 0 [dE] := by
    obtain ⟨g, e, _, h⟩ := (show ∃ g, u1 1 = .pointer (some ⟨g, 0, none⟩) ∧ W0.heap.size ≤ g ∧ HasFs rR W1 g 0 [dE] from hG 2 (by simp))
    rw [e5] at e; cases e; exact h
  have HD5_q2 := Lib.hid (show q2 ≠ q5 by have := there_lt ht2 (by omega); omega)
  have HD5_q3 := Lib.hid (show q3 ≠ q5 by have := there_lt ht3 (by omega); omega)
  have HD5_q4 := Lib.hid (show q4 ≠ q5 by have := there_lt ht4 (by omega); omega)
  have hq5 : w.heap.size ≤ q5 := by have := hbel0.size; omega
  have E5 := Lib.hid e5; clear e5
  have hb := hJ.all rfl
  have hbel := Below.call hbel hb
  have hm2 := hm2.later hb
  have hm3 := hm3.later hb
  have ht2 := there_later ht2 hb
  have ht3 := there_later ht3 hb
  have ht4 := there_later ht4 hb
  have hbel0 := hbel
  clear hJ hG hall hb
  go_upto_region 2 with fail
  refine wp_region_turn (fun u => #[v0, v1, u0 0, u0 1, u0 2, u1 1, u 1, undef, u1 0, u 0, undef, undef, undef, undef, undef, undef, undef, undef, undef, undef, undef, undef, undef, undef, undef, undef, undef]) (Holds [.val rQ [Cp.zero], .new 48, .st 1 rQ [Cp.zero]] W1) (Keep [.val rQ [Cp.zero], .new 48, .st 1 rQ [Cp.zero]] W1) (fun _ => undef) ?_ (by rfl) Keep.start (holds_soft (by kernel_rfl)) ?_ ?_
  · intro u i v h
    rcases i with _ | _ | _ | i
    all_goals first | (simp [Act.put, putV]; done) | (exfalso; simp at h; omega)
  · intro hs
    refine ⟨?_, ?_, ?_, trivial⟩
    · refine step_call hs (wants_none rfl) rfl fun L u W hJ hG hL hdep K hK => ?_
      go_simp
      go_at_call 48
      (with_reducible refine (kZero _).mono ?_); rintro e w1 ⟨r, rfl, hr, hb⟩
      have hk := hK.out _ _ hr hb
      exact hk
    · exact step_alloc hs (wants_none rfl) rfl rfl (by omega) rfl allocPt
    · exact step_store 1 hs (by kernel_rfl) (wants_none rfl) rfl rfl rfl (by kernel_rfl) (by kernel_rfl) (by kernel_rfl) (by kernel_rfl) (fun _ => rfl) (gives_op 0 rfl (by kernel_rfl) (fun _ => rfl)) tyPt rfl
  intro L2 u2 W2 hall hJ hG
  obtain ⟨q6, e6, hq6, _, ht6⟩ := (show ∃ g, u2 1 = .pointer (some ⟨g, 0, none⟩) ∧ W1.heap.size ≤ g ∧ 0 < 48 ∧ W2.there g 0 48 from hG 1 (by simp))
  have hm6 : HasFs rQ W2 q6 0 [Cp.zero] := by
    obtain ⟨g, e, _, h⟩ := (show ∃ g, u2 1 = .pointer (some ⟨g, 0, none⟩) ∧ W1.heap.size ≤ g ∧ HasFs rQ W2 g 0 [Cp.zero] from hG 2 (by simp))
    rw [e6] at e; cases e; exact h
  have HD6_q2 := Lib.hid (show q2 ≠ q6 by have := there_lt ht2 (by omega); omega)
  have HD6_q3 := Lib.hid (show q3 ≠ q6 by have := there_lt ht3 (by omega); omega)
  have HD6_q4 := Lib.hid (show q4 ≠ q6 by have := there_lt ht4 (by omega); omega)
  have HD6_q5 := Lib.hid (show q5 ≠ q6 by have := there_lt ht5 (by omega); omega)
  have hq6 : w.heap.size ≤ q6 := by have := hbel0.size; omega
  have E6 := Lib.hid e6; clear e6
  have hb := hJ.all rfl
  have hbel := Below.call hbel hb
  have hm2 := hm2.later hb
  have hm3 := hm3.later hb
  have hm5 := hm5.later hb
  have ht2 := there_later ht2 hb
  have ht3 := there_later ht3 hb
  have ht4 := there_later ht4 hb
  have ht5 := there_later ht5 hb
  have hbel0 := hbel
  clear hJ hG hall hb
  go_wp2_with fail
  go_loopw [7] (fun sk wr => ∃ j : Nat, j ≤ 256 ∧ sk = .int .i64 ((j : Int) - 1) ∧ HasFs rQ wr q2 0 [P] ∧ HasFs rC wr q3 0 [s] ∧ HasFs rR wr q5 0 [dE] ∧ HasFs rQ wr q6 0 [Cp.mul (s.val / 2 ^ j) P] ∧ wr.there q2 0 48 ∧ wr.there q3 0 32 ∧ wr.there q5 0 16 ∧ wr.there q6 0 48 ∧ wr.there q4 0 48 ∧ Below w.heap.size w wr) (fun t _ => (intOf t + 1).toNat)
  case atStart => exact ⟨256, by omega, by simp, hm2, hm3, hm5, (by rw [sc_256 HL.out]; exact hm6), ht2, ht3, ht5, ht6, ht4, hbel⟩
  case round =>
    obtain ⟨j, hj, rfl, hmP, hmS, hmD, hmO, ht2', ht3', ht5', ht6', ht4', hbel'⟩ := hrel
    clear hm2 hm3 hm5 hm6 ht2 ht3 ht4 ht5 ht6 hbel hbel0 h0 h1
    have hbel := hbel'
    have hbel0 := hbel'
    by_cases h0 : 0 < j
    · obtain ⟨i, rfl⟩ : ∃ i, j = i + 1 := ⟨j - 1, by omega⟩
      have hz : (((i + 1 : Nat) : Int) - 1) = (i : Int) := by omega
      simp only [hz]
      have h1 : (0 : Int) ≤ (i : Int) := by omega
      have h2 : (i : Int) < 256 := by omega
      have HI : Hid (i + 1 ≤ 256) := Lib.hid (by omega)
      clear hz h0 hj
      go_upto_region 6 with fail
      refine wp_region_turn (fun u => #[v0, v1, u0 0, u0 1, u0 2, u1 1, u2 1, .int .i64 (i : Int), u1 0, u2 0, .int .i64 (i : Int), .bool true, u12, u13, u 0, u 1, u 2, u 3, u18, u19, u20, u21, u22, u23, u24, u25, undef]) (Holds [.val rQ [Cp.mul (s.val / 2 ^ (i + 1)) P], .val rQ [Cp.mul (s.val / 2 ^ (i + 1)) P], .val rR [dE], .val rQ [Cp.add (Cp.mul (s.val / 2 ^ (i + 1)) P) (Cp.mul (s.val / 2 ^ (i + 1)) P)], .sto q6 rQ [Cp.add (Cp.mul (s.val / 2 ^ (i + 1)) P) (Cp.mul (s.val / 2 ^ (i + 1)) P)]] wr) (Keep [.val rQ [Cp.mul (s.val / 2 ^ (i + 1)) P], .val rQ [Cp.mul (s.val / 2 ^ (i + 1)) P], .val rR [dE], .val rQ [Cp.add (Cp.mul (s.val / 2 ^ (i + 1)) P) (Cp.mul (s.val / 2 ^ (i + 1)) P)], .sto q6 rQ [Cp.add (Cp.mul (s.val / 2 ^ (i + 1)) P) (Cp.mul (s.val / 2 ^ (i + 1)) P)]] wr) (fun k => ((u14 :: u15 :: u16 :: u17 :: undef :: []) : List Value).getD k undef) ?_ (by rfl) Keep.start (holds_soft (by kernel_rfl)) ?_ ?_
      · intro u i v h
        rcases i with _ | _ | _ | _ | _ | i
        all_goals first | (simp [Act.put, putV]; done) | (exfalso; simp at h; omega)
      · intro hs
        refine ⟨?_, ?_, ?_, ?_, ?_, trivial⟩
        · exact step_load q6 0 hs (wants_none rfl) rfl rfl tyPt (fun _ => E6.out) hmO.lt hmO (fun k g hk => by rcases k with _ | _ | _ | _ | _ | k <;> first | (cases hk; done) | (cases hk; exact .inl (by kernel_rfl)))
        · exact step_load q6 0 hs (wants_none rfl) rfl rfl tyPt (fun _ => E6.out) hmO.lt hmO (fun k g hk => by rcases k with _ | _ | _ | _ | _ | k <;> first | (cases hk; done) | (cases hk; exact .inl (by kernel_rfl)))
        · exact step_load q5 0 hs (wants_none rfl) rfl rfl tyFe (fun _ => E5.out) hmD.lt hmD (fun k g hk => by rcases k with _ | _ | _ | _ | _ | k <;> first | (cases hk; done) | (cases hk; exact .inr (Ne.symm HD6_q5.out)))
        · refine step_call hs (wants_none rfl) rfl fun L u W hJ hG hL hdep K hK => ?_
          have a0 := (show IsFs rQ (u 0) [Cp.mul (s.val / 2 ^ (i + 1)) P] from hG 0 (hdep 0 (by kernel_rfl)))
          have a1 := (show IsFs rQ (u 1) [Cp.mul (s.val / 2 ^ (i + 1)) P] from hG 1 (hdep 1 (by kernel_rfl)))
          have a2 := (show IsFs rR (u 2) [dE] from hG 2 (hdep 2 (by kernel_rfl)))
          go_simp
          go_at_call 62
          (with_reducible refine (kAddD a0 a1 a2 _).mono ?_); rintro e w1 ⟨r, rfl, hr, hb⟩
          have hk := hK.out _ _ hr hb
          exact hk
        · refine step_storeO q6 48 hs (wants_none rfl) rfl rfl (by kernel_rfl) (fun k hk => ?_) (fun _ => E6.out) (there_lt ht6' (by omega)) ht6' (gives_op 3 rfl (by kernel_rfl) (fun _ => rfl)) tyPt rfl
          rcases k with _ | _ | _ | _ | _ | k
          all_goals first | (exact absurd rfl hk) | (intro e; cases e; done)
      intro L6 u6 W6 hall hJ hG
      have hb : Below w.heap.size wr W6 := hJ.below (by have := hbel.size; omega) (fun k b hf => by rcases k with _ | _ | _ | _ | _ | k <;> first | (cases hf; done) | (cases hf; omega))
      have hbel := hbel.trans hb
      have hmP := hmP.blk (hJ.block _ (hmP.lt) (fun k hk => by rcases k with _ | _ | _ | _ | _ | k <;> first | (cases hk; done) | (cases hk; exact absurd rfl (Ne.symm HD6_q2.out))))
      have hmS := hmS.blk (hJ.block _ (hmS.lt) (fun k hk => by rcases k with _ | _ | _ | _ | _ | k <;> first | (cases hk; done) | (cases hk; exact absurd rfl (Ne.symm HD6_q3.out))))
      have hmD := hmD.blk (hJ.block _ (hmD.lt) (fun k hk => by rcases k with _ | _ | _ | _ | _ | k <;> first | (cases hk; done) | (cases hk; exact absurd rfl (Ne.symm HD6_q5.out))))
      have ht2' := there_blk ht2' (hJ.block _ (there_lt ht2' (by omega)) (fun k hk => by rcases k with _ | _ | _ | _ | _ | k <;> first | (cases hk; done) | (cases hk; exact absurd rfl (Ne.symm HD6_q2.out))))
      have ht3' := there_blk ht3' (hJ.block _ (there_lt ht3' (by omega)) (fun k hk => by rcases k with _ | _ | _ | _ | _ | k <;> first | (cases hk; done) | (cases hk; exact absurd rfl (Ne.symm HD6_q3.out))))
      have ht5' := there_blk ht5' (hJ.block _ (there_lt ht5' (by omega)) (fun k hk => by rcases k with _ | _ | _ | _ | _ | k <;> first | (cases hk; done) | (cases hk; exact absurd rfl (Ne.symm HD6_q5.out))))
      have ht4' := there_blk ht4' (hJ.block _ (there_lt ht4' (by omega)) (fun k hk => by rcases k with _ | _ | _ | _ | _ | k <;> first | (cases hk; done) | (cases hk; exact absurd rfl (Ne.symm HD6_q4.out))))
      obtain ⟨_, hs6_4t, hs6_4⟩ := (show _ ∧ W6.there q6 0 48 ∧ HasFs rQ W6 q6 0 [Cp.add (Cp.mul (s.val / 2 ^ (i + 1)) P) (Cp.mul (s.val / 2 ^ (i + 1)) P)] from hG 4 (by simp))
      have hbel0 := hbel
      clear hJ hG hall hb
      by_cases hb1 : s.val / 2 ^ i % 2 = 1
      · have HB := Lib.hid hb1; clear hb1
        go_upto_region 7 with fail
        refine wp_region_turn (fun u => #[v0, v1, u0 0, u0 1, u0 2, u1 1, u2 1, .int .i64 (i : Int), u1 0, u2 0, .int .i64 (i : Int), .bool true, u12, u13, u6 0, u6 1, u6 2, u6 3, u 0, u 1, u 2, u 3, u22, u23, u24, u25, undef]) (Holds [.val rC [s], .oth (fun v => v = .int .i64 (i : Int)), .oth (fun v => v = .int .i64 1), .oth (fun v => v = .bool true)] W6) (Keep [.val rC [s], .oth (fun v => v = .int .i64 (i : Int)), .oth (fun v => v = .int .i64 1), .oth (fun v => v = .bool true)] W6) (fun k => ((u18 :: u19 :: u20 :: u21 :: []) : List Value).getD k undef) ?_ (by rfl) Keep.start (holds_soft (by kernel_rfl)) ?_ ?_
        · intro u i v h
          rcases i with _ | _ | _ | _ | i
          all_goals first | (simp [Act.put, putV]; done) | (exfalso; simp at h; omega)
        · intro hs
          refine ⟨?_, ?_, ?_, ?_, trivial⟩
          · exact step_load q3 0 hs (wants_none rfl) rfl rfl tySc (fun _ => E3.out) hmS.lt hmS (noSto_apart (by kernel_rfl))
          · exact step_pureO hs (wants_none rfl) rfl fun L u W hG hdep => ⟨_, run_move rfl, rfl⟩
          · refine step_callO hs (wants_none rfl) rfl fun L u W hJ hG hL hdep K hK => ?_
            have a0 := (show IsFs rC (u 0) [s] from hG 0 (hdep 0 (by kernel_rfl)))
            have x0 := (show u 1 = .int .i64 (i : Int) from hG 1 (hdep 1 (by kernel_rfl)))
            go_simp
            go_at_call 70
            (with_reducible refine (kScBit (z := 1) (bit_1 (by have := HI.out; omega) HB.out) a0 _).mono ?_); rintro e w1 ⟨rfl, hb⟩
            have hk := hK.out _ _ rfl hb
            simp only [x0] at hk
            exact hk
          · refine step_pureO hs (wants_none rfl) rfl fun L u W hG hdep => ⟨_, ?_, rfl⟩
            have e0 := (show u 2 = .int .i64 1 from hG 2 (hdep 2 (by kernel_rfl)))
            go_simp
            try simp [bne]
        intro L7 u7y W7y hall hJ hG
        have hb := hJ.all rfl
        have hbel := Below.call hbel hb
        have hmP := hmP.later hb
        have hmS := hmS.later hb
        have hmD := hmD.later hb
        have hs6_4 := hs6_4.later hb
        have ht2' := there_later ht2' hb
        have ht3' := there_later ht3' hb
        have ht5' := there_later ht5' hb
        have hs6_4t := there_later hs6_4t hb
        have ht4' := there_later ht4' hb
        have HC21 := Lib.hid (show u7y 3 = .bool true from hG 3 (by simp))
        have hbel0 := hbel
        clear hJ hG hall hb
        have hx : u7y 3 = .bool true := HC21.out
        go_wp2_with fail
        rw [hx]
        clear hx
        go_upto_region 8 with fail
        refine wp_region_turn (fun u => #[v0, v1, u0 0, u0 1, u0 2, u1 1, u2 1, .int .i64 (i : Int), u1 0, u2 0, .int .i64 (i : Int), .bool true, u12, u13, u6 0, u6 1, u6 2, u6 3, u7y 0, u7y 1, u7y 2, .bool true, u 0, u 1, u 2, u 3, undef]) (Holds [.val rQ [Cp.add (Cp.mul (s.val / 2 ^ (i + 1)) P) (Cp.mul (s.val / 2 ^ (i + 1)) P)], .val rQ [P], .val rR [dE], .val rQ [Cp.add (Cp.add (Cp.mul (s.val / 2 ^ (i + 1)) P) (Cp.mul (s.val / 2 ^ (i + 1)) P)) P], .sto q6 rQ [Cp.add (Cp.add (Cp.mul (s.val / 2 ^ (i + 1)) P) (Cp.mul (s.val / 2 ^ (i + 1)) P)) P]] W7y) (Keep [.val rQ [Cp.add (Cp.mul (s.val / 2 ^ (i + 1)) P) (Cp.mul (s.val / 2 ^ (i + 1)) P)], .val rQ [P], .val rR [dE], .val rQ [Cp.add (Cp.add (Cp.mul (s.val / 2 ^ (i + 1)) P) (Cp.mul (s.val / 2 ^ (i + 1)) P)) P], .sto q6 rQ [Cp.add (Cp.add (Cp.mul (s.val / 2 ^ (i + 1)) P) (Cp.mul (s.val / 2 ^ (i + 1)) P)) P]] W7y) (fun k => ((u22 :: u23 :: u24 :: u25 :: undef :: []) : List Value).getD k undef) ?_ (by rfl) Keep.start (holds_soft (by kernel_rfl)) ?_ ?_
        · intro u i v h
          rcases i with _ | _ | _ | _ | _ | i
          all_goals first | (simp [Act.put, putV]; done) | (exfalso; simp at h; omega)
        · intro hs
          refine ⟨?_, ?_, ?_, ?_, ?_, trivial⟩
          · exact step_load q6 0 hs (wants_none rfl) rfl rfl tyPt (fun _ => E6.out) hs6_4.lt hs6_4 (fun k g hk => by rcases k with _ | _ | _ | _ | _ | k <;> first | (cases hk; done) | (cases hk; exact .inl (by kernel_rfl)))
          · exact step_load q2 0 hs (wants_none rfl) rfl rfl tyPt (fun _ => E2.out) hmP.lt hmP (fun k g hk => by rcases k with _ | _ | _ | _ | _ | k <;> first | (cases hk; done) | (cases hk; exact .inr (Ne.symm HD6_q2.out)))
          · exact step_load q5 0 hs (wants_none rfl) rfl rfl tyFe (fun _ => E5.out) hmD.lt hmD (fun k g hk => by rcases k with _ | _ | _ | _ | _ | k <;> first | (cases hk; done) | (cases hk; exact .inr (Ne.symm HD6_q5.out)))
          · refine step_call hs (wants_none rfl) rfl fun L u W hJ hG hL hdep K hK => ?_
            have a0 := (show IsFs rQ (u 0) [Cp.add (Cp.mul (s.val / 2 ^ (i + 1)) P) (Cp.mul (s.val / 2 ^ (i + 1)) P)] from hG 0 (hdep 0 (by kernel_rfl)))
            have a1 := (show IsFs rQ (u 1) [P] from hG 1 (hdep 1 (by kernel_rfl)))
            have a2 := (show IsFs rR (u 2) [dE] from hG 2 (hdep 2 (by kernel_rfl)))
            go_simp
            go_at_call 62
            (with_reducible refine (kAddD a0 a1 a2 _).mono ?_); rintro e w1 ⟨r, rfl, hr, hb⟩
            have hk := hK.out _ _ hr hb
            exact hk
          · refine step_storeO q6 48 hs (wants_none rfl) rfl rfl (by kernel_rfl) (fun k hk => ?_) (fun _ => E6.out) (there_lt hs6_4t (by omega)) hs6_4t (gives_op 3 rfl (by kernel_rfl) (fun _ => rfl)) tyPt rfl
            rcases k with _ | _ | _ | _ | _ | k
            all_goals first | (exact absurd rfl hk) | (intro e; cases e; done)
        intro L8 u8y W8y hall hJ hG
        have hb : Below w.heap.size W7y W8y := hJ.below (by have := hbel.size; omega) (fun k b hf => by rcases k with _ | _ | _ | _ | _ | k <;> first | (cases hf; done) | (cases hf; omega))
        have hbel := hbel.trans hb
        have hmP := hmP.blk (hJ.block _ (hmP.lt) (fun k hk => by rcases k with _ | _ | _ | _ | _ | k <;> first | (cases hk; done) | (cases hk; exact absurd rfl (Ne.symm HD6_q2.out))))
        have hmS := hmS.blk (hJ.block _ (hmS.lt) (fun k hk => by rcases k with _ | _ | _ | _ | _ | k <;> first | (cases hk; done) | (cases hk; exact absurd rfl (Ne.symm HD6_q3.out))))
        have hmD := hmD.blk (hJ.block _ (hmD.lt) (fun k hk => by rcases k with _ | _ | _ | _ | _ | k <;> first | (cases hk; done) | (cases hk; exact absurd rfl (Ne.symm HD6_q5.out))))
        have ht2' := there_blk ht2' (hJ.block _ (there_lt ht2' (by omega)) (fun k hk => by rcases k with _ | _ | _ | _ | _ | k <;> first | (cases hk; done) | (cases hk; exact absurd rfl (Ne.symm HD6_q2.out))))
        have ht3' := there_blk ht3' (hJ.block _ (there_lt ht3' (by omega)) (fun k hk => by rcases k with _ | _ | _ | _ | _ | k <;> first | (cases hk; done) | (cases hk; exact absurd rfl (Ne.symm HD6_q3.out))))
        have ht5' := there_blk ht5' (hJ.block _ (there_lt ht5' (by omega)) (fun k hk => by rcases k with _ | _ | _ | _ | _ | k <;> first | (cases hk; done) | (cases hk; exact absurd rfl (Ne.symm HD6_q5.out))))
        have ht4' := there_blk ht4' (hJ.block _ (there_lt ht4' (by omega)) (fun k hk => by rcases k with _ | _ | _ | _ | _ | k <;> first | (cases hk; done) | (cases hk; exact absurd rfl (Ne.symm HD6_q4.out))))
        obtain ⟨_, hs8_4t, hs8_4⟩ := (show _ ∧ W8y.there q6 0 48 ∧ HasFs rQ W8y q6 0 [Cp.add (Cp.add (Cp.mul (s.val / 2 ^ (i + 1)) P) (Cp.mul (s.val / 2 ^ (i + 1)) P)) P] from hG 4 (by simp))
        have hbel0 := hbel
        clear hJ hG hall hb
        go_wp2_with fail
        go_roundw
        case rel => exact ⟨i, by have := HI.out; omega, by go_num, hmP, hmS, hmD, (by rw [← mul_dig1 HB.out]; exact hs8_4), ht2', ht3', ht5', hs8_4t, ht4', hbel⟩
        case measure => simp [intOf]
      · have HB := Lib.hid hb1; clear hb1
        go_upto_region 7 with fail
        refine wp_region_turn (fun u => #[v0, v1, u0 0, u0 1, u0 2, u1 1, u2 1, .int .i64 (i : Int), u1 0, u2 0, .int .i64 (i : Int), .bool true, u12, u13, u6 0, u6 1, u6 2, u6 3, u 0, u 1, u 2, u 3, u22, u23, u24, u25, undef]) (Holds [.val rC [s], .oth (fun v => v = .int .i64 (i : Int)), .oth (fun v => v = .int .i64 0), .oth (fun v => v = .bool false)] W6) (Keep [.val rC [s], .oth (fun v => v = .int .i64 (i : Int)), .oth (fun v => v = .int .i64 0), .oth (fun v => v = .bool false)] W6) (fun k => ((u18 :: u19 :: u20 :: u21 :: []) : List Value).getD k undef) ?_ (by rfl) Keep.start (holds_soft (by kernel_rfl)) ?_ ?_
        · intro u i v h
          rcases i with _ | _ | _ | _ | i
          all_goals first | (simp [Act.put, putV]; done) | (exfalso; simp at h; omega)
        · intro hs
          refine ⟨?_, ?_, ?_, ?_, trivial⟩
          · exact step_load q3 0 hs (wants_none rfl) rfl rfl tySc (fun _ => E3.out) hmS.lt hmS (noSto_apart (by kernel_rfl))
          · exact step_pureO hs (wants_none rfl) rfl fun L u W hG hdep => ⟨_, run_move rfl, rfl⟩
          · refine step_callO hs (wants_none rfl) rfl fun L u W hJ hG hL hdep K hK => ?_
            have a0 := (show IsFs rC (u 0) [s] from hG 0 (hdep 0 (by kernel_rfl)))
            have x0 := (show u 1 = .int .i64 (i : Int) from hG 1 (hdep 1 (by kernel_rfl)))
            go_simp
            go_at_call 70
            (with_reducible refine (kScBit (z := 0) (bit_0 (by have := HI.out; omega) HB.out) a0 _).mono ?_); rintro e w1 ⟨rfl, hb⟩
            have hk := hK.out _ _ rfl hb
            simp only [x0] at hk
            exact hk
          · refine step_pureO hs (wants_none rfl) rfl fun L u W hG hdep => ⟨_, ?_, rfl⟩
            have e0 := (show u 2 = .int .i64 0 from hG 2 (hdep 2 (by kernel_rfl)))
            go_simp
            try simp [bne]
        intro L7 u7n W7n hall hJ hG
        have hb := hJ.all rfl
        have hbel := Below.call hbel hb
        have hmP := hmP.later hb
        have hmS := hmS.later hb
        have hmD := hmD.later hb
        have hs6_4 := hs6_4.later hb
        have ht2' := there_later ht2' hb
        have ht3' := there_later ht3' hb
        have ht5' := there_later ht5' hb
        have hs6_4t := there_later hs6_4t hb
        have ht4' := there_later ht4' hb
        have HC21 := Lib.hid (show u7n 3 = .bool false from hG 3 (by simp))
        have hbel0 := hbel
        clear hJ hG hall hb
        have hx : u7n 3 = .bool false := HC21.out
        go_wp2_with fail
        rw [hx]
        clear hx
        go_wp2_with fail
        go_roundw
        case rel => exact ⟨i, by have := HI.out; omega, by go_num, hmP, hmS, hmD, (by rw [← mul_dig0 HB.out]; exact hs6_4), ht2', ht3', ht5', hs6_4t, ht4', hbel⟩
        case measure => simp [intOf]
    · obtain rfl : j = 0 := by omega
      have hz : (((0 : Nat) : Int) - 1) = -1 := by omega
      simp only [hz]
      clear hz h0 hj
      go_upto_region 9 with fail
      refine wp_region_turn (fun u => #[v0, v1, u0 0, u0 1, u0 2, u1 1, u2 1, .int .i64 (-1), u1 0, u2 0, .int .i64 (-1), .bool false, u12, u13, u14, u15, u16, u17, u18, u19, u20, u21, u22, u23, u24, u25, u 0]) (Holds [.val rQ [Cp.mul (s.val / 2 ^ 0) P], .sto q4 rQ [Cp.mul (s.val / 2 ^ 0) P]] wr) (Keep [.val rQ [Cp.mul (s.val / 2 ^ 0) P], .sto q4 rQ [Cp.mul (s.val / 2 ^ 0) P]] wr) (fun _ => undef) ?_ (by rfl) Keep.start (holds_soft (by kernel_rfl)) ?_ ?_
      · intro u i v h
        rcases i with _ | _ | i
        all_goals first | (simp [Act.put, putV]; done) | (exfalso; simp at h; omega)
      · intro hs
        refine ⟨?_, ?_, trivial⟩
        · exact step_load q6 0 hs (wants_none rfl) rfl rfl tyPt (fun _ => E6.out) hmO.lt hmO (fun k g hk => by rcases k with _ | _ | k <;> first | (cases hk; done) | (cases hk; exact .inr HD6_q4.out))
        · refine step_storeO q4 48 hs (wants_none rfl) rfl rfl (by kernel_rfl) (fun k hk => ?_) (fun _ => E4.out) (there_lt ht4' (by omega)) ht4' (gives_op 0 rfl (by kernel_rfl) (fun _ => rfl)) tyPt rfl
          rcases k with _ | _ | k
          all_goals first | (exact absurd rfl hk) | (intro e; cases e; done)
      intro L9 u9 W9 hall hJ hG
      have hb : Below w.heap.size wr W9 := hJ.below (by have := hbel.size; omega) (fun k b hf => by rcases k with _ | _ | k <;> first | (cases hf; done) | (cases hf; omega))
      have hbel := hbel.trans hb
      have hmP := hmP.blk (hJ.block _ (hmP.lt) (fun k hk => by rcases k with _ | _ | k <;> first | (cases hk; done) | (cases hk; exact absurd rfl (Ne.symm HN2_4.out))))
      have hmS := hmS.blk (hJ.block _ (hmS.lt) (fun k hk => by rcases k with _ | _ | k <;> first | (cases hk; done) | (cases hk; exact absurd rfl (Ne.symm HN3_4.out))))
      have hmD := hmD.blk (hJ.block _ (hmD.lt) (fun k hk => by rcases k with _ | _ | k <;> first | (cases hk; done) | (cases hk; exact absurd rfl HD5_q4.out)))
      have hmO := hmO.blk (hJ.block _ (hmO.lt) (fun k hk => by rcases k with _ | _ | k <;> first | (cases hk; done) | (cases hk; exact absurd rfl HD6_q4.out)))
      have ht2' := there_blk ht2' (hJ.block _ (there_lt ht2' (by omega)) (fun k hk => by rcases k with _ | _ | k <;> first | (cases hk; done) | (cases hk; exact absurd rfl (Ne.symm HN2_4.out))))
      have ht3' := there_blk ht3' (hJ.block _ (there_lt ht3' (by omega)) (fun k hk => by rcases k with _ | _ | k <;> first | (cases hk; done) | (cases hk; exact absurd rfl (Ne.symm HN3_4.out))))
      have ht5' := there_blk ht5' (hJ.block _ (there_lt ht5' (by omega)) (fun k hk => by rcases k with _ | _ | k <;> first | (cases hk; done) | (cases hk; exact absurd rfl HD5_q4.out)))
      have ht6' := there_blk ht6' (hJ.block _ (there_lt ht6' (by omega)) (fun k hk => by rcases k with _ | _ | k <;> first | (cases hk; done) | (cases hk; exact absurd rfl HD6_q4.out)))
      obtain ⟨_, hs9_1t, hs9_1⟩ := (show _ ∧ W9.there q4 0 48 ∧ HasFs rQ W9 q4 0 [Cp.mul (s.val / 2 ^ 0) P] from hG 1 (by simp))
      have hbel0 := hbel
      clear hJ hG hall hb
      go_wp2
      exact ret_cell1 (R := rQ) Try.results23 (by exact E4.out) hs9_1 tyPt rfl (fun r hr => ⟨r, rfl, by rw [Nat.pow_zero, Nat.div_one] at hr; exact hr, hbel⟩)
end Go.Proofs.Ytjchdhpijopikaa
