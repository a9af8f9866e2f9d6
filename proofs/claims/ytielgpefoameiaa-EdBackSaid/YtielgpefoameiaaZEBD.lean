/- What EB rests on, part 4 of 6: my own texts, put together (merge.py). -/
import Derived.Deep.RegionHeld3
import Derived.WalkKit
import Derived.ProofKit
import Derived.Lib.Hide
import Derived.OpenShut
import Derived.Deep.MidRow
import Derived.Test.YtielgpefoameiaaRows
import Derived.WalkSpells
import Derived.StillTactics
import Derived.Laws.Pointers
import Derived.Laws.CopyOwn
import Derived.Laws.AppendOwnNone
import Derived.RowKit3
import Derived.BigQuiet
import Derived.Deep.QuietTactic
import Derived.Deep.LoopGhost
import Derived.Deep.DeepFit
import Derived.WalkLawsBesides
import Derived.Shelf.Spec.BitsCarry
import Derived.Laws.IdiomStrings
import Derived.Deep.WholeRow
import Derived.Laws.Rows
import Derived.Deep.DeepCutAuto
import Derived.Lib.AppendZerosOnto
import Derived.Lib.SliceRun
import Derived.Deep.Matrix
import Derived.Deep.AppendLies
import Derived.ShutString
import Derived.ChangeOld
import Derived.Test.YtielgpefoameiaaZEBC
namespace Go.Proofs.Ytielgpefoameiaa
open Go Go.RowKit
set_option maxRecDepth 100000 in
set_option maxHeartbeats 4000000 in
theorem cPoint {v0 v1 : Value} {x y : F} (h0 : IsFs rE v0 [x]) (h1 : IsFs rE v1 [y]) (w : World) :
    Calls Try.prog 49 #[v0, v1] w fun e w' => ∃ r, e = .returned r ∧ IsFs rE r [x, y, fn 1, x * y] ∧ Below w.heap.size w w' := by
  go_enter Try.func49, Try.ntmps49
  have hbel : Below w.heap.size w w := Below.refl _ _
  have hbel0 := hbel
  go_upto_region 0 with fail
  refine wp_region_turn (fun u => #[v0, v1, u 0, u 1, u 2, undef, undef, undef, undef, undef, undef, undef]) (Holds [.box rE [x], .box rE [y], .new 20] w) (Keep [.box rE [x], .box rE [y], .new 20] w) (fun _ => undef) ?_ (by rfl) Keep.start (holds_soft (by kernel_rfl)) ?_ ?_
  · intro u i v h
    rcases i with _ | _ | _ | i
    all_goals first | (simp [Act.put, putV]; done) | (exfalso; simp at h; omega)
  · intro hs
    refine ⟨?_, ?_, ?_, trivial⟩
    · exact step_box hs (wants_none rfl) rfl rfl (gives_c h0 (fun _ => rfl))
    · exact step_box hs (wants_none rfl) rfl rfl (gives_c h1 (fun _ => rfl))
    · exact step_alloc hs (wants_none rfl) rfl rfl (by omega) rfl allocP
  intro L0 u0 W0 hall hJ hG
  obtain ⟨q2, e2, ⟨hq2, _⟩, ht2, hm2⟩ := (show ∃ g, u0 0 = .pointer (some ⟨g, 0, none⟩) ∧ (w.heap.size ≤ g ∧ g < W0.heap.size) ∧ W0.there g 0 5 ∧ HasFs rE W0 g 0 [x] from hG 0 (by simp))
  have hq2 : w.heap.size ≤ q2 := by have := hbel0.size; omega
  have E2 := Lib.hid e2; clear e2
  obtain ⟨q3, e3, ⟨hq3, _⟩, ht3, hm3⟩ := (show ∃ g, u0 1 = .pointer (some ⟨g, 0, none⟩) ∧ (w.heap.size ≤ g ∧ g < W0.heap.size) ∧ W0.there g 0 5 ∧ HasFs rE W0 g 0 [y] from hG 1 (by simp))
  have hq3 : w.heap.size ≤ q3 := by have := hbel0.size; omega
  have E3 := Lib.hid e3; clear e3
  obtain ⟨q4, e4, hq4, _, ht4⟩ := (show ∃ g, u0 2 = .pointer (some ⟨g, 0, none⟩) ∧ w.heap.size ≤ g ∧ 0 < 20 ∧ W0.there g 0 20 from hG 2 (by simp))
  have hq4 : w.heap.size ≤ q4 := by have := hbel0.size; omega
  have E4 := Lib.hid e4; clear e4
  have hb := hJ.all rfl
  have hbel := Below.call hbel hb
  have HN2_3 := Lib.hid (show q2 ≠ q3 from fun e => hJ.apart 0 1 _ (by omega) (hall _ (by simp)) (hall _ (by simp)) rfl rfl (E2.out.trans (by rw [e])) E3.out)
  have HN2_4 := Lib.hid (show q2 ≠ q4 from fun e => hJ.apart 0 2 _ (by omega) (hall _ (by simp)) (hall _ (by simp)) rfl rfl (E2.out.trans (by rw [e])) E4.out)
  have HN3_4 := Lib.hid (show q3 ≠ q4 from fun e => hJ.apart 1 2 _ (by omega) (hall _ (by simp)) (hall _ (by simp)) rfl rfl (E3.out.trans (by rw [e])) E4.out)
  have hbel0 := hbel
  clear hJ hG hall hb
  go_upto_region 1 with fail
  refine wp_region_mid (fun u => #[v0, v1, u0 0, u0 1, u0 2, u 0, u 1, u 2, u 3, u 4, u 5, u 6]) (Holds [.val rE [x], .val rE [y], .val rE [fn 1], .val rE [x], .val rE [y], .val rE [x * y], .val rE [x, y, fn 1, x * y], .sto q4 rE [x, y, fn 1, x * y]] W0) (Keep [.val rE [x], .val rE [y], .val rE [fn 1], .val rE [x], .val rE [y], .val rE [x * y], .val rE [x, y, fn 1, x * y], .sto q4 rE [x, y, fn 1, x * y]] W0) (fun _ => undef) (by kernel_rfl) (by kernel_rfl) ?_ (by rfl) Keep.drew (holds_soft (by kernel_rfl)) ?_ ?_
  · intro u i v h
    rcases i with _ | _ | _ | _ | _ | _ | _ | _ | i
    all_goals first | (simp [Act.put, putV]; done) | (exfalso; simp at h; omega)
  · intro hs
    refine ⟨?_, ?_, ?_, ?_, ?_, ?_, ?_, ?_, trivial⟩
    · exact step_load q2 0 hs (wants_none rfl) rfl rfl tyE (fun _ => E2.out) hm2.lt hm2 (fun k g hk => by rcases k with _ | _ | _ | _ | _ | _ | _ | _ | k <;> first | (cases hk; done) | (cases hk; exact .inr (Ne.symm HN2_4.out)))
    · exact step_load q3 0 hs (wants_none rfl) rfl rfl tyE (fun _ => E3.out) hm3.lt hm3 (fun k g hk => by rcases k with _ | _ | _ | _ | _ | _ | _ | _ | k <;> first | (cases hk; done) | (cases hk; exact .inr (Ne.symm HN3_4.out)))
    · refine step_call hs (wants_none rfl) rfl fun L u W hJ hG hL hdep K hK => ?_
      go_simp
      go_at_call 41
      (with_reducible refine (cSmallI (n := 1) (z := 1) rfl (by omega) _).mono ?_); rintro e w1 ⟨r, rfl, hr, hb⟩
      have hk := hK.out _ _ hr hb
      exact hk
    · exact step_load q2 0 hs (wants_none rfl) rfl rfl tyE (fun _ => E2.out) hm2.lt hm2 (fun k g hk => by rcases k with _ | _ | _ | _ | _ | _ | _ | _ | k <;> first | (cases hk; done) | (cases hk; exact .inr (Ne.symm HN2_4.out)))
    · exact step_load q3 0 hs (wants_none rfl) rfl rfl tyE (fun _ => E3.out) hm3.lt hm3 (fun k g hk => by rcases k with _ | _ | _ | _ | _ | _ | _ | _ | k <;> first | (cases hk; done) | (cases hk; exact .inr (Ne.symm HN3_4.out)))
    · refine step_call hs (wants_none rfl) rfl fun L u W hJ hG hL hdep K hK => ?_
      have a0 := (show IsFs rE (u 3) [x] from hG 3 (hdep 3 (by kernel_rfl)))
      have a1 := (show IsFs rE (u 4) [y] from hG 4 (hdep 4 (by kernel_rfl)))
      go_simp
      go_at_call 42
      (with_reducible refine (cMul a0 a1 _).mono ?_); rintro e w1 ⟨r, rfl, hr, hb⟩
      have hk := hK.out _ _ hr hb
      exact hk
    · refine step_pure hs (wants_none rfl) rfl fun L u W hG hdep => ?_
      have a0 := (show IsFs rE (u 0) [x] from hG 0 (hdep 0 (by kernel_rfl)))
      have a1 := (show IsFs rE (u 1) [y] from hG 1 (hdep 1 (by kernel_rfl)))
      have a2 := (show IsFs rE (u 2) [fn 1] from hG 2 (hdep 2 (by kernel_rfl)))
      have a3 := (show IsFs rE (u 5) [x * y] from hG 5 (hdep 5 (by kernel_rfl)))
      obtain ⟨r, hr, hx⟩ := build_P a0 a1 a2 a3 W
      exact ⟨r, run_build4 rfl hr, hx⟩
    · refine step_storeO q4 20 hs (wants_none rfl) rfl rfl (by kernel_rfl) (fun k hk => ?_) (fun _ => E4.out) (there_lt ht4 (by omega)) ht4 (gives_op 6 rfl (by kernel_rfl) (fun _ => rfl)) tyP4 rfl
      rcases k with _ | _ | _ | _ | _ | _ | _ | _ | k
      all_goals first | (exact absurd rfl hk) | (intro e; cases e; done)
  intro L1 u1 W1 hall hJ hG
  have hb : Below w.heap.size W0 W1 := hJ.below (by have := hbel.size; omega) (fun k b hf => by rcases k with _ | _ | _ | _ | _ | _ | _ | _ | k <;> first | (cases hf; done) | (cases hf; omega))
  have hbel := hbel.trans hb
  have hm2 := hm2.blk (hJ.block _ (hm2.lt) (fun k hk => by rcases k with _ | _ | _ | _ | _ | _ | _ | _ | k <;> first | (cases hk; done) | (cases hk; exact absurd rfl (Ne.symm HN2_4.out))))
  have hm3 := hm3.blk (hJ.block _ (hm3.lt) (fun k hk => by rcases k with _ | _ | _ | _ | _ | _ | _ | _ | k <;> first | (cases hk; done) | (cases hk; exact absurd rfl (Ne.symm HN3_4.out))))
  have ht2 := there_blk ht2 (hJ.block _ (there_lt ht2 (by omega)) (fun k hk => by rcases k with _ | _ | _ | _ | _ | _ | _ | _ | k <;> first | (cases hk; done) | (cases hk; exact absurd rfl (Ne.symm HN2_4.out))))
  have ht3 := there_blk ht3 (hJ.block _ (there_lt ht3 (by omega)) (fun k hk => by rcases k with _ | _ | _ | _ | _ | _ | _ | _ | k <;> first | (cases hk; done) | (cases hk; exact absurd rfl (Ne.symm HN3_4.out))))
  obtain ⟨_, hs1_7t, hs1_7⟩ := (show _ ∧ W1.there q4 0 20 ∧ HasFs rE W1 q4 0 [x, y, fn 1, x * y] from hG 7 (by simp))
  have hbel0 := hbel
  clear hJ hG hall hb
  go_wp2
  exact ret_cell1 (R := rE) Try.results49 (by exact E4.out) hs1_7 tyP4 rfl (fun r hr => ⟨r, rfl, hr, hbel⟩)
set_option maxRecDepth 100000 in
set_option maxHeartbeats 4000000 in
theorem ready_no {v0 : Value} {x y z t : F} (h0 : IsFs rE v0 [x, y, z, t]) (hz : z ≠ 0) (w : World) :
    Calls Try.prog 56 #[v0] w fun e w' => ∃ r, e = .returned r ∧ IsFs rE r [x, y, z, t] ∧ Below w.heap.size w w' := by
  have HZ := Lib.hid hz; clear hz
  go_enter Try.func56, Try.ntmps56
  have hbel : Below w.heap.size w w := Below.refl _ _
  have hbel0 := hbel
  go_upto_region 0 with fail
  refine wp_region_turn (fun u => #[v0, u 0, u 1, undef, undef, undef, undef, undef, undef, undef, undef]) (Holds [.box rE [x, y, z, t], .new 20] w) (Keep [.box rE [x, y, z, t], .new 20] w) (fun _ => undef) ?_ (by rfl) Keep.start (holds_soft (by kernel_rfl)) ?_ ?_
  · intro u i v h
    rcases i with _ | _ | i
    all_goals first | (simp [Act.put, putV]; done) | (exfalso; simp at h; omega)
  · intro hs
    refine ⟨?_, ?_, trivial⟩
    · exact step_box hs (wants_none rfl) rfl rfl (gives_c h0 (fun _ => rfl))
    · exact step_alloc hs (wants_none rfl) rfl rfl (by omega) rfl allocP
  intro L0 u0 W0 hall hJ hG
  obtain ⟨q1, e1, ⟨hq1, _⟩, ht1, hm1⟩ := (show ∃ g, u0 0 = .pointer (some ⟨g, 0, none⟩) ∧ (w.heap.size ≤ g ∧ g < W0.heap.size) ∧ W0.there g 0 20 ∧ HasFs rE W0 g 0 [x, y, z, t] from hG 0 (by simp))
  have hq1 : w.heap.size ≤ q1 := by have := hbel0.size; omega
  have E1 := Lib.hid e1; clear e1
  obtain ⟨q2, e2, hq2, _, ht2⟩ := (show ∃ g, u0 1 = .pointer (some ⟨g, 0, none⟩) ∧ w.heap.size ≤ g ∧ 0 < 20 ∧ W0.there g 0 20 from hG 1 (by simp))
  have hq2 : w.heap.size ≤ q2 := by have := hbel0.size; omega
  have E2 := Lib.hid e2; clear e2
  have hb := hJ.all rfl
  have hbel := Below.call hbel hb
  have HN1_2 := Lib.hid (show q1 ≠ q2 from fun e => hJ.apart 0 1 _ (by omega) (hall _ (by simp)) (hall _ (by simp)) rfl rfl (E1.out.trans (by rw [e])) E2.out)
  have hbel0 := hbel
  clear hJ hG hall hb
  go_upto_region 1 with fail
  refine wp_region_turn (fun u => #[v0, u0 0, u0 1, u 0, u 1, u 2, u 3, undef, undef, undef, undef]) (Holds [.ptr q1 10, .val rE [z], .val rE [0], .oth (fun v => v = .bool false)] W0) (Keep [.ptr q1 10, .val rE [z], .val rE [0], .oth (fun v => v = .bool false)] W0) (fun _ => undef) ?_ (by rfl) Keep.start (holds_soft (by kernel_rfl)) ?_ ?_
  · intro u i v h
    rcases i with _ | _ | _ | _ | i
    all_goals first | (simp [Act.put, putV]; done) | (exfalso; simp at h; omega)
  · intro hs
    refine ⟨?_, ?_, ?_, ?_, trivial⟩
    · exact step_field hs (wants_none rfl) rfl rfl (fun _ => E1.out) (field_P2 _)
    · exact step_loadF 0 q1 10 hs (wants_none rfl) rfl rfl tyE (fun _ => rfl) rfl (by kernel_rfl) hm1.lt (hm1.fld 2 1) (noSto_apart (by kernel_rfl))
    · exact step_pure hs (wants_none rfl) rfl fun L u W hG hdep => run_build0 rfl (buildE0 W)
    · refine step_callO hs (wants_none rfl) rfl fun L u W hJ hG hL hdep K hK => ?_
      have a0 := (show IsFs rE (u 1) [z] from hG 1 (hdep 1 (by kernel_rfl)))
      have a1 := (show IsFs rE (u 2) [0] from hG 2 (hdep 2 (by kernel_rfl)))
      go_simp
      go_at_call 48
      (with_reducible refine (cSame (b := false) (decide_eq_false HZ.out) a0 a1 _).mono ?_); rintro e w1 ⟨rfl, hb⟩
      have hk := hK.out _ _ rfl hb
      exact hk
  intro L1 u1 W1 hall hJ hG
  have hb := hJ.all rfl
  have hbel := Below.call hbel hb
  have hm1 := hm1.later hb
  have ht1 := there_later ht1 hb
  have ht2 := there_later ht2 hb
  have HC6 := Lib.hid (show u1 3 = .bool false from hG 3 (by simp))
  have hbel0 := hbel
  clear hJ hG hall hb
  have hx : u1 3 = .bool false := HC6.out
  go_wp2_with fail
  rw [hx]
  clear hx
  go_upto_region 3 with fail
  refine wp_region_turn (fun u => #[v0, u0 0, u0 1, u1 0, u1 1, u1 2, .bool false, undef, undef, undef, u 0]) (Holds [.val rE [x, y, z, t], .sto q2 rE [x, y, z, t]] W1) (Keep [.val rE [x, y, z, t], .sto q2 rE [x, y, z, t]] W1) (fun _ => undef) ?_ (by rfl) Keep.start (holds_soft (by kernel_rfl)) ?_ ?_
  · intro u i v h
    rcases i with _ | _ | i
    all_goals first | (simp [Act.put, putV]; done) | (exfalso; simp at h; omega)
  · intro hs
    refine ⟨?_, ?_, trivial⟩
    · exact step_load q1 0 hs (wants_none rfl) rfl rfl tyP4 (fun _ => E1.out) hm1.lt hm1 (fun k g hk => by rcases k with _ | _ | k <;> first | (cases hk; done) | (cases hk; exact .inr (Ne.symm HN1_2.out)))
    · refine step_storeO q2 20 hs (wants_none rfl) rfl rfl (by kernel_rfl) (fun k hk => ?_) (fun _ => E2.out) (there_lt ht2 (by omega)) ht2 (gives_op 0 rfl (by kernel_rfl) (fun _ => rfl)) tyP4 rfl
      rcases k with _ | _ | k
      all_goals first | (exact absurd rfl hk) | (intro e; cases e; done)
  intro L3 u3 W3 hall hJ hG
  have hb : Below w.heap.size W1 W3 := hJ.below (by have := hbel.size; omega) (fun k b hf => by rcases k with _ | _ | k <;> first | (cases hf; done) | (cases hf; omega))
  have hbel := hbel.trans hb
  have hm1 := hm1.blk (hJ.block _ (hm1.lt) (fun k hk => by rcases k with _ | _ | k <;> first | (cases hk; done) | (cases hk; exact absurd rfl (Ne.symm HN1_2.out))))
  have ht1 := there_blk ht1 (hJ.block _ (there_lt ht1 (by omega)) (fun k hk => by rcases k with _ | _ | k <;> first | (cases hk; done) | (cases hk; exact absurd rfl (Ne.symm HN1_2.out))))
  obtain ⟨_, hs3_1t, hs3_1⟩ := (show _ ∧ W3.there q2 0 20 ∧ HasFs rE W3 q2 0 [x, y, z, t] from hG 1 (by simp))
  have hbel0 := hbel
  clear hJ hG hall hb
  go_wp2
  exact ret_cell1 (R := rE) Try.results56 (by exact E2.out) hs3_1 tyP4 rfl (fun r hr => ⟨r, rfl, hr, hbel⟩)
set_option maxRecDepth 100000 in
set_option maxHeartbeats 4000000 in
theorem ready_yes {v0 : Value} {x y t : F} (h0 : IsFs rE v0 [x, y, 0, t]) (w : World) :
    Calls Try.prog 56 #[v0] w fun e w' => ∃ r, e = .returned r ∧ IsFs rE r [0, fn 1, fn 1, 0 * fn 1] ∧ Below w.heap.size w w' := by
  go_enter Try.func56, Try.ntmps56
  have hbel : Below w.heap.size w w := Below.refl _ _
  have hbel0 := hbel
  go_upto_region 0 with fail
  refine wp_region_turn (fun u => #[v0, u 0, u 1, undef, undef, undef, undef, undef, undef, undef, undef]) (Holds [.box rE [x, y, 0, t], .new 20] w) (Keep [.box rE [x, y, 0, t], .new 20] w) (fun _ => undef) ?_ (by rfl) Keep.start (holds_soft (by kernel_rfl)) ?_ ?_
  · intro u i v h
    rcases i with _ | _ | i
    all_goals first | (simp [Act.put, putV]; done) | (exfalso; simp at h; omega)
  · intro hs
    refine ⟨?_, ?_, trivial⟩
    · exact step_box hs (wants_none rfl) rfl rfl (gives_c h0 (fun _ => rfl))
    · exact step_alloc hs (wants_none rfl) rfl rfl (by omega) rfl allocP
  intro L0 u0 W0 hall hJ hG
  obtain ⟨q1, e1, ⟨hq1, _⟩, ht1, hm1⟩ := (show ∃ g, u0 0 = .pointer (some ⟨g, 0, none⟩) ∧ (w.heap.size ≤ g ∧ g < W0.heap.size) ∧ W0.there g 0 20 ∧ HasFs rE W0 g 0 [x, y, 0, t] from hG 0 (by simp))
  have hq1 : w.heap.size ≤ q1 := by have := hbel0.size; omega
  have E1 := Lib.hid e1; clear e1
  obtain ⟨q2, e2, hq2, _, ht2⟩ := (show ∃ g, u0 1 = .pointer (some ⟨g, 0, none⟩) ∧ w.heap.size ≤ g ∧ 0 < 20 ∧ W0.there g 0 20 from hG 1 (by simp))
  have hq2 : w.heap.size ≤ q2 := by have := hbel0.size; omega
  have E2 := Lib.hid e2; clear e2
  have hb := hJ.all rfl
  have hbel := Below.call hbel hb
  have HN1_2 := Lib.hid (show q1 ≠ q2 from fun e => hJ.apart 0 1 _ (by omega) (hall _ (by simp)) (hall _ (by simp)) rfl rfl (E1.out.trans (by rw [e])) E2.out)
  have hbel0 := hbel
  clear hJ hG hall hb
  go_upto_region 1 with fail
  refine wp_region_turn (fun u => #[v0, u0 0, u0 1, u 0, u 1, u 2, u 3, undef, undef, undef, undef]) (Holds [.ptr q1 10, .val rE [0], .val rE [0], .oth (fun v => v = .bool true)] W0) (Keep [.ptr q1 10, .val rE [0], .val rE [0], .oth (fun v => v = .bool true)] W0) (fun _ => undef) ?_ (by rfl) Keep.start (holds_soft (by kernel_rfl)) ?_ ?_
  · intro u i v h
    rcases i with _ | _ | _ | _ | i
    all_goals first | (simp [Act.put, putV]; done) | (exfalso; simp at h; omega)
  · intro hs
    refine ⟨?_, ?_, ?_, ?_, trivial⟩
    · exact step_field hs (wants_none rfl) rfl rfl (fun _ => E1.out) (field_P2 _)
    · exact step_loadF 0 q1 10 hs (wants_none rfl) rfl rfl tyE (fun _ => rfl) rfl (by kernel_rfl) hm1.lt (hm1.fld 2 1) (noSto_apart (by kernel_rfl))
    · exact step_pure hs (wants_none rfl) rfl fun L u W hG hdep => run_build0 rfl (buildE0 W)
    · refine step_callO hs (wants_none rfl) rfl fun L u W hJ hG hL hdep K hK => ?_
      have a0 := (show IsFs rE (u 1) [0] from hG 1 (hdep 1 (by kernel_rfl)))
      have a1 := (show IsFs rE (u 2) [0] from hG 2 (hdep 2 (by kernel_rfl)))
      go_simp
      go_at_call 48
      (with_reducible refine (cSame (b := true) (decide_eq_true rfl) a0 a1 _).mono ?_); rintro e w1 ⟨rfl, hb⟩
      have hk := hK.out _ _ rfl hb
      exact hk
  intro L1 u1 W1 hall hJ hG
  have hb := hJ.all rfl
  have hbel := Below.call hbel hb
  have hm1 := hm1.later hb
  have ht1 := there_later ht1 hb
  have ht2 := there_later ht2 hb
  have HC6 := Lib.hid (show u1 3 = .bool true from hG 3 (by simp))
  have hbel0 := hbel
  clear hJ hG hall hb
  have hx : u1 3 = .bool true := HC6.out
  go_wp2_with fail
  rw [hx]
  clear hx
  go_upto_region 2 with fail
  refine wp_region_turn (fun u => #[v0, u0 0, u0 1, u1 0, u1 1, u1 2, .bool true, u 0, u 1, u 2, undef]) (Holds [.val rE [0], .val rE [fn 1], .val rE [0, fn 1, fn 1, 0 * (fn 1)], .sto q2 rE [0, fn 1, fn 1, 0 * (fn 1)]] W1) (Keep [.val rE [0], .val rE [fn 1], .val rE [0, fn 1, fn 1, 0 * (fn 1)], .sto q2 rE [0, fn 1, fn 1, 0 * (fn 1)]] W1) (fun _ => undef) ?_ (by rfl) Keep.start (holds_soft (by kernel_rfl)) ?_ ?_
  · intro u i v h
    rcases i with _ | _ | _ | _ | i
    all_goals first | (simp [Act.put, putV]; done) | (exfalso; simp at h; omega)
  · intro hs
    refine ⟨?_, ?_, ?_, ?_, trivial⟩
    · exact step_pure hs (wants_none rfl) rfl fun L u W hG hdep => run_build0 rfl (buildE0 W)
    · refine step_call hs (wants_none rfl) rfl fun L u W hJ hG hL hdep K hK => ?_
      go_simp
      go_at_call 41
      (with_reducible refine (cSmallI (n := 1) (z := 1) rfl (by omega) _).mono ?_); rintro e w1 ⟨r, rfl, hr, hb⟩
      have hk := hK.out _ _ hr hb
      exact hk
    · refine step_call hs (wants_none rfl) rfl fun L u W hJ hG hL hdep K hK => ?_
      have a0 := (show IsFs rE (u 0) [0] from hG 0 (hdep 0 (by kernel_rfl)))
      have a1 := (show IsFs rE (u 1) [fn 1] from hG 1 (hdep 1 (by kernel_rfl)))
      go_simp
      go_at_call 49
      (with_reducible refine (cPoint a0 a1 _).mono ?_); rintro e w1 ⟨r, rfl, hr, hb⟩
      have hk := hK.out _ _ hr hb
      exact hk
    · refine step_storeO q2 20 hs (wants_none rfl) rfl rfl (by kernel_rfl) (fun k hk => ?_) (fun _ => E2.out) (there_lt ht2 (by omega)) ht2 (gives_op 2 rfl (by kernel_rfl) (fun _ => rfl)) tyP4 rfl
      rcases k with _ | _ | _ | _ | k
      all_goals first | (exact absurd rfl hk) | (intro e; cases e; done)
  intro L2 u2 W2 hall hJ hG
  have hb : Below w.heap.size W1 W2 := hJ.below (by have := hbel.size; omega) (fun k b hf => by rcases k with _ | _ | _ | _ | k <;> first | (cases hf; done) | (cases hf; omega))
  have hbel := hbel.trans hb
  have hm1 := hm1.blk (hJ.block _ (hm1.lt) (fun k hk => by rcases k with _ | _ | _ | _ | k <;> first | (cases hk; done) | (cases hk; exact absurd rfl (Ne.symm HN1_2.out))))
  have ht1 := there_blk ht1 (hJ.block _ (there_lt ht1 (by omega)) (fun k hk => by rcases k with _ | _ | _ | _ | k <;> first | (cases hk; done) | (cases hk; exact absurd rfl (Ne.symm HN1_2.out))))
  obtain ⟨_, hs2_3t, hs2_3⟩ := (show _ ∧ W2.there q2 0 20 ∧ HasFs rE W2 q2 0 [0, fn 1, fn 1, 0 * (fn 1)] from hG 3 (by simp))
  have hbel0 := hbel
  clear hJ hG hall hb
  go_wp2
  exact ret_cell1 (R := rE) Try.results56 (by exact E2.out) hs2_3 tyP4 rfl (fun r hr => ⟨r, rfl, hr, hbel⟩)
theorem cReady {v : Value} {P : EP} (h : IsFs rP v [P]) (w : World) :
    Calls Try.prog 56 #[v] w fun e w' => ∃ r, e = .returned r ∧ IsFs rPr r [P] ∧ Below w.heap.size w w' := by
  obtain ⟨x, y, z, t, hn, hp⟩ := of_isP h
  rcases hp with hp | ⟨rfl, rfl⟩
  · exact (ready_no hn hp.p.z w).mono fun _ _ ⟨r, he, hr, hb⟩ => ⟨r, he, isPr hr hp, hb⟩
  · exact (ready_yes hn w).mono fun _ _ ⟨r, he, hr, hb⟩ => ⟨r, he, isPr hr (by rw [show (0 : F) * fn 1 = 0 by decide +kernel, show fn 1 = (1 : F) from rfl]; exact Pext.zero), hb⟩
theorem d_is : -fn 121665 * finv (fn 121666) = dE := by
  have h1 := dE_eq
  have h2 : fn 121665 + 1 = fn 121666 := by decide +kernel
  rw [h2] at h1
  have h3 := finv_mul (x := fn 121666) (by decide +kernel)
  rw [← h1]
  generalize finv (fn 121666) = u at *
  generalize fn 121666 = v at *
  generalize dE = d at *
  clear h1 h2
  grind
set_option maxRecDepth 100000 in
set_option maxHeartbeats 4000000 in
theorem d_any  (w : World) :
    Calls Try.prog 44 #[] w fun e w' => ∃ r, e = .returned r ∧ IsFs rE r [-fn 121665 * finv (fn 121666)] ∧ Below w.heap.size w w' := by
  go_enter Try.func44, Try.ntmps44
  have hbel : Below w.heap.size w w := Below.refl _ _
  have hbel0 := hbel
  go_upto_region 0 with fail
  refine wp_region_turn (fun u => #[u 0, undef, undef, undef, undef, undef]) (Holds [.new 5] w) (Keep [.new 5] w) (fun _ => undef) ?_ (by rfl) Keep.start (holds_soft (by kernel_rfl)) ?_ ?_
  · intro u i v h
    rcases i with _ | i
    all_goals first | (simp [Act.put, putV]; done) | (exfalso; simp at h; omega)
  · intro hs
    refine ⟨?_, trivial⟩
    · exact step_alloc hs (wants_none rfl) rfl rfl (by omega) rfl allocE
  intro L0 u0 W0 hall hJ hG
  obtain ⟨q0, e0, hq0, _, ht0⟩ := (show ∃ g, u0 0 = .pointer (some ⟨g, 0, none⟩) ∧ w.heap.size ≤ g ∧ 0 < 5 ∧ W0.there g 0 5 from hG 0 (by simp))
  have hq0 : w.heap.size ≤ q0 := by have := hbel0.size; omega
  have E0 := Lib.hid e0; clear e0
  have hb := hJ.all rfl
  have hbel := Below.call hbel hb
  have hbel0 := hbel
  clear hJ hG hall hb
  go_upto_region 1 with fail
  refine wp_region_turn (fun u => #[u0 0, u 0, u 1, u 2, u 3, u 4]) (Holds [.val rE [fn 121665], .val rE [-(fn 121665)], .val rE [fn 121666], .val rE [finv (fn 121666)], .val rE [(-(fn 121665)) * (finv (fn 121666))], .sto q0 rE [(-(fn 121665)) * (finv (fn 121666))]] W0) (Keep [.val rE [fn 121665], .val rE [-(fn 121665)], .val rE [fn 121666], .val rE [finv (fn 121666)], .val rE [(-(fn 121665)) * (finv (fn 121666))], .sto q0 rE [(-(fn 121665)) * (finv (fn 121666))]] W0) (fun _ => undef) ?_ (by rfl) Keep.start (holds_soft (by kernel_rfl)) ?_ ?_
  · intro u i v h
    rcases i with _ | _ | _ | _ | _ | _ | i
    all_goals first | (simp [Act.put, putV]; done) | (exfalso; simp at h; omega)
  · intro hs
    refine ⟨?_, ?_, ?_, ?_, ?_, ?_, trivial⟩
    · refine step_call hs (wants_none rfl) rfl fun L u W hJ hG hL hdep K hK => ?_
      go_simp
      go_at_call 41
      (with_reducible refine (cSmallI (n := 121665) (z := 121665) rfl (by omega) _).mono ?_); rintro e w1 ⟨r, rfl, hr, hb⟩
      have hk := hK.out _ _ hr hb
      exact hk
    · refine step_call hs (wants_none rfl) rfl fun L u W hJ hG hL hdep K hK => ?_
      have a0 := (show IsFs rE (u 0) [fn 121665] from hG 0 (hdep 0 (by kernel_rfl)))
      go_simp
      go_at_call 51
      (with_reducible refine (cNeg a0 _).mono ?_); rintro e w1 ⟨r, rfl, hr, hb⟩
      have hk := hK.out _ _ hr hb
      exact hk
    · refine step_call hs (wants_none rfl) rfl fun L u W hJ hG hL hdep K hK => ?_
      go_simp
      go_at_call 41
      (with_reducible refine (cSmallI (n := 121666) (z := 121666) rfl (by omega) _).mono ?_); rintro e w1 ⟨r, rfl, hr, hb⟩
      have hk := hK.out _ _ hr hb
      exact hk
    · refine step_call hs (wants_none rfl) rfl fun L u W hJ hG hL hdep K hK => ?_
      have a0 := (show IsFs rE (u 2) [fn 121666] from hG 2 (hdep 2 (by kernel_rfl)))
      go_simp
      go_at_call 46
      (with_reducible refine (cInv a0 _).mono ?_); rintro e w1 ⟨r, rfl, hr, hb⟩
      have hk := hK.out _ _ hr hb
      exact hk
    · refine step_call hs (wants_none rfl) rfl fun L u W hJ hG hL hdep K hK => ?_
      have a0 := (show IsFs rE (u 1) [-(fn 121665)] from hG 1 (hdep 1 (by kernel_rfl)))
      have a1 := (show IsFs rE (u 3) [finv (fn 121666)] from hG 3 (hdep 3 (by kernel_rfl)))
      go_simp
      go_at_call 42
      (with_reducible refine (cMul a0 a1 _).mono ?_); rintro e w1 ⟨r, rfl, hr, hb⟩
      have hk := hK.out _ _ hr hb
      exact hk
    · refine step_storeO q0 5 hs (wants_none rfl) rfl rfl (by kernel_rfl) (fun k hk => ?_) (fun _ => E0.out) (there_lt ht0 (by omega)) ht0 (gives_op 4 rfl (by kernel_rfl) (fun _ => rfl)) tyE rfl
      rcases k with _ | _ | _ | _ | _ | _ | k
      all_goals first | (exact absurd rfl hk) | (intro e; cases e; done)
  intro L1 u1 W1 hall hJ hG
  have hb : Below w.heap.size W0 W1 := hJ.below (by have := hbel.size; omega) (fun k b hf => by rcases k with _ | _ | _ | _ | _ | _ | k <;> first | (cases hf; done) | (cases hf; omega))
  have hbel := hbel.trans hb
  obtain ⟨_, hs1_5t, hs1_5⟩ := (show _ ∧ W1.there q0 0 5 ∧ HasFs rE W1 q0 0 [(-(fn 121665)) * (finv (fn 121666))] from hG 5 (by simp))
  have hbel0 := hbel
  clear hJ hG hall hb
  go_wp2
  exact ret_cell1 (R := rE) Try.results44 (by exact E0.out) hs1_5 tyE rfl (fun r hr => ⟨r, rfl, hr, hbel⟩)
theorem cD (w : World) : Calls Try.prog 44 #[] w fun e w' => ∃ r, e = .returned r ∧ IsFs rE r [dE] ∧ Below w.heap.size w w' := by
  have h := d_any w
  rw [d_is] at h
  exact h
def twB : List UInt8 := [0x59, 0xf1, 0xb2, 0x26, 0x94, 0x9b, 0xd6, 0xeb, 0x56, 0xb1, 0x83, 0x82, 0x9a, 0x14, 0xe0, 0x00, 0x30, 0xd1, 0xf3, 0xee, 0xf2, 0x80, 0x8e, 0x19, 0xe7, 0xfc, 0xdf, 0x56, 0xdc, 0xd9, 0x06, 0x24]
theorem twB_is : feF twB = dE2 := by decide +kernel
theorem twB_len : twB.length = 32 := rfl
theorem twB_cells : [.int .u8 89, .int .u8 241, .int .u8 178, .int .u8 38, .int .u8 148, .int .u8 155, .int .u8 214, .int .u8 235, .int .u8 86, .int .u8 177, .int .u8 131, .int .u8 130, .int .u8 154, .int .u8 20, .int .u8 224, .int .u8 0, .int .u8 48, .int .u8 209, .int .u8 243, .int .u8 238, .int .u8 242, .int .u8 128, .int .u8 142, .int .u8 25, .int .u8 231, .int .u8 252, .int .u8 223, .int .u8 86, .int .u8 220, .int .u8 217, .int .u8 6, .int .u8 36] = twB.map bV := by simp [twB, bV]
theorem twB_run (w : World) : (Instr.build 103 #[(0, .int .u8 89), (1, .int .u8 241), (2, .int .u8 178), (3, .int .u8 38), (4, .int .u8 148), (5, .int .u8 155), (6, .int .u8 214), (7, .int .u8 235), (8, .int .u8 86), (9, .int .u8 177), (10, .int .u8 131), (11, .int .u8 130), (12, .int .u8 154), (13, .int .u8 20), (14, .int .u8 224), (15, .int .u8 0), (16, .int .u8 48), (17, .int .u8 209), (18, .int .u8 243), (19, .int .u8 238), (20, .int .u8 242), (21, .int .u8 128), (22, .int .u8 142), (23, .int .u8 25), (24, .int .u8 231), (25, .int .u8 252), (26, .int .u8 223), (27, .int .u8 86), (28, .int .u8 220), (29, .int .u8 217), (30, .int .u8 6), (31, .int .u8 36)]).run Try.prog w = .ok (.agg #[.int .u8 89, .int .u8 241, .int .u8 178, .int .u8 38, .int .u8 148, .int .u8 155, .int .u8 214, .int .u8 235, .int .u8 86, .int .u8 177, .int .u8 131, .int .u8 130, .int .u8 154, .int .u8 20, .int .u8 224, .int .u8 0, .int .u8 48, .int .u8 209, .int .u8 243, .int .u8 238, .int .u8 242, .int .u8 128, .int .u8 142, .int .u8 25, .int .u8 231, .int .u8 252, .int .u8 223, .int .u8 86, .int .u8 220, .int .u8 217, .int .u8 6, .int .u8 36]) w := by kernel_rfl
theorem twB_build {a : Act} {o : Oper} {w : World} (ho : o.op = .build 103 #[(0, .const (.int .u8 89)), (1, .const (.int .u8 241)), (2, .const (.int .u8 178)), (3, .const (.int .u8 38)), (4, .const (.int .u8 148)), (5, .const (.int .u8 155)), (6, .const (.int .u8 214)), (7, .const (.int .u8 235)), (8, .const (.int .u8 86)), (9, .const (.int .u8 177)), (10, .const (.int .u8 131)), (11, .const (.int .u8 130)), (12, .const (.int .u8 154)), (13, .const (.int .u8 20)), (14, .const (.int .u8 224)), (15, .const (.int .u8 0)), (16, .const (.int .u8 48)), (17, .const (.int .u8 209)), (18, .const (.int .u8 243)), (19, .const (.int .u8 238)), (20, .const (.int .u8 242)), (21, .const (.int .u8 128)), (22, .const (.int .u8 142)), (23, .const (.int .u8 25)), (24, .const (.int .u8 231)), (25, .const (.int .u8 252)), (26, .const (.int .u8 223)), (27, .const (.int .u8 86)), (28, .const (.int .u8 220)), (29, .const (.int .u8 217)), (30, .const (.int .u8 6)), (31, .const (.int .u8 36))]) : ∃ v, (execOp a.eval o).run Try.prog w = .ok (.value v) w ∧ IsFs rB32 v [twB] := by
  refine ⟨.agg #[.int .u8 89, .int .u8 241, .int .u8 178, .int .u8 38, .int .u8 148, .int .u8 155, .int .u8 214, .int .u8 235, .int .u8 86, .int .u8 177, .int .u8 131, .int .u8 130, .int .u8 154, .int .u8 20, .int .u8 224, .int .u8 0, .int .u8 48, .int .u8 209, .int .u8 243, .int .u8 238, .int .u8 242, .int .u8 128, .int .u8 142, .int .u8 25, .int .u8 231, .int .u8 252, .int .u8 223, .int .u8 86, .int .u8 220, .int .u8 217, .int .u8 6, .int .u8 36], ?_, _, rfl, Lims.single (R := rB32) ⟨twB_len, twB_cells⟩⟩
  unfold execOp
  simp only [ho]
  simp [Act.eval, twB_run]
set_option maxRecDepth 100000 in
set_option maxHeartbeats 4000000 in
theorem cTwice  (w : World) :
    Calls Try.prog 57 #[] w fun e w' => ∃ r, e = .returned r ∧ IsFs rE r [dE2] ∧ Below w.heap.size w w' := by
  go_enter Try.func57, Try.ntmps57
  have hbel : Below w.heap.size w w := Below.refl _ _
  have hbel0 := hbel
  go_upto_region 0 with fail
  refine wp_region_turn (fun u => #[u 0, undef, undef, undef, undef]) (Holds [.new 5] w) (Keep [.new 5] w) (fun _ => undef) ?_ (by rfl) Keep.start (holds_soft (by kernel_rfl)) ?_ ?_
  · intro u i v h
    rcases i with _ | i
    all_goals first | (simp [Act.put, putV]; done) | (exfalso; simp at h; omega)
  · intro hs
    refine ⟨?_, trivial⟩
    · exact step_alloc hs (wants_none rfl) rfl rfl (by omega) rfl allocE
  intro L0 u0 W0 hall hJ hG
  obtain ⟨q0, e0, hq0, _, ht0⟩ := (show ∃ g, u0 0 = .pointer (some ⟨g, 0, none⟩) ∧ w.heap.size ≤ g ∧ 0 < 5 ∧ W0.there g 0 5 from hG 0 (by simp))
  have hq0 : w.heap.size ≤ q0 := by have := hbel0.size; omega
  have E0 := Lib.hid e0; clear e0
  have hb := hJ.all rfl
  have hbel := Below.call hbel hb
  have hbel0 := hbel
  clear hJ hG hall hb
  go_upto_region 1 with fail
  refine wp_region_turn (fun u => #[u0 0, u 1, u 0, undef, undef]) (Holds [.val rB32 [twB], .new 32, .st 1 rB32 [twB]] W0) (Keep [.val rB32 [twB], .new 32, .st 1 rB32 [twB]] W0) (fun _ => undef) ?_ (by rfl) Keep.start (holds_soft (by kernel_rfl)) ?_ ?_
  · intro u i v h
    rcases i with _ | _ | _ | i
    all_goals first | (simp [Act.put, putV]; done) | (exfalso; simp at h; omega)
  · intro hs
    refine ⟨?_, ?_, ?_, trivial⟩
    · exact step_pure hs (wants_none rfl) rfl fun L u W hG hdep => twB_build rfl
    · exact step_alloc hs (wants_none rfl) rfl rfl (by omega) rfl alloca32
    · exact step_store 1 hs (by kernel_rfl) (wants_none rfl) rfl rfl rfl (by kernel_rfl) (by kernel_rfl) (by kernel_rfl) (by kernel_rfl) (fun _ => rfl) (gives_op 0 rfl (by kernel_rfl) (fun _ => rfl)) tya32 rfl
  intro L1 u1 W1 hall hJ hG
  obtain ⟨q1, e1, hq1, _, ht1⟩ := (show ∃ g, u1 1 = .pointer (some ⟨g, 0, none⟩) ∧ W0.heap.size ≤ g ∧ 0 < 32 ∧ W1.there g 0 32 from hG 1 (by simp))
  have hm1 : HasFs rB32 W1 q1 0 [twB] := by
    obtain ⟨g, e, _, h⟩ := (show ∃ g, u1 1 = .pointer (some ⟨g, 0, none⟩) ∧ W0.heap.size ≤ g ∧ HasFs rB32 W1 g 0 [twB] from hG 2 (by simp))
    rw [e1] at e; cases e; exact h
  have HD1_q0 := Lib.hid (show q0 ≠ q1 by have := there_lt ht0 (by omega); omega)
  have hq1 : w.heap.size ≤ q1 := by have := hbel0.size; omega
  have E1 := Lib.hid e1; clear e1
  have hb := hJ.all rfl
  have hbel := Below.call hbel hb
  have ht0 := there_later ht0 hb
  have hbel0 := hbel
  clear hJ hG hall hb
  go_upto_region 2 with fail
  refine wp_region_turn (fun u => #[u0 0, u1 1, u1 0, u 0, u 1]) (Holds [.oth (fun v => v = .slice (some ⟨q1, 0, none⟩) 32 32), .val rE [dE2], .sto q0 rE [dE2]] W1) (Keep [.oth (fun v => v = .slice (some ⟨q1, 0, none⟩) 32 32), .val rE [dE2], .sto q0 rE [dE2]] W1) (fun _ => undef) ?_ (by rfl) Keep.start (holds_soft (by kernel_rfl)) ?_ ?_
  · intro u i v h
    rcases i with _ | _ | _ | i
    all_goals first | (simp [Act.put, putV]; done) | (exfalso; simp at h; omega)
  · intro hs
    refine ⟨?_, ?_, ?_, trivial⟩
    · refine step_pureO hs (wants_none rfl) rfl fun L u W hG hdep => ⟨_, ?_, rfl⟩
      have e0 := E1.out
      go_simp
    · refine step_call hs (wants_none rfl) rfl fun L u W hJ hG hL hdep K hK => ?_
      have x0 := (show u 0 = .slice (some ⟨q1, 0, none⟩) 32 32 from hG 0 (hdep 0 (by kernel_rfl)))
      have hRB0 := (hm1.blk (hJ.block _ hm1.lt (fun k hk => by rcases k with _ | _ | _ | k <;> first | (cases hk; done) | (cases hk; exact absurd rfl HD1_q0.out)))).rdb
      go_simp
      go_at_call 73
      (with_reducible refine (cOf' twB_is hRB0).mono ?_); rintro e w1 ⟨r, rfl, hr, hb⟩
      have hk := hK.out _ _ hr hb
      simp only [x0] at hk
      exact hk
    · refine step_storeO q0 5 hs (wants_none rfl) rfl rfl (by kernel_rfl) (fun k hk => ?_) (fun _ => E0.out) (there_lt ht0 (by omega)) ht0 (gives_op 1 rfl (by kernel_rfl) (fun _ => rfl)) tyE rfl
      rcases k with _ | _ | _ | k
      all_goals first | (exact absurd rfl hk) | (intro e; cases e; done)
  intro L2 u2 W2 hall hJ hG
  have hb : Below w.heap.size W1 W2 := hJ.below (by have := hbel.size; omega) (fun k b hf => by rcases k with _ | _ | _ | k <;> first | (cases hf; done) | (cases hf; omega))
  have hbel := hbel.trans hb
  have hm1 := hm1.blk (hJ.block _ (hm1.lt) (fun k hk => by rcases k with _ | _ | _ | k <;> first | (cases hk; done) | (cases hk; exact absurd rfl HD1_q0.out)))
  have ht1 := there_blk ht1 (hJ.block _ (there_lt ht1 (by omega)) (fun k hk => by rcases k with _ | _ | _ | k <;> first | (cases hk; done) | (cases hk; exact absurd rfl HD1_q0.out)))
  obtain ⟨_, hs2_2t, hs2_2⟩ := (show _ ∧ W2.there q0 0 5 ∧ HasFs rE W2 q0 0 [dE2] from hG 2 (by simp))
  have hbel0 := hbel
  clear hJ hG hall hb
  go_wp2
  exact ret_cell1 (R := rE) Try.results57 (by exact E0.out) hs2_2 tyE rfl (fun r hr => ⟨r, rfl, hr, hbel⟩)
set_option maxRecDepth 100000 in
set_option maxHeartbeats 4000000 in
theorem sum_any {v0 v1 v2 : Value} {X Y Z T X' Y' Z' T' D : F} (h0 : IsFs rE v0 [X, Y, Z, T]) (h1 : IsFs rE v1 [X', Y', Z', T']) (h2 : IsFs rE v2 [D]) (w : World) :
    Calls Try.prog 58 #[v0, v1, v2] w fun e w' => ∃ r, e = .returned r ∧ IsFs rE r [(((Y + X) * (Y' + X')) - ((Y - X) * (Y' - X'))) * (((Z * Z') + (Z * Z')) - ((T * D) * T')), (((Z * Z') + (Z * Z')) + ((T * D) * T')) * (((Y + X) * (Y' + X')) + ((Y - X) * (Y' - X'))), (((Z * Z') + (Z * Z')) - ((T * D) * T')) * (((Z * Z') + (Z * Z')) + ((T * D) * T')), (((Y + X) * (Y' + X')) - ((Y - X) * (Y' - X'))) * (((Y + X) * (Y' + X')) + ((Y - X) * (Y' - X')))] ∧ Below w.heap.size w w' := by
  go_enter Try.func58, Try.ntmps58
  have hbel : Below w.heap.size w w := Below.refl _ _
  have hbel0 := hbel
  go_upto_region 0 with fail
  refine wp_region_turn (fun u => (v0 :: v1 :: v2 :: u 0 :: u 1 :: u 2 :: u 3 :: undef :: undef :: undef :: undef :: undef :: undef :: undef :: undef :: undef :: undef :: undef :: undef :: undef :: undef :: undef :: undef :: undef :: undef :: undef :: undef :: undef :: undef :: undef :: undef :: undef :: undef :: undef :: undef :: undef :: undef :: undef :: undef :: undef :: undef :: undef :: undef :: undef :: undef :: undef :: undef :: undef :: undef :: undef :: undef :: undef :: undef :: undef :: undef :: undef :: undef :: undef :: undef :: undef :: undef :: undef :: undef :: undef :: undef :: undef :: undef :: undef :: undef :: undef :: undef :: undef :: undef :: undef :: undef :: undef :: undef :: []).toArray) (Holds [.box rE [X, Y, Z, T], .box rE [X', Y', Z', T'], .box rE [D], .new 20] w) (Keep [.box rE [X, Y, Z, T], .box rE [X', Y', Z', T'], .box rE [D], .new 20] w) (fun _ => undef) ?_ (by rfl) Keep.start (holds_soft (by kernel_rfl)) ?_ ?_
  · intro u i v h
    rcases i with _ | _ | _ | _ | i
    all_goals first | (simp [Act.put, putV]; done) | (exfalso; simp at h; omega)
  · intro hs
    refine ⟨?_, ?_, ?_, ?_, trivial⟩
    · exact step_box hs (wants_none rfl) rfl rfl (gives_c h0 (fun _ => rfl))
    · exact step_box hs (wants_none rfl) rfl rfl (gives_c h1 (fun _ => rfl))
    · exact step_box hs (wants_none rfl) rfl rfl (gives_c h2 (fun _ => rfl))
    · exact step_alloc hs (wants_none rfl) rfl rfl (by omega) rfl allocP
  intro L0 u0 W0 hall hJ hG
  obtain ⟨q3, e3, ⟨hq3, _⟩, ht3, hm3⟩ := (show ∃ g, u0 0 = .pointer (some ⟨g, 0, none⟩) ∧ (w.heap.size ≤ g ∧ g < W0.heap.size) ∧ W0.there g 0 20 ∧ HasFs rE W0 g 0 [X, Y, Z, T] from hG 0 (by simp))
  have hq3 : w.heap.size ≤ q3 := by have := hbel0.size; omega
  have E3 := Lib.hid e3; clear e3
  obtain ⟨q4, e4, ⟨hq4, _⟩, ht4, hm4⟩ := (show ∃ g, u0 1 = .pointer (some ⟨g, 0, none⟩) ∧ (w.heap.size ≤ g ∧ g < W0.heap.size) ∧ W0.there g 0 20 ∧ HasFs rE W0 g 0 [X', Y', Z', T'] from hG 1 (by simp))
  have hq4 : w.heap.size ≤ q4 := by have := hbel0.size; omega
  have E4 := Lib.hid e4; clear e4
  obtain ⟨q5, e5, ⟨hq5, _⟩, ht5, hm5⟩ := (show ∃ g, u0 2 = .pointer (some ⟨g, 0, none⟩) ∧ (w.heap.size ≤ g ∧ g < W0.heap.size) ∧ W0.there g 0 5 ∧ HasFs rE W0 g 0 [D] from hG 2 (by simp))
  have hq5 : w.heap.size ≤ q5 := by have := hbel0.size; omega
  have E5 := Lib.hid e5; clear e5
  obtain ⟨q6, e6, hq6, _, ht6⟩ := (show ∃ g, u0 3 = .pointer (some ⟨g, 0, none⟩) ∧ w.heap.size ≤ g ∧ 0 < 20 ∧ W0.there g 0 20 from hG 3 (by simp))
  have hq6 : w.heap.size ≤ q6 := by have := hbel0.size; omega
  have E6 := Lib.hid e6; clear e6
  have hb := hJ.all rfl
  have hbel := Below.call hbel hb
  have HN3_4 := Lib.hid (show q3 ≠ q4 from fun e => hJ.apart 0 1 _ (by omega) (hall _ (by simp)) (hall _ (by simp)) rfl rfl (E3.out.trans (by rw [e])) E4.out)
  have HN3_5 := Lib.hid (show q3 ≠ q5 from fun e => hJ.apart 0 2 _ (by omega) (hall _ (by simp)) (hall _ (by simp)) rfl rfl (E3.out.trans (by rw [e])) E5.out)
  have HN3_6 := Lib.hid (show q3 ≠ q6 from fun e => hJ.apart 0 3 _ (by omega) (hall _ (by simp)) (hall _ (by simp)) rfl rfl (E3.out.trans (by rw [e])) E6.out)
  have HN4_5 := Lib.hid (show q4 ≠ q5 from fun e => hJ.apart 1 2 _ (by omega) (hall _ (by simp)) (hall _ (by simp)) rfl rfl (E4.out.trans (by rw [e])) E5.out)
  have HN4_6 := Lib.hid (show q4 ≠ q6 from fun e => hJ.apart 1 3 _ (by omega) (hall _ (by simp)) (hall _ (by simp)) rfl rfl (E4.out.trans (by rw [e])) E6.out)
  have HN5_6 := Lib.hid (show q5 ≠ q6 from fun e => hJ.apart 2 3 _ (by omega) (hall _ (by simp)) (hall _ (by simp)) rfl rfl (E5.out.trans (by rw [e])) E6.out)
  have hbel0 := hbel
  clear hJ hG hall hb
  go_upto_region 1 with fail
  refine wp_region_mid (fun u => (v0 :: v1 :: v2 :: u0 0 :: u0 1 :: u0 2 :: u0 3 :: u 11 :: undef :: undef :: undef :: undef :: undef :: undef :: undef :: u 0 :: u 1 :: u 2 :: u 3 :: u 4 :: u 5 :: u 6 :: u 7 :: u 8 :: u 9 :: u 10 :: undef :: undef :: undef :: undef :: undef :: undef :: undef :: undef :: undef :: undef :: undef :: undef :: undef :: undef :: undef :: undef :: undef :: undef :: undef :: undef :: undef :: undef :: undef :: undef :: undef :: undef :: undef :: undef :: undef :: undef :: undef :: undef :: undef :: undef :: undef :: undef :: undef :: undef :: undef :: undef :: undef :: undef :: undef :: undef :: undef :: undef :: undef :: undef :: undef :: undef :: undef :: []).toArray) (Holds [.ptr q3 5, .val rE [Y], .ptr q3 0, .val rE [X], .val rE [Y - X], .ptr q4 5, .val rE [Y'], .ptr q4 0, .val rE [X'], .val rE [Y' - X'], .val rE [(Y - X) * (Y' - X')], .new 5, .st 11 rE [(Y - X) * (Y' - X')]] W0) (Keep [.ptr q3 5, .val rE [Y], .ptr q3 0, .val rE [X], .val rE [Y - X], .ptr q4 5, .val rE [Y'], .ptr q4 0, .val rE [X'], .val rE [Y' - X'], .val rE [(Y - X) * (Y' - X')], .new 5, .st 11 rE [(Y - X) * (Y' - X')]] W0) (fun _ => undef) (by kernel_rfl) (by kernel_rfl) ?_ (by rfl) Keep.drew (holds_soft (by kernel_rfl)) ?_ ?_
  · intro u i v h
    rcases i with _ | _ | _ | _ | _ | _ | _ | _ | _ | _ | _ | _ | _ | i
    all_goals first | (simp [Act.put, putV]; done) | (exfalso; simp at h; omega)
  · intro hs
    refine ⟨?_, ?_, ?_, ?_, ?_, ?_, ?_, ?_, ?_, ?_, ?_, ?_, ?_, trivial⟩
    · exact step_field hs (wants_none rfl) rfl rfl (fun _ => E3.out) (field_P1 _)
    · exact step_loadF 0 q3 5 hs (wants_none rfl) rfl rfl tyE (fun _ => rfl) rfl (by kernel_rfl) hm3.lt (hm3.fld 1 1) (noSto_apart (by kernel_rfl))
    · exact step_field hs (wants_none rfl) rfl rfl (fun _ => E3.out) (field_P0 _)
    · exact step_loadF 2 q3 0 hs (wants_none rfl) rfl rfl tyE (fun _ => rfl) rfl (by kernel_rfl) hm3.lt (hm3.fld 0 1) (noSto_apart (by kernel_rfl))
    · refine step_call hs (wants_none rfl) rfl fun L u W hJ hG hL hdep K hK => ?_
      have a0 := (show IsFs rE (u 1) [Y] from hG 1 (hdep 1 (by kernel_rfl)))
      have a1 := (show IsFs rE (u 3) [X] from hG 3 (hdep 3 (by kernel_rfl)))
      go_simp
      go_at_call 43
      (with_reducible refine (cSub a0 a1 _).mono ?_); rintro e w1 ⟨r, rfl, hr, hb⟩
      have hk := hK.out _ _ hr hb
      exact hk
    · exact step_field hs (wants_none rfl) rfl rfl (fun _ => E4.out) (field_P1 _)
    · exact step_loadF 5 q4 5 hs (wants_none rfl) rfl rfl tyE (fun _ => rfl) rfl (by kernel_rfl) hm4.lt (hm4.fld 1 1) (noSto_apart (by kernel_rfl))
    · exact step_field hs (wants_none rfl) rfl rfl (fun _ => E4.out) (field_P0 _)
    · exact step_loadF 7 q4 0 hs (wants_none rfl) rfl rfl tyE (fun _ => rfl) rfl (by kernel_rfl) hm4.lt (hm4.fld 0 1) (noSto_apart (by kernel_rfl))
    · refine step_call hs (wants_none rfl) rfl fun L u W hJ hG hL hdep K hK => ?_
      have a0 := (show IsFs rE (u 6) [Y'] from hG 6 (hdep 6 (by kernel_rfl)))
      have a1 := (show IsFs rE (u 8) [X'] from hG 8 (hdep 8 (by kernel_rfl)))
      go_simp
      go_at_call 43
      (with_reducible refine (cSub a0 a1 _).mono ?_); rintro e w1 ⟨r, rfl, hr, hb⟩
      have hk := hK.out _ _ hr hb
      exact hk
    · refine step_call hs (wants_none rfl) rfl fun L u W hJ hG hL hdep K hK => ?_
      have a0 := (show IsFs rE (u 4) [Y - X] from hG 4 (hdep 4 (by kernel_rfl)))
      have a1 := (show IsFs rE (u 9) [Y' - X'] from hG 9 (hdep 9 (by kernel_rfl)))
      go_simp
      go_at_call 42
      (with_reducible refine (cMul a0 a1 _).mono ?_); rintro e w1 ⟨r, rfl, hr, hb⟩
      have hk := hK.out _ _ hr hb
      exact hk
    · exact step_alloc hs (wants_none rfl) rfl rfl (by omega) rfl allocE
    · exact step_store 11 hs (by kernel_rfl) (wants_none rfl) rfl rfl rfl (by kernel_rfl) (by kernel_rfl) (by kernel_rfl) (by kernel_rfl) (fun _ => rfl) (gives_op 10 rfl (by kernel_rfl) (fun _ => rfl)) tyE rfl
  intro L1 u1 W1 hall hJ hG
  obtain ⟨q7, e7, hq7, _, ht7⟩ := (show ∃ g, u1 11 = .pointer (some ⟨g, 0, none⟩) ∧ W0.heap.size ≤ g ∧ 0 < 5 ∧ W1.there g 0 5 from hG 11 (by simp))
  have hm7 : HasFs rE W1 q7 0 [(Y - X) * (Y' - X')] := by
    obtain ⟨g, e, _, h⟩ := (show ∃ g, u1 11 = .pointer (some ⟨g, 0, none⟩) ∧ W0.heap.size ≤ g ∧ HasFs rE W1 g 0 [(Y - X) * (Y' - X')] from hG 12 (by simp))
    rw [e7] at e; cases e; exact h
  have HD7_q3 := Lib.hid (show q3 ≠ q7 by have := there_lt ht3 (by omega); omega)
  have HD7_q4 := Lib.hid (show q4 ≠ q7 by have := there_lt ht4 (by omega); omega)
  have HD7_q5 := Lib.hid (show q5 ≠ q7 by have := there_lt ht5 (by omega); omega)
  have HD7_q6 := Lib.hid (show q6 ≠ q7 by have := there_lt ht6 (by omega); omega)
  have hq7 : w.heap.size ≤ q7 := by have := hbel0.size; omega
  have E7 := Lib.hid e7; clear e7
  have hb := hJ.all rfl
  have hbel := Below.call hbel hb
  have hm3 := hm3.later hb
  have hm4 := hm4.later hb
  have hm5 := hm5.later hb
  have ht3 := there_later ht3 hb
  have ht4 := there_later ht4 hb
  have ht5 := there_later ht5 hb
  have ht6 := there_later ht6 hb
  have hbel0 := hbel
  clear hJ hG hall hb
  go_upto_region 2 with fail
  refine wp_region_mid (fun u => (v0 :: v1 :: v2 :: u0 0 :: u0 1 :: u0 2 :: u0 3 :: u1 11 :: u 11 :: undef :: undef :: undef :: undef :: undef :: undef :: u1 0 :: u1 1 :: u1 2 :: u1 3 :: u1 4 :: u1 5 :: u1 6 :: u1 7 :: u1 8 :: u1 9 :: u1 10 :: u 0 :: u 1 :: u 2 :: u 3 :: u 4 :: u 5 :: u 6 :: u 7 :: u 8 :: u 9 :: u 10 :: undef :: undef :: undef :: undef :: undef :: undef :: undef :: undef :: undef :: undef :: undef :: undef :: undef :: undef :: undef :: undef :: undef :: undef :: undef :: undef :: undef :: undef :: undef :: undef :: undef :: undef :: undef :: undef :: undef :: undef :: undef :: undef :: undef :: undef :: undef :: undef :: undef :: undef :: undef :: undef :: []).toArray) (Holds [.ptr q3 5, .val rE [Y], .ptr q3 0, .val rE [X], .val rE [Y + X], .ptr q4 5, .val rE [Y'], .ptr q4 0, .val rE [X'], .val rE [Y' + X'], .val rE [(Y + X) * (Y' + X')], .new 5, .st 11 rE [(Y + X) * (Y' + X')]] W1) (Keep [.ptr q3 5, .val rE [Y], .ptr q3 0, .val rE [X], .val rE [Y + X], .ptr q4 5, .val rE [Y'], .ptr q4 0, .val rE [X'], .val rE [Y' + X'], .val rE [(Y + X) * (Y' + X')], .new 5, .st 11 rE [(Y + X) * (Y' + X')]] W1) (fun _ => undef) (by kernel_rfl) (by kernel_rfl) ?_ (by rfl) Keep.drew (holds_soft (by kernel_rfl)) ?_ ?_
  · intro u i v h
    rcases i with _ | _ | _ | _ | _ | _ | _ | _ | _ | _ | _ | _ | _ | i
    all_goals first | (simp [Act.put, putV]; done) | (exfalso; simp at h; omega)
  · intro hs
    refine ⟨?_, ?_, ?_, ?_, ?_, ?_, ?_, ?_, ?_, ?_, ?_, ?_, ?_, trivial⟩
    · exact step_field hs (wants_none rfl) rfl rfl (fun _ => E3.out) (field_P1 _)
    · exact step_loadF 0 q3 5 hs (wants_none rfl) rfl rfl tyE (fun _ => rfl) rfl (by kernel_rfl) hm3.lt (hm3.fld 1 1) (noSto_apart (by kernel_rfl))
    · exact step_field hs (wants_none rfl) rfl rfl (fun _ => E3.out) (field_P0 _)
    · exact step_loadF 2 q3 0 hs (wants_none rfl) rfl rfl tyE (fun _ => rfl) rfl (by kernel_rfl) hm3.lt (hm3.fld 0 1) (noSto_apart (by kernel_rfl))
    · refine step_call hs (wants_none rfl) rfl fun L u W hJ hG hL hdep K hK => ?_
      have a0 := (show IsFs rE (u 1) [Y] from hG 1 (hdep 1 (by kernel_rfl)))
      have a1 := (show IsFs rE (u 3) [X] from hG 3 (hdep 3 (by kernel_rfl)))
      go_simp
      go_at_call 45
      (with_reducible refine (cAdd a0 a1 _).mono ?_); rintro e w1 ⟨r, rfl, hr, hb⟩
      have hk := hK.out _ _ hr hb
      exact hk
    · exact step_field hs (wants_none rfl) rfl rfl (fun _ => E4.out) (field_P1 _)
    · exact step_loadF 5 q4 5 hs (wants_none rfl) rfl rfl tyE (fun _ => rfl) rfl (by kernel_rfl) hm4.lt (hm4.fld 1 1) (noSto_apart (by kernel_rfl))
    · exact step_field hs (wants_none rfl) rfl rfl (fun _ => E4.out) (field_P0 _)
    · exact step_loadF 7 q4 0 hs (wants_none rfl) rfl rfl tyE (fun _ => rfl) rfl (by kernel_rfl) hm4.lt (hm4.fld 0 1) (noSto_apart (by kernel_rfl))
    · refine step_call hs (wants_none rfl) rfl fun L u W hJ hG hL hdep K hK => ?_
      have a0 := (show IsFs rE (u 6) [Y'] from hG 6 (hdep 6 (by kernel_rfl)))
      have a1 := (show IsFs rE (u 8) [X'] from hG 8 (hdep 8 (by kernel_rfl)))
      go_simp
      go_at_call 45
      (with_reducible refine (cAdd a0 a1 _).mono ?_); rintro e w1 ⟨r, rfl, hr, hb⟩
      have hk := hK.out _ _ hr hb
      exact hk
    · refine step_call hs (wants_none rfl) rfl fun L u W hJ hG hL hdep K hK => ?_
      have a0 := (show IsFs rE (u 4) [Y + X] from hG 4 (hdep 4 (by kernel_rfl)))
      have a1 := (show IsFs rE (u 9) [Y' + X'] from hG 9 (hdep 9 (by kernel_rfl)))
      go_simp
      go_at_call 42
      (with_reducible refine (cMul a0 a1 _).mono ?_); rintro e w1 ⟨r, rfl, hr, hb⟩
      have hk := hK.out _ _ hr hb
      exact hk
    · exact step_alloc hs (wants_none rfl) rfl rfl (by omega) rfl allocE
    · exact step_store 11 hs (by kernel_rfl) (wants_none rfl) rfl rfl rfl (by kernel_rfl) (by kernel_rfl) (by kernel_rfl) (by kernel_rfl) (fun _ => rfl) (gives_op 10 rfl (by kernel_rfl) (fun _ => rfl)) tyE rfl
  intro L2 u2 W2 hall hJ hG
  obtain ⟨q8, e8, hq8, _, ht8⟩ := (show ∃ g, u2 11 = .pointer (some ⟨g, 0, none⟩) ∧ W1.heap.size ≤ g ∧ 0 < 5 ∧ W2.there g 0 5 from hG 11 (by simp))
  have hm8 : HasFs rE W2 q8 0 [(Y + X) * (Y' + X')] := by
    obtain ⟨g, e, _, h⟩ := (show ∃ g, u2 11 = .pointer (some ⟨g, 0, none⟩) ∧ W1.heap.size ≤ g ∧ HasFs rE W2 g 0 [(Y + X) * (Y' + X')] from hG 12 (by simp))
    rw [e8] at e; cases e; exact h
  have HD8_q3 := Lib.hid (show q3 ≠ q8 by have := there_lt ht3 (by omega); omega)
  have HD8_q4 := Lib.hid (show q4 ≠ q8 by have := there_lt ht4 (by omega); omega)
  have HD8_q5 := Lib.hid (show q5 ≠ q8 by have := there_lt ht5 (by omega); omega)
  have HD8_q6 := Lib.hid (show q6 ≠ q8 by have := there_lt ht6 (by omega); omega)
  have HD8_q7 := Lib.hid (show q7 ≠ q8 by have := there_lt ht7 (by omega); omega)
  have hq8 : w.heap.size ≤ q8 := by have := hbel0.size; omega
  have E8 := Lib.hid e8; clear e8
  have hb := hJ.all rfl
  have hbel := Below.call hbel hb
  have hm3 := hm3.later hb
  have hm4 := hm4.later hb
  have hm5 := hm5.later hb
  have hm7 := hm7.later hb
  have ht3 := there_later ht3 hb
  have ht4 := there_later ht4 hb
  have ht5 := there_later ht5 hb
  have ht6 := there_later ht6 hb
  have ht7 := there_later ht7 hb
  have hbel0 := hbel
  clear hJ hG hall hb
  go_upto_region 3 with fail
  refine wp_region_mid (fun u => (v0 :: v1 :: v2 :: u0 0 :: u0 1 :: u0 2 :: u0 3 :: u1 11 :: u2 11 :: u 7 :: undef :: undef :: undef :: undef :: undef :: u1 0 :: u1 1 :: u1 2 :: u1 3 :: u1 4 :: u1 5 :: u1 6 :: u1 7 :: u1 8 :: u1 9 :: u1 10 :: u2 0 :: u2 1 :: u2 2 :: u2 3 :: u2 4 :: u2 5 :: u2 6 :: u2 7 :: u2 8 :: u2 9 :: u2 10 :: u 0 :: u 1 :: u 2 :: u 3 :: u 4 :: u 5 :: u 6 :: undef :: undef :: undef :: undef :: undef :: undef :: undef :: undef :: undef :: undef :: undef :: undef :: undef :: undef :: undef :: undef :: undef :: undef :: undef :: undef :: undef :: undef :: undef :: undef :: undef :: undef :: undef :: undef :: undef :: undef :: undef :: undef :: undef :: []).toArray) (Holds [.ptr q3 15, .val rE [T], .val rE [D], .val rE [T * D], .ptr q4 15, .val rE [T'], .val rE [(T * D) * T'], .new 5, .st 7 rE [(T * D) * T']] W2) (Keep [.ptr q3 15, .val rE [T], .val rE [D], .val rE [T * D], .ptr q4 15, .val rE [T'], .val rE [(T * D) * T'], .new 5, .st 7 rE [(T * D) * T']] W2) (fun _ => undef) (by kernel_rfl) (by kernel_rfl) ?_ (by rfl) Keep.drew (holds_soft (by kernel_rfl)) ?_ ?_
  · intro u i v h
    rcases i with _ | _ | _ | _ | _ | _ | _ | _ | _ | i
    all_goals first | (simp [Act.put, putV]; done) | (exfalso; simp at h; omega)
  · intro hs
    refine ⟨?_, ?_, ?_, ?_, ?_, ?_, ?_, ?_, ?_, trivial⟩
    · exact step_field hs (wants_none rfl) rfl rfl (fun _ => E3.out) (field_P3 _)
    · exact step_loadF 0 q3 15 hs (wants_none rfl) rfl rfl tyE (fun _ => rfl) rfl (by kernel_rfl) hm3.lt (hm3.fld 3 1) (noSto_apart (by kernel_rfl))
    · exact step_load q5 0 hs (wants_none rfl) rfl rfl tyE (fun _ => E5.out) hm5.lt hm5 (noSto_apart (by kernel_rfl))
    · refine step_call hs (wants_none rfl) rfl fun L u W hJ hG hL hdep K hK => ?_
      have a0 := (show IsFs rE (u 1) [T] from hG 1 (hdep 1 (by kernel_rfl)))
      have a1 := (show IsFs rE (u 2) [D] from hG 2 (hdep 2 (by kernel_rfl)))
      go_simp
      go_at_call 42
      (with_reducible refine (cMul a0 a1 _).mono ?_); rintro e w1 ⟨r, rfl, hr, hb⟩
      have hk := hK.out _ _ hr hb
      exact hk
    · exact step_field hs (wants_none rfl) rfl rfl (fun _ => E4.out) (field_P3 _)
    · exact step_loadF 4 q4 15 hs (wants_none rfl) rfl rfl tyE (fun _ => rfl) rfl (by kernel_rfl) hm4.lt (hm4.fld 3 1) (noSto_apart (by kernel_rfl))
    · refine step_call hs (wants_none rfl) rfl fun L u W hJ hG hL hdep K hK => ?_
      have a0 := (show IsFs rE (u 3) [T * D] from hG 3 (hdep 3 (by kernel_rfl)))
      have a1 := (show IsFs rE (u 5) [T'] from hG 5 (hdep 5 (by kernel_rfl)))
      go_simp
      go_at_call 42
      (with_reducible refine (cMul a0 a1 _).mono ?_); rintro e w1 ⟨r, rfl, hr, hb⟩
      have hk := hK.out _ _ hr hb
      exact hk
    · exact step_alloc hs (wants_none rfl) rfl rfl (by omega) rfl allocE
    · exact step_store 7 hs (by kernel_rfl) (wants_none rfl) rfl rfl rfl (by kernel_rfl) (by kernel_rfl) (by kernel_rfl) (by kernel_rfl) (fun _ => rfl) (gives_op 6 rfl (by kernel_rfl) (fun _ => rfl)) tyE rfl
  intro L3 u3 W3 hall hJ hG
  obtain ⟨q9, e9, hq9, _, ht9⟩ := (show ∃ g, u3 7 = .pointer (some ⟨g, 0, none⟩) ∧ W2.heap.size ≤ g ∧ 0 < 5 ∧ W3.there g 0 5 from hG 7 (by simp))
  have hm9 : HasFs rE W3 q9 0 [(T * D) * T'] := by
    obtain ⟨g, e, _, h⟩ := (show ∃ g, u3 7 = .pointer (some ⟨g, 0, none⟩) ∧ W2.heap.size ≤ g ∧ HasFs rE W3 g 0 [(T * D) * T'] from hG 8 (by simp))
    rw [e9] at e; cases e; exact h
  have HD9_q3 := Lib.hid (show q3 ≠ q9 by have := there_lt ht3 (by omega); omega)
  have HD9_q4 := Lib.hid (show q4 ≠ q9 by have := there_lt ht4 (by omega); omega)
  have HD9_q5 := Lib.hid (show q5 ≠ q9 by have := there_lt ht5 (by omega); omega)
  have HD9_q6 := Lib.hid (show q6 ≠ q9 by have := there_lt ht6 (by omega); omega)
  have HD9_q7 := Lib.hid (show q7 ≠ q9 by have := there_lt ht7 (by omega); omega)
  have HD9_q8 := Lib.hid (show q8 ≠ q9 by have := there_lt ht8 (by omega); omega)
  have hq9 : w.heap.size ≤ q9 := by have := hbel0.size; omega
  have E9 := Lib.hid e9; clear e9
  have hb := hJ.all rfl
  have hbel := Below.call hbel hb
  have hm3 := hm3.later hb
  have hm4 := hm4.later hb
  have hm5 := hm5.later hb
  have hm7 := hm7.later hb
  have hm8 := hm8.later hb
  have ht3 := there_later ht3 hb
  have ht4 := there_later ht4 hb
  have ht5 := there_later ht5 hb
  have ht6 := there_later ht6 hb
  have ht7 := there_later ht7 hb
  have ht8 := there_later ht8 hb
  have hbel0 := hbel
  clear hJ hG hall hb
  go_upto_region 4 with fail
  refine wp_region_turn (fun u => (v0 :: v1 :: v2 :: u0 0 :: u0 1 :: u0 2 :: u0 3 :: u1 11 :: u2 11 :: u3 7 :: u 5 :: undef :: undef :: undef :: undef :: u1 0 :: u1 1 :: u1 2 :: u1 3 :: u1 4 :: u1 5 :: u1 6 :: u1 7 :: u1 8 :: u1 9 :: u1 10 :: u2 0 :: u2 1 :: u2 2 :: u2 3 :: u2 4 :: u2 5 :: u2 6 :: u2 7 :: u2 8 :: u2 9 :: u2 10 :: u3 0 :: u3 1 :: u3 2 :: u3 3 :: u3 4 :: u3 5 :: u3 6 :: u 0 :: u 1 :: u 2 :: u 3 :: u 4 :: undef :: undef :: undef :: undef :: undef :: undef :: undef :: undef :: undef :: undef :: undef :: undef :: undef :: undef :: undef :: undef :: undef :: undef :: undef :: undef :: undef :: undef :: undef :: undef :: undef :: undef :: undef :: undef :: []).toArray) (Holds [.ptr q3 10, .val rE [Z], .ptr q4 10, .val rE [Z'], .val rE [Z * Z'], .new 5, .st 5 rE [Z * Z']] W3) (Keep [.ptr q3 10, .val rE [Z], .ptr q4 10, .val rE [Z'], .val rE [Z * Z'], .new 5, .st 5 rE [Z * Z']] W3) (fun _ => undef) ?_ (by rfl) Keep.start (holds_soft (by kernel_rfl)) ?_ ?_
  · intro u i v h
    rcases i with _ | _ | _ | _ | _ | _ | _ | i
    all_goals first | (simp [Act.put, putV]; done) | (exfalso; simp at h; omega)
  · intro hs
    refine ⟨?_, ?_, ?_, ?_, ?_, ?_, ?_, trivial⟩
    · exact step_field hs (wants_none rfl) rfl rfl (fun _ => E3.out) (field_P2 _)
    · exact step_loadF 0 q3 10 hs (wants_none rfl) rfl rfl tyE (fun _ => rfl) rfl (by kernel_rfl) hm3.lt (hm3.fld 2 1) (noSto_apart (by kernel_rfl))
    · exact step_field hs (wants_none rfl) rfl rfl (fun _ => E4.out) (field_P2 _)
    · exact step_loadF 2 q4 10 hs (wants_none rfl) rfl rfl tyE (fun _ => rfl) rfl (by kernel_rfl) hm4.lt (hm4.fld 2 1) (noSto_apart (by kernel_rfl))
    · refine step_call hs (wants_none rfl) rfl fun L u W hJ hG hL hdep K hK => ?_
      have a0 := (show IsFs rE (u 1) [Z] from hG 1 (hdep 1 (by kernel_rfl)))
      have a1 := (show IsFs rE (u 3) [Z'] from hG 3 (hdep 3 (by kernel_rfl)))
      go_simp
      go_at_call 42
      (with_reducible refine (cMul a0 a1 _).mono ?_); rintro e w1 ⟨r, rfl, hr, hb⟩
      have hk := hK.out _ _ hr hb
      exact hk
    · exact step_alloc hs (wants_none rfl) rfl rfl (by omega) rfl allocE
    · exact step_store 5 hs (by kernel_rfl) (wants_none rfl) rfl rfl rfl (by kernel_rfl) (by kernel_rfl) (by kernel_rfl) (by kernel_rfl) (fun _ => rfl) (gives_op 4 rfl (by kernel_rfl) (fun _ => rfl)) tyE rfl
  intro L4 u4 W4 hall hJ hG
  obtain ⟨q10, e10, hq10, _, ht10⟩ := (show ∃ g, u4 5 = .pointer (some ⟨g, 0, none⟩) ∧ W3.heap.size ≤ g ∧ 0 < 5 ∧ W4.there g 0 5 from hG 5 (by simp))
  have hm10 : HasFs rE W4 q10 0 [Z * Z'] := by
    obtain ⟨g, e, _, h⟩ := (show ∃ g, u4 5 = .pointer (some ⟨g, 0, none⟩) ∧ W3.heap.size ≤ g ∧ HasFs rE W4 g 0 [Z * Z'] from hG 6 (by simp))
    rw [e10] at e; cases e; exact h
  have HD10_q3 := Lib.hid (show q3 ≠ q10 by have := there_lt ht3 (by omega); omega)
  have HD10_q4 := Lib.hid (show q4 ≠ q10 by have := there_lt ht4 (by omega); omega)
  have HD10_q5 := Lib.hid (show q5 ≠ q10 by have := there_lt ht5 (by omega); omega)
  have HD10_q6 := Lib.hid (show q6 ≠ q10 by have := there_lt ht6 (by omega); omega)
  have HD10_q7 := Lib.hid (show q7 ≠ q10 by have := there_lt ht7 (by omega); omega)
  have HD10_q8 := Lib.hid (show q8 ≠ q10 by have := there_lt ht8 (by omega); omega)
  have HD10_q9 := Lib.hid (show q9 ≠ q10 by have := there_lt ht9 (by omega); omega)
  have hq10 : w.heap.size ≤ q10 := by have := hbel0.size; omega
  have E10 := Lib.hid e10; clear e10
  have hb := hJ.all rfl
  have hbel := Below.call hbel hb
  have hm3 := hm3.later hb
  have hm4 := hm4.later hb
  have hm5 := hm5.later hb
  have hm7 := hm7.later hb
  have hm8 := hm8.later hb
  have hm9 := hm9.later hb
  have ht3 := there_later ht3 hb
  have ht4 := there_later ht4 hb
  have ht5 := there_later ht5 hb
  have ht6 := there_later ht6 hb
  have ht7 := there_later ht7 hb
  have ht8 := there_later ht8 hb
  have ht9 := there_later ht9 hb
  have hbel0 := hbel
  clear hJ hG hall hb
  go_upto_region 5 with fail
  refine wp_region_turn (fun u => (v0 :: v1 :: v2 :: u0 0 :: u0 1 :: u0 2 :: u0 3 :: u1 11 :: u2 11 :: u3 7 :: u4 5 :: undef :: undef :: undef :: undef :: u1 0 :: u1 1 :: u1 2 :: u1 3 :: u1 4 :: u1 5 :: u1 6 :: u1 7 :: u1 8 :: u1 9 :: u1 10 :: u2 0 :: u2 1 :: u2 2 :: u2 3 :: u2 4 :: u2 5 :: u2 6 :: u2 7 :: u2 8 :: u2 9 :: u2 10 :: u3 0 :: u3 1 :: u3 2 :: u3 3 :: u3 4 :: u3 5 :: u3 6 :: u4 0 :: u4 1 :: u4 2 :: u4 3 :: u4 4 :: u 0 :: u 1 :: u 2 :: undef :: undef :: undef :: undef :: undef :: undef :: undef :: undef :: undef :: undef :: undef :: undef :: undef :: undef :: undef :: undef :: undef :: undef :: undef :: undef :: undef :: undef :: undef :: undef :: undef :: []).toArray) (Holds [.val rE [Z * Z'], .val rE [Z * Z'], .val rE [(Z * Z') + (Z * Z')], .sto q10 rE [(Z * Z') + (Z * Z')]] W4) (Keep [.val rE [Z * Z'], .val rE [Z * Z'], .val rE [(Z * Z') + (Z * Z')], .sto q10 rE [(Z * Z') + (Z * Z')]] W4) (fun _ => undef) ?_ (by rfl) Keep.start (holds_soft (by kernel_rfl)) ?_ ?_
  · intro u i v h
    rcases i with _ | _ | _ | _ | i
    all_goals first | (simp [Act.put, putV]; done) | (exfalso; simp at h; omega)
  · intro hs
    refine ⟨?_, ?_, ?_, ?_, trivial⟩
    · exact step_load q10 0 hs (wants_none rfl) rfl rfl tyE (fun _ => E10.out) hm10.lt hm10 (fun k g hk => by rcases k with _ | _ | _ | _ | k <;> first | (cases hk; done) | (cases hk; exact .inl (by kernel_rfl)))
    · exact step_load q10 0 hs (wants_none rfl) rfl rfl tyE (fun _ => E10.out) hm10.lt hm10 (fun k g hk => by rcases k with _ | _ | _ | _ | k <;> first | (cases hk; done) | (cases hk; exact .inl (by kernel_rfl)))
    · refine step_call hs (wants_none rfl) rfl fun L u W hJ hG hL hdep K hK => ?_
      have a0 := (show IsFs rE (u 0) [Z * Z'] from hG 0 (hdep 0 (by kernel_rfl)))
      have a1 := (show IsFs rE (u 1) [Z * Z'] from hG 1 (hdep 1 (by kernel_rfl)))
      go_simp
      go_at_call 45
      (with_reducible refine (cAdd a0 a1 _).mono ?_); rintro e w1 ⟨r, rfl, hr, hb⟩
      have hk := hK.out _ _ hr hb
      exact hk
    · refine step_storeO q10 5 hs (wants_none rfl) rfl rfl (by kernel_rfl) (fun k hk => ?_) (fun _ => E10.out) (there_lt ht10 (by omega)) ht10 (gives_op 2 rfl (by kernel_rfl) (fun _ => rfl)) tyE rfl
      rcases k with _ | _ | _ | _ | k
      all_goals first | (exact absurd rfl hk) | (intro e; cases e; done)
  intro L5 u5 W5 hall hJ hG
  have hb : Below w.heap.size W4 W5 := hJ.below (by have := hbel.size; omega) (fun k b hf => by rcases k with _ | _ | _ | _ | k <;> first | (cases hf; done) | (cases hf; omega))
  have hbel := hbel.trans hb
  have hm3 := hm3.blk (hJ.block _ (hm3.lt) (fun k hk => by rcases k with _ | _ | _ | _ | k <;> first | (cases hk; done) | (cases hk; exact absurd rfl (Ne.symm HD10_q3.out))))
  have hm4 := hm4.blk (hJ.block _ (hm4.lt) (fun k hk => by rcases k with _ | _ | _ | _ | k <;> first | (cases hk; done) | (cases hk; exact absurd rfl (Ne.symm HD10_q4.out))))
  have hm5 := hm5.blk (hJ.block _ (hm5.lt) (fun k hk => by rcases k with _ | _ | _ | _ | k <;> first | (cases hk; done) | (cases hk; exact absurd rfl (Ne.symm HD10_q5.out))))
  have hm7 := hm7.blk (hJ.block _ (hm7.lt) (fun k hk => by rcases k with _ | _ | _ | _ | k <;> first | (cases hk; done) | (cases hk; exact absurd rfl (Ne.symm HD10_q7.out))))
  have hm8 := hm8.blk (hJ.block _ (hm8.lt) (fun k hk => by rcases k with _ | _ | _ | _ | k <;> first | (cases hk; done) | (cases hk; exact absurd rfl (Ne.symm HD10_q8.out))))
  have hm9 := hm9.blk (hJ.block _ (hm9.lt) (fun k hk => by rcases k with _ | _ | _ | _ | k <;> first | (cases hk; done) | (cases hk; exact absurd rfl (Ne.symm HD10_q9.out))))
  have ht3 := there_blk ht3 (hJ.block _ (there_lt ht3 (by omega)) (fun k hk => by rcases k with _ | _ | _ | _ | k <;> first | (cases hk; done) | (cases hk; exact absurd rfl (Ne.symm HD10_q3.out))))
  have ht4 := there_blk ht4 (hJ.block _ (there_lt ht4 (by omega)) (fun k hk => by rcases k with _ | _ | _ | _ | k <;> first | (cases hk; done) | (cases hk; exact absurd rfl (Ne.symm HD10_q4.out))))
  have ht5 := there_blk ht5 (hJ.block _ (there_lt ht5 (by omega)) (fun k hk => by rcases k with _ | _ | _ | _ | k <;> first | (cases hk; done) | (cases hk; exact absurd rfl (Ne.symm HD10_q5.out))))
  have ht6 := there_blk ht6 (hJ.block _ (there_lt ht6 (by omega)) (fun k hk => by rcases k with _ | _ | _ | _ | k <;> first | (cases hk; done) | (cases hk; exact absurd rfl (Ne.symm HD10_q6.out))))
  have ht7 := there_blk ht7 (hJ.block _ (there_lt ht7 (by omega)) (fun k hk => by rcases k with _ | _ | _ | _ | k <;> first | (cases hk; done) | (cases hk; exact absurd rfl (Ne.symm HD10_q7.out))))
  have ht8 := there_blk ht8 (hJ.block _ (there_lt ht8 (by omega)) (fun k hk => by rcases k with _ | _ | _ | _ | k <;> first | (cases hk; done) | (cases hk; exact absurd rfl (Ne.symm HD10_q8.out))))
  have ht9 := there_blk ht9 (hJ.block _ (there_lt ht9 (by omega)) (fun k hk => by rcases k with _ | _ | _ | _ | k <;> first | (cases hk; done) | (cases hk; exact absurd rfl (Ne.symm HD10_q9.out))))
  obtain ⟨_, hs5_3t, hs5_3⟩ := (show _ ∧ W5.there q10 0 5 ∧ HasFs rE W5 q10 0 [(Z * Z') + (Z * Z')] from hG 3 (by simp))
  have hbel0 := hbel
  clear hJ hG hall hb
  go_upto_region 6 with fail
  refine wp_region_mid (fun u => (v0 :: v1 :: v2 :: u0 0 :: u0 1 :: u0 2 :: u0 3 :: u1 11 :: u2 11 :: u3 7 :: u4 5 :: u 12 :: u 13 :: u 14 :: u 15 :: u1 0 :: u1 1 :: u1 2 :: u1 3 :: u1 4 :: u1 5 :: u1 6 :: u1 7 :: u1 8 :: u1 9 :: u1 10 :: u2 0 :: u2 1 :: u2 2 :: u2 3 :: u2 4 :: u2 5 :: u2 6 :: u2 7 :: u2 8 :: u2 9 :: u2 10 :: u3 0 :: u3 1 :: u3 2 :: u3 3 :: u3 4 :: u3 5 :: u3 6 :: u4 0 :: u4 1 :: u4 2 :: u4 3 :: u4 4 :: u5 0 :: u5 1 :: u5 2 :: u 0 :: u 1 :: u 2 :: u 3 :: u 4 :: u 5 :: u 6 :: u 7 :: u 8 :: u 9 :: u 10 :: u 11 :: undef :: undef :: undef :: undef :: undef :: undef :: undef :: undef :: undef :: undef :: undef :: undef :: undef :: []).toArray) (Holds [.val rE [(Y + X) * (Y' + X')], .val rE [(Y - X) * (Y' - X')], .val rE [((Y + X) * (Y' + X')) - ((Y - X) * (Y' - X'))], .val rE [(Z * Z') + (Z * Z')], .val rE [(T * D) * T'], .val rE [((Z * Z') + (Z * Z')) - ((T * D) * T')], .val rE [(Z * Z') + (Z * Z')], .val rE [(T * D) * T'], .val rE [((Z * Z') + (Z * Z')) + ((T * D) * T')], .val rE [(Y + X) * (Y' + X')], .val rE [(Y - X) * (Y' - X')], .val rE [((Y + X) * (Y' + X')) + ((Y - X) * (Y' - X'))], .new 5, .new 5, .new 5, .new 5, .st 12 rE [((Y + X) * (Y' + X')) - ((Y - X) * (Y' - X'))], .st 13 rE [((Z * Z') + (Z * Z')) - ((T * D) * T')], .st 14 rE [((Z * Z') + (Z * Z')) + ((T * D) * T')], .st 15 rE [((Y + X) * (Y' + X')) + ((Y - X) * (Y' - X'))]] W5) (Keep [.val rE [(Y + X) * (Y' + X')], .val rE [(Y - X) * (Y' - X')], .val rE [((Y + X) * (Y' + X')) - ((Y - X) * (Y' - X'))], .val rE [(Z * Z') + (Z * Z')], .val rE [(T * D) * T'], .val rE [((Z * Z') + (Z * Z')) - ((T * D) * T')], .val rE [(Z * Z') + (Z * Z')], .val rE [(T * D) * T'], .val rE [((Z * Z') + (Z * Z')) + ((T * D) * T')], .val rE [(Y + X) * (Y' + X')], .val rE [(Y - X) * (Y' - X')], .val rE [((Y + X) * (Y' + X')) + ((Y - X) * (Y' - X'))], .new 5, .new 5, .new 5, .new 5, .st 12 rE [((Y + X) * (Y' + X')) - ((Y - X) * (Y' - X'))], .st 13 rE [((Z * Z') + (Z * Z')) - ((T * D) * T')], .st 14 rE [((Z * Z') + (Z * Z')) + ((T * D) * T')], .st 15 rE [((Y + X) * (Y' + X')) + ((Y - X) * (Y' - X'))]] W5) (fun _ => undef) (by kernel_rfl) (by kernel_rfl) ?_ (by rfl) Keep.drew (holds_soft (by kernel_rfl)) ?_ ?_
  · intro u i v h
    rcases i with _ | _ | _ | _ | _ | _ | _ | _ | _ | _ | _ | _ | _ | _ | _ | _ | _ | _ | _ | _ | i
    all_goals first | (simp [Act.put, putV]; done) | (exfalso; simp at h; omega)
  · intro hs
    refine ⟨?_, ?_, ?_, ?_, ?_, ?_, ?_, ?_, ?_, ?_, ?_, ?_, ?_, ?_, ?_, ?_, ?_, ?_, ?_, ?_, trivial⟩
    · exact step_load q8 0 hs (wants_none rfl) rfl rfl tyE (fun _ => E8.out) hm8.lt hm8 (noSto_apart (by kernel_rfl))
    · exact step_load q7 0 hs (wants_none rfl) rfl rfl tyE (fun _ => E7.out) hm7.lt hm7 (noSto_apart (by kernel_rfl))
    · refine step_call hs (wants_none rfl) rfl fun L u W hJ hG hL hdep K hK => ?_
      have a0 := (show IsFs rE (u 0) [(Y + X) * (Y' + X')] from hG 0 (hdep 0 (by kernel_rfl)))
      have a1 := (show IsFs rE (u 1) [(Y - X) * (Y' - X')] from hG 1 (hdep 1 (by kernel_rfl)))
      go_simp
      go_at_call 43
      (with_reducible refine (cSub a0 a1 _).mono ?_); rintro e w1 ⟨r, rfl, hr, hb⟩
      have hk := hK.out _ _ hr hb
      exact hk
    · exact step_load q10 0 hs (wants_none rfl) rfl rfl tyE (fun _ => E10.out) hs5_3.lt hs5_3 (noSto_apart (by kernel_rfl))
    · exact step_load q9 0 hs (wants_none rfl) rfl rfl tyE (fun _ => E9.out) hm9.lt hm9 (noSto_apart (by kernel_rfl))
    · refine step_call hs (wants_none rfl) rfl fun L u W hJ hG hL hdep K hK => ?_
      have a0 := (show IsFs rE (u 3) [(Z * Z') + (Z * Z')] from hG 3 (hdep 3 (by kernel_rfl)))
      have a1 := (show IsFs rE (u 4) [(T * D) * T'] from hG 4 (hdep 4 (by kernel_rfl)))
      go_simp
      go_at_call 43
      (with_reducible refine (cSub a0 a1 _).mono ?_); rintro e w1 ⟨r, rfl, hr, hb⟩
      have hk := hK.out _ _ hr hb
      exact hk
    · exact step_load q10 0 hs (wants_none rfl) rfl rfl tyE (fun _ => E10.out) hs5_3.lt hs5_3 (noSto_apart (by kernel_rfl))
    · exact step_load q9 0 hs (wants_none rfl) rfl rfl tyE (fun _ => E9.out) hm9.lt hm9 (noSto_apart (by kernel_rfl))
    · refine step_call hs (wants_none rfl) rfl fun L u W hJ hG hL hdep K hK => ?_
      have a0 := (show IsFs rE (u 6) [(Z * Z') + (Z * Z')] from hG 6 (hdep 6 (by kernel_rfl)))
      have a1 := (show IsFs rE (u 7) [(T * D) * T'] from hG 7 (hdep 7 (by kernel_rfl)))
      go_simp
      go_at_call 45
      (with_reducible refine (cAdd a0 a1 _).mono ?_); rintro e w1 ⟨r, rfl, hr, hb⟩
      have hk := hK.out _ _ hr hb
      exact hk
    · exact step_load q8 0 hs (wants_none rfl) rfl rfl tyE (fun _ => E8.out) hm8.lt hm8 (noSto_apart (by kernel_rfl))
    · exact step_load q7 0 hs (wants_none rfl) rfl rfl tyE (fun _ => E7.out) hm7.lt hm7 (noSto_apart (by kernel_rfl))
    · refine step_call hs (wants_none rfl) rfl fun L u W hJ hG hL hdep K hK => ?_
      have a0 := (show IsFs rE (u 9) [(Y + X) * (Y' + X')] from hG 9 (hdep 9 (by kernel_rfl)))
      have a1 := (show IsFs rE (u 10) [(Y - X) * (Y' - X')] from hG 10 (hdep 10 (by kernel_rfl)))
      go_simp
      go_at_call 45
      (with_reducible refine (cAdd a0 a1 _).mono ?_); rintro e w1 ⟨r, rfl, hr, hb⟩
      have hk := hK.out _ _ hr hb
      exact hk
    · exact step_alloc hs (wants_none rfl) rfl rfl (by omega) rfl allocE
    · exact step_alloc hs (wants_none rfl) rfl rfl (by omega) rfl allocE
    · exact step_alloc hs (wants_none rfl) rfl rfl (by omega) rfl allocE
    · exact step_alloc hs (wants_none rfl) rfl rfl (by omega) rfl allocE
    · exact step_store 12 hs (by kernel_rfl) (wants_none rfl) rfl rfl rfl (by kernel_rfl) (by kernel_rfl) (by kernel_rfl) (by kernel_rfl) (fun _ => rfl) (gives_op 2 rfl (by kernel_rfl) (fun _ => rfl)) tyE rfl
    · exact step_store 13 hs (by kernel_rfl) (wants_none rfl) rfl rfl rfl (by kernel_rfl) (by kernel_rfl) (by kernel_rfl) (by kernel_rfl) (fun _ => rfl) (gives_op 5 rfl (by kernel_rfl) (fun _ => rfl)) tyE rfl
    · exact step_store 14 hs (by kernel_rfl) (wants_none rfl) rfl rfl rfl (by kernel_rfl) (by kernel_rfl) (by kernel_rfl) (by kernel_rfl) (fun _ => rfl) (gives_op 8 rfl (by kernel_rfl) (fun _ => rfl)) tyE rfl
    · exact step_store 15 hs (by kernel_rfl) (wants_none rfl) rfl rfl rfl (by kernel_rfl) (by kernel_rfl) (by kernel_rfl) (by kernel_rfl) (fun _ => rfl) (gives_op 11 rfl (by kernel_rfl) (fun _ => rfl)) tyE rfl
  intro L6 u6 W6 hall hJ hG
  obtain ⟨q11, e11, hq11, _, ht11⟩ := (show ∃ g, u6 12 = .pointer (some ⟨g, 0, none⟩) ∧ W5.heap.size ≤ g ∧ 0 < 5 ∧ W6.there g 0 5 from hG 12 (by simp))
  have hm11 : HasFs rE W6 q11 0 [((Y + X) * (Y' + X')) - ((Y - X) * (Y' - X'))] := by
    obtain ⟨g, e, _, h⟩ := (show ∃ g, u6 12 = .pointer (some ⟨g, 0, none⟩) ∧ W5.heap.size ≤ g ∧ HasFs rE W6 g 0 [((Y + X) * (Y' + X')) - ((Y - X) * (Y' - X'))] from hG 16 (by simp))
    rw [e11] at e; cases e; exact h
  have HD11_q3 := Lib.hid (show q3 ≠ q11 by have := there_lt ht3 (by omega); omega)
  have HD11_q4 := Lib.hid (show q4 ≠ q11 by have := there_lt ht4 (by omega); omega)
  have HD11_q5 := Lib.hid (show q5 ≠ q11 by have := there_lt ht5 (by omega); omega)
  have HD11_q6 := Lib.hid (show q6 ≠ q11 by have := there_lt ht6 (by omega); omega)
  have HD11_q7 := Lib.hid (show q7 ≠ q11 by have := there_lt ht7 (by omega); omega)
  have HD11_q8 := Lib.hid (show q8 ≠ q11 by have := there_lt ht8 (by omega); omega)
  have HD11_q9 := Lib.hid (show q9 ≠ q11 by have := there_lt ht9 (by omega); omega)
  have HD11_q10 := Lib.hid (show q10 ≠ q11 by have := there_lt hs5_3t (by omega); omega)
  have hq11 : w.heap.size ≤ q11 := by have := hbel0.size; omega
  have E11 := Lib.hid e11; clear e11
  obtain ⟨q12, e12, hq12, _, ht12⟩ := (show ∃ g, u6 13 = .pointer (some ⟨g, 0, none⟩) ∧ W5.heap.size ≤ g ∧ 0 < 5 ∧ W6.there g 0 5 from hG 13 (by simp))
  have hm12 : HasFs rE W6 q12 0 [((Z * Z') + (Z * Z')) - ((T * D) * T')] := by
    obtain ⟨g, e, _, h⟩ := (show ∃ g, u6 13 = .pointer (some ⟨g, 0, none⟩) ∧ W5.heap.size ≤ g ∧ HasFs rE W6 g 0 [((Z * Z') + (Z * Z')) - ((T * D) * T')] from hG 17 (by simp))
    rw [e12] at e; cases e; exact h
  have HD12_q3 := Lib.hid (show q3 ≠ q12 by have := there_lt ht3 (by omega); omega)
  have HD12_q4 := Lib.hid (show q4 ≠ q12 by have := there_lt ht4 (by omega); omega)
  have HD12_q5 := Lib.hid (show q5 ≠ q12 by have := there_lt ht5 (by omega); omega)
  have HD12_q6 := Lib.hid (show q6 ≠ q12 by have := there_lt ht6 (by omega); omega)
  have HD12_q7 := Lib.hid (show q7 ≠ q12 by have := there_lt ht7 (by omega); omega)
  have HD12_q8 := Lib.hid (show q8 ≠ q12 by have := there_lt ht8 (by omega); omega)
  have HD12_q9 := Lib.hid (show q9 ≠ q12 by have := there_lt ht9 (by omega); omega)
  have HD12_q10 := Lib.hid (show q10 ≠ q12 by have := there_lt hs5_3t (by omega); omega)
  have hq12 : w.heap.size ≤ q12 := by have := hbel0.size; omega
  have E12 := Lib.hid e12; clear e12
  obtain ⟨q13, e13, hq13, _, ht13⟩ := (show ∃ g, u6 14 = .pointer (some ⟨g, 0, none⟩) ∧ W5.heap.size ≤ g ∧ 0 < 5 ∧ W6.there g 0 5 from hG 14 (by simp))
  have hm13 : HasFs rE W6 q13 0 [((Z * Z') + (Z * Z')) + ((T * D) * T')] := by
    obtain ⟨g, e, _, h⟩ := (show ∃ g, u6 14 = .pointer (some ⟨g, 0, none⟩) ∧ W5.heap.size ≤ g ∧ HasFs rE W6 g 0 [((Z * Z') + (Z * Z')) + ((T * D) * T')] from hG 18 (by simp))
    rw [e13] at e; cases e; exact h
  have HD13_q3 := Lib.hid (show q3 ≠ q13 by have := there_lt ht3 (by omega); omega)
  have HD13_q4 := Lib.hid (show q4 ≠ q13 by have := there_lt ht4 (by omega); omega)
  have HD13_q5 := Lib.hid (show q5 ≠ q13 by have := there_lt ht5 (by omega); omega)
  have HD13_q6 := Lib.hid (show q6 ≠ q13 by have := there_lt ht6 (by omega); omega)
  have HD13_q7 := Lib.hid (show q7 ≠ q13 by have := there_lt ht7 (by omega); omega)
  have HD13_q8 := Lib.hid (show q8 ≠ q13 by have := there_lt ht8 (by omega); omega)
  have HD13_q9 := Lib.hid (show q9 ≠ q13 by have := there_lt ht9 (by omega); omega)
  have HD13_q10 := Lib.hid (show q10 ≠ q13 by have := there_lt hs5_3t (by omega); omega)
  have hq13 : w.heap.size ≤ q13 := by have := hbel0.size; omega
  have E13 := Lib.hid e13; clear e13
  obtain ⟨q14, e14, hq14, _, ht14⟩ := (show ∃ g, u6 15 = .pointer (some ⟨g, 0, none⟩) ∧ W5.heap.size ≤ g ∧ 0 < 5 ∧ W6.there g 0 5 from hG 15 (by simp))
  have hm14 : HasFs rE W6 q14 0 [((Y + X) * (Y' + X')) + ((Y - X) * (Y' - X'))] := by
    obtain ⟨g, e, _, h⟩ := (show ∃ g, u6 15 = .pointer (some ⟨g, 0, none⟩) ∧ W5.heap.size ≤ g ∧ HasFs rE W6 g 0 [((Y + X) * (Y' + X')) + ((Y - X) * (Y' - X'))] from hG 19 (by simp))
    rw [e14] at e; cases e; exact h
  have HD14_q3 := Lib.hid (show q3 ≠ q14 by have := there_lt ht3 (by omega); omega)
  have HD14_q4 := Lib.hid (show q4 ≠ q14 by have := there_lt ht4 (by omega); omega)
  have HD14_q5 := Lib.hid (show q5 ≠ q14 by have := there_lt ht5 (by omega); omega)
  have HD14_q6 := Lib.hid (show q6 ≠ q14 by have := there_lt ht6 (by omega); omega)
  have HD14_q7 := Lib.hid (show q7 ≠ q14 by have := there_lt ht7 (by omega); omega)
  have HD14_q8 := Lib.hid (show q8 ≠ q14 by have := there_lt ht8 (by omega); omega)
  have HD14_q9 := Lib.hid (show q9 ≠ q14 by have := there_lt ht9 (by omega); omega)
  have HD14_q10 := Lib.hid (show q10 ≠ q14 by have := there_lt hs5_3t (by omega); omega)
  have hq14 : w.heap.size ≤ q14 := by have := hbel0.size; omega
  have E14 := Lib.hid e14; clear e14
  have hb := hJ.all rfl
  have hbel := Below.call hbel hb
  have hm3 := hm3.later hb
  have hm4 := hm4.later hb
  have hm5 := hm5.later hb
  have hm7 := hm7.later hb
  have hm8 := hm8.later hb
  have hm9 := hm9.later hb
  have hs5_3 := hs5_3.later hb
  have ht3 := there_later ht3 hb
  have ht4 := there_later ht4 hb
  have ht5 := there_later ht5 hb
  have ht6 := there_later ht6 hb
  have ht7 := there_later ht7 hb
  have ht8 := there_later ht8 hb
  have ht9 := there_later ht9 hb
  have hs5_3t := there_later hs5_3t hb
  have HN11_12 := Lib.hid (show q11 ≠ q12 from fun e => hJ.apart 12 13 _ (by omega) (hall _ (by simp)) (hall _ (by simp)) rfl rfl (E11.out.trans (by rw [e])) E12.out)
  have HN11_13 := Lib.hid (show q11 ≠ q13 from fun e => hJ.apart 12 14 _ (by omega) (hall _ (by simp)) (hall _ (by simp)) rfl rfl (E11.out.trans (by rw [e])) E13.out)
  have HN11_14 := Lib.hid (show q11 ≠ q14 from fun e => hJ.apart 12 15 _ (by omega) (hall _ (by simp)) (hall _ (by simp)) rfl rfl (E11.out.trans (by rw [e])) E14.out)
  have HN12_13 := Lib.hid (show q12 ≠ q13 from fun e => hJ.apart 13 14 _ (by omega) (hall _ (by simp)) (hall _ (by simp)) rfl rfl (E12.out.trans (by rw [e])) E13.out)
  have HN12_14 := Lib.hid (show q12 ≠ q14 from fun e => hJ.apart 13 15 _ (by omega) (hall _ (by simp)) (hall _ (by simp)) rfl rfl (E12.out.trans (by rw [e])) E14.out)
  have HN13_14 := Lib.hid (show q13 ≠ q14 from fun e => hJ.apart 14 15 _ (by omega) (hall _ (by simp)) (hall _ (by simp)) rfl rfl (E13.out.trans (by rw [e])) E14.out)
  have hbel0 := hbel
  clear hJ hG hall hb
  go_upto_region 7 with fail
  refine wp_region_mid (fun u => (v0 :: v1 :: v2 :: u0 0 :: u0 1 :: u0 2 :: u0 3 :: u1 11 :: u2 11 :: u3 7 :: u4 5 :: u6 12 :: u6 13 :: u6 14 :: u6 15 :: u1 0 :: u1 1 :: u1 2 :: u1 3 :: u1 4 :: u1 5 :: u1 6 :: u1 7 :: u1 8 :: u1 9 :: u1 10 :: u2 0 :: u2 1 :: u2 2 :: u2 3 :: u2 4 :: u2 5 :: u2 6 :: u2 7 :: u2 8 :: u2 9 :: u2 10 :: u3 0 :: u3 1 :: u3 2 :: u3 3 :: u3 4 :: u3 5 :: u3 6 :: u4 0 :: u4 1 :: u4 2 :: u4 3 :: u4 4 :: u5 0 :: u5 1 :: u5 2 :: u6 0 :: u6 1 :: u6 2 :: u6 3 :: u6 4 :: u6 5 :: u6 6 :: u6 7 :: u6 8 :: u6 9 :: u6 10 :: u6 11 :: u 0 :: u 1 :: u 2 :: u 3 :: u 4 :: u 5 :: u 6 :: u 7 :: u 8 :: u 9 :: u 10 :: u 11 :: u 12 :: []).toArray) (Holds [.val rE [((Y + X) * (Y' + X')) - ((Y - X) * (Y' - X'))], .val rE [((Z * Z') + (Z * Z')) - ((T * D) * T')], .val rE [(((Y + X) * (Y' + X')) - ((Y - X) * (Y' - X'))) * (((Z * Z') + (Z * Z')) - ((T * D) * T'))], .val rE [((Z * Z') + (Z * Z')) + ((T * D) * T')], .val rE [((Y + X) * (Y' + X')) + ((Y - X) * (Y' - X'))], .val rE [(((Z * Z') + (Z * Z')) + ((T * D) * T')) * (((Y + X) * (Y' + X')) + ((Y - X) * (Y' - X')))], .val rE [((Z * Z') + (Z * Z')) - ((T * D) * T')], .val rE [((Z * Z') + (Z * Z')) + ((T * D) * T')], .val rE [(((Z * Z') + (Z * Z')) - ((T * D) * T')) * (((Z * Z') + (Z * Z')) + ((T * D) * T'))], .val rE [((Y + X) * (Y' + X')) - ((Y - X) * (Y' - X'))], .val rE [((Y + X) * (Y' + X')) + ((Y - X) * (Y' - X'))], .val rE [(((Y + X) * (Y' + X')) - ((Y - X) * (Y' - X'))) * (((Y + X) * (Y' + X')) + ((Y - X) * (Y' - X')))], .val rE [(((Y + X) * (Y' + X')) - ((Y - X) * (Y' - X'))) * (((Z * Z') + (Z * Z')) - ((T * D) * T')), (((Z * Z') + (Z * Z')) + ((T * D) * T')) * (((Y + X) * (Y' + X')) + ((Y - X) * (Y' - X'))), (((Z * Z') + (Z * Z')) - ((T * D) * T')) * (((Z * Z') + (Z * Z')) + ((T * D) * T')), (((Y + X) * (Y' + X')) - ((Y - X) * (Y' - X'))) * (((Y + X) * (Y' + X')) + ((Y - X) * (Y' - X')))], .sto q6 rE [(((Y + X) * (Y' + X')) - ((Y - X) * (Y' - X'))) * (((Z * Z') + (Z * Z')) - ((T * D) * T')), (((Z * Z') + (Z * Z')) + ((T * D) * T')) * (((Y + X) * (Y' + X')) + ((Y - X) * (Y' - X'))), (((Z * Z') + (Z * Z')) - ((T * D) * T')) * (((Z * Z') + (Z * Z')) + ((T * D) * T')), (((Y + X) * (Y' + X')) - ((Y - X) * (Y' - X'))) * (((Y + X) * (Y' + X')) + ((Y - X) * (Y' - X')))]] W6) (Keep [.val rE [((Y + X) * (Y' + X')) - ((Y - X) * (Y' - X'))], .val rE [((Z * Z') + (Z * Z')) - ((T * D) * T')], .val rE [(((Y + X) * (Y' + X')) - ((Y - X) * (Y' - X'))) * (((Z * Z') + (Z * Z')) - ((T * D) * T'))], .val rE [((Z * Z') + (Z * Z')) + ((T * D) * T')], .val rE [((Y + X) * (Y' + X')) + ((Y - X) * (Y' - X'))], .val rE [(((Z * Z') + (Z * Z')) + ((T * D) * T')) * (((Y + X) * (Y' + X')) + ((Y - X) * (Y' - X')))], .val rE [((Z * Z') + (Z * Z')) - ((T * D) * T')], .val rE [((Z * Z') + (Z * Z')) + ((T * D) * T')], .val rE [(((Z * Z') + (Z * Z')) - ((T * D) * T')) * (((Z * Z') + (Z * Z')) + ((T * D) * T'))], .val rE [((Y + X) * (Y' + X')) - ((Y - X) * (Y' - X'))], .val rE [((Y + X) * (Y' + X')) + ((Y - X) * (Y' - X'))], .val rE [(((Y + X) * (Y' + X')) - ((Y - X) * (Y' - X'))) * (((Y + X) * (Y' + X')) + ((Y - X) * (Y' - X')))], .val rE [(((Y + X) * (Y' + X')) - ((Y - X) * (Y' - X'))) * (((Z * Z') + (Z * Z')) - ((T * D) * T')), (((Z * Z') + (Z * Z')) + ((T * D) * T')) * (((Y + X) * (Y' + X')) + ((Y - X) * (Y' - X'))), (((Z * Z') + (Z * Z')) - ((T * D) * T')) * (((Z * Z') + (Z * Z')) + ((T * D) * T')), (((Y + X) * (Y' + X')) - ((Y - X) * (Y' - X'))) * (((Y + X) * (Y' + X')) + ((Y - X) * (Y' - X')))], .sto q6 rE [(((Y + X) * (Y' + X')) - ((Y - X) * (Y' - X'))) * (((Z * Z') + (Z * Z')) - ((T * D) * T')), (((Z * Z') + (Z * Z')) + ((T * D) * T')) * (((Y + X) * (Y' + X')) + ((Y - X) * (Y' - X'))), (((Z * Z') + (Z * Z')) - ((T * D) * T')) * (((Z * Z') + (Z * Z')) + ((T * D) * T')), (((Y + X) * (Y' + X')) - ((Y - X) * (Y' - X'))) * (((Y + X) * (Y' + X')) + ((Y - X) * (Y' - X')))]] W6) (fun _ => undef) (by kernel_rfl) (by kernel_rfl) ?_ (by rfl) Keep.drew (holds_soft (by kernel_rfl)) ?_ ?_
  · intro u i v h
    rcases i with _ | _ | _ | _ | _ | _ | _ | _ | _ | _ | _ | _ | _ | _ | i
    all_goals first | (simp [Act.put, putV]; done) | (exfalso; simp at h; omega)
  · intro hs
    refine ⟨?_, ?_, ?_, ?_, ?_, ?_, ?_, ?_, ?_, ?_, ?_, ?_, ?_, ?_, trivial⟩
    · exact step_load q11 0 hs (wants_none rfl) rfl rfl tyE (fun _ => E11.out) hm11.lt hm11 (fun k g hk => by rcases k with _ | _ | _ | _ | _ | _ | _ | _ | _ | _ | _ | _ | _ | _ | k <;> first | (cases hk; done) | (cases hk; exact .inr HD11_q6.out))
    · exact step_load q12 0 hs (wants_none rfl) rfl rfl tyE (fun _ => E12.out) hm12.lt hm12 (fun k g hk => by rcases k with _ | _ | _ | _ | _ | _ | _ | _ | _ | _ | _ | _ | _ | _ | k <;> first | (cases hk; done) | (cases hk; exact .inr HD12_q6.out))
    · refine step_call hs (wants_none rfl) rfl fun L u W hJ hG hL hdep K hK => ?_
      have a0 := (show IsFs rE (u 0) [((Y + X) * (Y' + X')) - ((Y - X) * (Y' - X'))] from hG 0 (hdep 0 (by kernel_rfl)))
      have a1 := (show IsFs rE (u 1) [((Z * Z') + (Z * Z')) - ((T * D) * T')] from hG 1 (hdep 1 (by kernel_rfl)))
      go_simp
      go_at_call 42
      (with_reducible refine (cMul a0 a1 _).mono ?_); rintro e w1 ⟨r, rfl, hr, hb⟩
      have hk := hK.out _ _ hr hb
      exact hk
    · exact step_load q13 0 hs (wants_none rfl) rfl rfl tyE (fun _ => E13.out) hm13.lt hm13 (fun k g hk => by rcases k with _ | _ | _ | _ | _ | _ | _ | _ | _ | _ | _ | _ | _ | _ | k <;> first | (cases hk; done) | (cases hk; exact .inr HD13_q6.out))
    · exact step_load q14 0 hs (wants_none rfl) rfl rfl tyE (fun _ => E14.out) hm14.lt hm14 (fun k g hk => by rcases k with _ | _ | _ | _ | _ | _ | _ | _ | _ | _ | _ | _ | _ | _ | k <;> first | (cases hk; done) | (cases hk; exact .inr HD14_q6.out))
    · refine step_call hs (wants_none rfl) rfl fun L u W hJ hG hL hdep K hK => ?_
      have a0 := (show IsFs rE (u 3) [((Z * Z') + (Z * Z')) + ((T * D) * T')] from hG 3 (hdep 3 (by kernel_rfl)))
      have a1 := (show IsFs rE (u 4) [((Y + X) * (Y' + X')) + ((Y - X) * (Y' - X'))] from hG 4 (hdep 4 (by kernel_rfl)))
      go_simp
      go_at_call 42
      (with_reducible refine (cMul a0 a1 _).mono ?_); rintro e w1 ⟨r, rfl, hr, hb⟩
      have hk := hK.out _ _ hr hb
      exact hk
    · exact step_load q12 0 hs (wants_none rfl) rfl rfl tyE (fun _ => E12.out) hm12.lt hm12 (fun k g hk => by rcases k with _ | _ | _ | _ | _ | _ | _ | _ | _ | _ | _ | _ | _ | _ | k <;> first | (cases hk; done) | (cases hk; exact .inr HD12_q6.out))
    · exact step_load q13 0 hs (wants_none rfl) rfl rfl tyE (fun _ => E13.out) hm13.lt hm13 (fun k g hk => by rcases k with _ | _ | _ | _ | _ | _ | _ | _ | _ | _ | _ | _ | _ | _ | k <;> first | (cases hk; done) | (cases hk; exact .inr HD13_q6.out))
    · refine step_call hs (wants_none rfl) rfl fun L u W hJ hG hL hdep K hK => ?_
      have a0 := (show IsFs rE (u 6) [((Z * Z') + (Z * Z')) - ((T * D) * T')] from hG 6 (hdep 6 (by kernel_rfl)))
      have a1 := (show IsFs rE (u 7) [((Z * Z') + (Z * Z')) + ((T * D) * T')] from hG 7 (hdep 7 (by kernel_rfl)))
      go_simp
      go_at_call 42
      (with_reducible refine (cMul a0 a1 _).mono ?_); rintro e w1 ⟨r, rfl, hr, hb⟩
      have hk := hK.out _ _ hr hb
      exact hk
    · exact step_load q11 0 hs (wants_none rfl) rfl rfl tyE (fun _ => E11.out) hm11.lt hm11 (fun k g hk => by rcases k with _ | _ | _ | _ | _ | _ | _ | _ | _ | _ | _ | _ | _ | _ | k <;> first | (cases hk; done) | (cases hk; exact .inr HD11_q6.out))
    · exact step_load q14 0 hs (wants_none rfl) rfl rfl tyE (fun _ => E14.out) hm14.lt hm14 (fun k g hk => by rcases k with _ | _ | _ | _ | _ | _ | _ | _ | _ | _ | _ | _ | _ | _ | k <;> first | (cases hk; done) | (cases hk; exact .inr HD14_q6.out))
    · refine step_call hs (wants_none rfl) rfl fun L u W hJ hG hL hdep K hK => ?_
      have a0 := (show IsFs rE (u 9) [((Y + X) * (Y' + X')) - ((Y - X) * (Y' - X'))] from hG 9 (hdep 9 (by kernel_rfl)))
      have a1 := (show IsFs rE (u 10) [((Y + X) * (Y' + X')) + ((Y - X) * (Y' - X'))] from hG 10 (hdep 10 (by kernel_rfl)))
      go_simp
      go_at_call 42
      (with_reducible refine (cMul a0 a1 _).mono ?_); rintro e w1 ⟨r, rfl, hr, hb⟩
      have hk := hK.out _ _ hr hb
      exact hk
    · refine step_pure hs (wants_none rfl) rfl fun L u W hG hdep => ?_
      have a0 := (show IsFs rE (u 2) [(((Y + X) * (Y' + X')) - ((Y - X) * (Y' - X'))) * (((Z * Z') + (Z * Z')) - ((T * D) * T'))] from hG 2 (hdep 2 (by kernel_rfl)))
      have a1 := (show IsFs rE (u 5) [(((Z * Z') + (Z * Z')) + ((T * D) * T')) * (((Y + X) * (Y' + X')) + ((Y - X) * (Y' - X')))] from hG 5 (hdep 5 (by kernel_rfl)))
      have a2 := (show IsFs rE (u 8) [(((Z * Z') + (Z * Z')) - ((T * D) * T')) * (((Z * Z') + (Z * Z')) + ((T * D) * T'))] from hG 8 (hdep 8 (by kernel_rfl)))
      have a3 := (show IsFs rE (u 11) [(((Y + X) * (Y' + X')) - ((Y - X) * (Y' - X'))) * (((Y + X) * (Y' + X')) + ((Y - X) * (Y' - X')))] from hG 11 (hdep 11 (by kernel_rfl)))
      obtain ⟨r, hr, hx⟩ := build_P a0 a1 a2 a3 W
      exact ⟨r, run_build4 rfl hr, hx⟩
    · refine step_storeO q6 20 hs (wants_none rfl) rfl rfl (by kernel_rfl) (fun k hk => ?_) (fun _ => E6.out) (there_lt ht6 (by omega)) ht6 (gives_op 12 rfl (by kernel_rfl) (fun _ => rfl)) tyP4 rfl
      rcases k with _ | _ | _ | _ | _ | _ | _ | _ | _ | _ | _ | _ | _ | _ | k
      all_goals first | (exact absurd rfl hk) | (intro e; cases e; done)
  intro L7 u7 W7 hall hJ hG
  have hb : Below w.heap.size W6 W7 := hJ.below (by have := hbel.size; omega) (fun k b hf => by rcases k with _ | _ | _ | _ | _ | _ | _ | _ | _ | _ | _ | _ | _ | _ | k <;> first | (cases hf; done) | (cases hf; omega))
  have hbel := hbel.trans hb
  have hm3 := hm3.blk (hJ.block _ (hm3.lt) (fun k hk => by rcases k with _ | _ | _ | _ | _ | _ | _ | _ | _ | _ | _ | _ | _ | _ | k <;> first | (cases hk; done) | (cases hk; exact absurd rfl (Ne.symm HN3_6.out))))
  have hm4 := hm4.blk (hJ.block _ (hm4.lt) (fun k hk => by rcases k with _ | _ | _ | _ | _ | _ | _ | _ | _ | _ | _ | _ | _ | _ | k <;> first | (cases hk; done) | (cases hk; exact absurd rfl (Ne.symm HN4_6.out))))
  have hm5 := hm5.blk (hJ.block _ (hm5.lt) (fun k hk => by rcases k with _ | _ | _ | _ | _ | _ | _ | _ | _ | _ | _ | _ | _ | _ | k <;> first | (cases hk; done) | (cases hk; exact absurd rfl (Ne.symm HN5_6.out))))
  have hm7 := hm7.blk (hJ.block _ (hm7.lt) (fun k hk => by rcases k with _ | _ | _ | _ | _ | _ | _ | _ | _ | _ | _ | _ | _ | _ | k <;> first | (cases hk; done) | (cases hk; exact absurd rfl HD7_q6.out)))
  have hm8 := hm8.blk (hJ.block _ (hm8.lt) (fun k hk => by rcases k with _ | _ | _ | _ | _ | _ | _ | _ | _ | _ | _ | _ | _ | _ | k <;> first | (cases hk; done) | (cases hk; exact absurd rfl HD8_q6.out)))
  have hm9 := hm9.blk (hJ.block _ (hm9.lt) (fun k hk => by rcases k with _ | _ | _ | _ | _ | _ | _ | _ | _ | _ | _ | _ | _ | _ | k <;> first | (cases hk; done) | (cases hk; exact absurd rfl HD9_q6.out)))
  have hs5_3 := hs5_3.blk (hJ.block _ (hs5_3.lt) (fun k hk => by rcases k with _ | _ | _ | _ | _ | _ | _ | _ | _ | _ | _ | _ | _ | _ | k <;> first | (cases hk; done) | (cases hk; exact absurd rfl HD10_q6.out)))
  have hm11 := hm11.blk (hJ.block _ (hm11.lt) (fun k hk => by rcases k with _ | _ | _ | _ | _ | _ | _ | _ | _ | _ | _ | _ | _ | _ | k <;> first | (cases hk; done) | (cases hk; exact absurd rfl HD11_q6.out)))
  have hm12 := hm12.blk (hJ.block _ (hm12.lt) (fun k hk => by rcases k with _ | _ | _ | _ | _ | _ | _ | _ | _ | _ | _ | _ | _ | _ | k <;> first | (cases hk; done) | (cases hk; exact absurd rfl HD12_q6.out)))
  have hm13 := hm13.blk (hJ.block _ (hm13.lt) (fun k hk => by rcases k with _ | _ | _ | _ | _ | _ | _ | _ | _ | _ | _ | _ | _ | _ | k <;> first | (cases hk; done) | (cases hk; exact absurd rfl HD13_q6.out)))
  have hm14 := hm14.blk (hJ.block _ (hm14.lt) (fun k hk => by rcases k with _ | _ | _ | _ | _ | _ | _ | _ | _ | _ | _ | _ | _ | _ | k <;> first | (cases hk; done) | (cases hk; exact absurd rfl HD14_q6.out)))
  have ht3 := there_blk ht3 (hJ.block _ (there_lt ht3 (by omega)) (fun k hk => by rcases k with _ | _ | _ | _ | _ | _ | _ | _ | _ | _ | _ | _ | _ | _ | k <;> first | (cases hk; done) | (cases hk; exact absurd rfl (Ne.symm HN3_6.out))))
  have ht4 := there_blk ht4 (hJ.block _ (there_lt ht4 (by omega)) (fun k hk => by rcases k with _ | _ | _ | _ | _ | _ | _ | _ | _ | _ | _ | _ | _ | _ | k <;> first | (cases hk; done) | (cases hk; exact absurd rfl (Ne.symm HN4_6.out))))
  have ht5 := there_blk ht5 (hJ.block _ (there_lt ht5 (by omega)) (fun k hk => by rcases k with _ | _ | _ | _ | _ | _ | _ | _ | _ | _ | _ | _ | _ | _ | k <;> first | (cases hk; done) | (cases hk; exact absurd rfl (Ne.symm HN5_6.out))))
  have ht7 := there_blk ht7 (hJ.block _ (there_lt ht7 (by omega)) (fun k hk => by rcases k with _ | _ | _ | _ | _ | _ | _ | _ | _ | _ | _ | _ | _ | _ | k <;> first | (cases hk; done) | (cases hk; exact absurd rfl HD7_q6.out)))
  have ht8 := there_blk ht8 (hJ.block _ (there_lt ht8 (by omega)) (fun k hk => by rcases k with _ | _ | _ | _ | _ | _ | _ | _ | _ | _ | _ | _ | _ | _ | k <;> first | (cases hk; done) | (cases hk; exact absurd rfl HD8_q6.out)))
  have ht9 := there_blk ht9 (hJ.block _ (there_lt ht9 (by omega)) (fun k hk => by rcases k with _ | _ | _ | _ | _ | _ | _ | _ | _ | _ | _ | _ | _ | _ | k <;> first | (cases hk; done) | (cases hk; exact absurd rfl HD9_q6.out)))
  have hs5_3t := there_blk hs5_3t (hJ.block _ (there_lt hs5_3t (by omega)) (fun k hk => by rcases k with _ | _ | _ | _ | _ | _ | _ | _ | _ | _ | _ | _ | _ | _ | k <;> first | (cases hk; done) | (cases hk; exact absurd rfl HD10_q6.out)))
  have ht11 := there_blk ht11 (hJ.block _ (there_lt ht11 (by omega)) (fun k hk => by rcases k with _ | _ | _ | _ | _ | _ | _ | _ | _ | _ | _ | _ | _ | _ | k <;> first | (cases hk; done) | (cases hk; exact absurd rfl HD11_q6.out)))
  have ht12 := there_blk ht12 (hJ.block _ (there_lt ht12 (by omega)) (fun k hk => by rcases k with _ | _ | _ | _ | _ | _ | _ | _ | _ | _ | _ | _ | _ | _ | k <;> first | (cases hk; done) | (cases hk; exact absurd rfl HD12_q6.out)))
  have ht13 := there_blk ht13 (hJ.block _ (there_lt ht13 (by omega)) (fun k hk => by rcases k with _ | _ | _ | _ | _ | _ | _ | _ | _ | _ | _ | _ | _ | _ | k <;> first | (cases hk; done) | (cases hk; exact absurd rfl HD13_q6.out)))
  have ht14 := there_blk ht14 (hJ.block _ (there_lt ht14 (by omega)) (fun k hk => by rcases k with _ | _ | _ | _ | _ | _ | _ | _ | _ | _ | _ | _ | _ | _ | k <;> first | (cases hk; done) | (cases hk; exact absurd rfl HD14_q6.out)))
  obtain ⟨_, hs7_13t, hs7_13⟩ := (show _ ∧ W7.there q6 0 20 ∧ HasFs rE W7 q6 0 [(((Y + X) * (Y' + X')) - ((Y - X) * (Y' - X'))) * (((Z * Z') + (Z * Z')) - ((T * D) * T')), (((Z * Z') + (Z * Z')) + ((T * D) * T')) * (((Y + X) * (Y' + X')) + ((Y - X) * (Y' - X'))), (((Z * Z') + (Z * Z')) - ((T * D) * T')) * (((Z * Z') + (Z * Z')) + ((T * D) * T')), (((Y + X) * (Y' + X')) - ((Y - X) * (Y' - X'))) * (((Y + X) * (Y' + X')) + ((Y - X) * (Y' - X')))] from hG 13 (by simp))
  have hbel0 := hbel
  clear hJ hG hall hb
  go_wp2
  exact ret_cell1 (R := rE) Try.results58 (by exact E6.out) hs7_13 tyP4 rfl (fun r hr => ⟨r, rfl, hr, hbel⟩)
theorem cSum {v0 v1 v2 : Value} {P Q : EP} (h0 : IsFs rPr v0 [P]) (h1 : IsFs rPr v1 [Q]) (h2 : IsFs rE v2 [dE2]) (w : World) :
    Calls Try.prog 58 #[v0, v1, v2] w fun e w' => ∃ r, e = .returned r ∧ IsFs rPr r [Cp.add P Q] ∧ Below w.heap.size w w' := by
  obtain ⟨x, y, z, t, i0, hp⟩ := of_isPr h0
  obtain ⟨x', y', z', t', i1, hq⟩ := of_isPr h1
  exact (sum_any i0 i1 h2 w).mono fun _ _ ⟨r, he, hr, hb⟩ => ⟨r, he, isPr hr (Pext.add (c := cuE) hp hq rfl rfl (by rw [dE2_eq]; rfl) rfl rfl rfl rfl rfl), hb⟩
set_option maxRecDepth 100000 in
set_option maxHeartbeats 4000000 in
theorem cPAdd {v0 v1 : Value} {P Q : EP} (h0 : IsFs rP v0 [P]) (h1 : IsFs rP v1 [Q]) (w : World) :
    Calls Try.prog 29 #[v0, v1] w fun e w' => ∃ r, e = .returned r ∧ IsFs rP r [Cp.add P Q] ∧ Below w.heap.size w w' := by
  go_enter Try.func29, Try.ntmps29
  have hbel : Below w.heap.size w w := Below.refl _ _
  have hbel0 := hbel
  go_upto_region 0 with fail
  refine wp_region_turn (fun u => #[v0, v1, u 0, u 1, u 2, undef, undef, undef, undef, undef, undef]) (Holds [.box rP [P], .box rP [Q], .new 20] w) (Keep [.box rP [P], .box rP [Q], .new 20] w) (fun _ => undef) ?_ (by rfl) Keep.start (holds_soft (by kernel_rfl)) ?_ ?_
  · intro u i v h
    rcases i with _ | _ | _ | i
    all_goals first | (simp [Act.put, putV]; done) | (exfalso; simp at h; omega)
  · intro hs
    refine ⟨?_, ?_, ?_, trivial⟩
    · exact step_box hs (wants_none rfl) rfl rfl (gives_c h0 (fun _ => rfl))
    · exact step_box hs (wants_none rfl) rfl rfl (gives_c h1 (fun _ => rfl))
    · exact step_alloc hs (wants_none rfl) rfl rfl (by omega) rfl allocP
  intro L0 u0 W0 hall hJ hG
  obtain ⟨q2, e2, ⟨hq2, _⟩, ht2, hm2⟩ := (show ∃ g, u0 0 = .pointer (some ⟨g, 0, none⟩) ∧ (w.heap.size ≤ g ∧ g < W0.heap.size) ∧ W0.there g 0 20 ∧ HasFs rP W0 g 0 [P] from hG 0 (by simp))
  have hq2 : w.heap.size ≤ q2 := by have := hbel0.size; omega
  have E2 := Lib.hid e2; clear e2
  obtain ⟨q3, e3, ⟨hq3, _⟩, ht3, hm3⟩ := (show ∃ g, u0 1 = .pointer (some ⟨g, 0, none⟩) ∧ (w.heap.size ≤ g ∧ g < W0.heap.size) ∧ W0.there g 0 20 ∧ HasFs rP W0 g 0 [Q] from hG 1 (by simp))
  have hq3 : w.heap.size ≤ q3 := by have := hbel0.size; omega
  have E3 := Lib.hid e3; clear e3
  obtain ⟨q4, e4, hq4, _, ht4⟩ := (show ∃ g, u0 2 = .pointer (some ⟨g, 0, none⟩) ∧ w.heap.size ≤ g ∧ 0 < 20 ∧ W0.there g 0 20 from hG 2 (by simp))
  have hq4 : w.heap.size ≤ q4 := by have := hbel0.size; omega
  have E4 := Lib.hid e4; clear e4
  have hb := hJ.all rfl
  have hbel := Below.call hbel hb
  have HN2_3 := Lib.hid (show q2 ≠ q3 from fun e => hJ.apart 0 1 _ (by omega) (hall _ (by simp)) (hall _ (by simp)) rfl rfl (E2.out.trans (by rw [e])) E3.out)
  have HN2_4 := Lib.hid (show q2 ≠ q4 from fun e => hJ.apart 0 2 _ (by omega) (hall _ (by simp)) (hall _ (by simp)) rfl rfl (E2.out.trans (by rw [e])) E4.out)
  have HN3_4 := Lib.hid (show q3 ≠ q4 from fun e => hJ.apart 1 2 _ (by omega) (hall _ (by simp)) (hall _ (by simp)) rfl rfl (E3.out.trans (by rw [e])) E4.out)
  have hbel0 := hbel
  clear hJ hG hall hb
  go_upto_region 1 with fail
  refine wp_region_mid (fun u => #[v0, v1, u0 0, u0 1, u0 2, u 0, u 1, u 2, u 3, u 4, u 5]) (Holds [.val rP [P], .val rPr [P], .val rP [Q], .val rPr [Q], .val rE [dE2], .val rPr [Cp.add P Q], .sto q4 rPr [Cp.add P Q]] W0) (Keep [.val rP [P], .val rPr [P], .val rP [Q], .val rPr [Q], .val rE [dE2], .val rPr [Cp.add P Q], .sto q4 rPr [Cp.add P Q]] W0) (fun _ => undef) (by kernel_rfl) (by kernel_rfl) ?_ (by rfl) Keep.drew (holds_soft (by kernel_rfl)) ?_ ?_
  · intro u i v h
    rcases i with _ | _ | _ | _ | _ | _ | _ | i
    all_goals first | (simp [Act.put, putV]; done) | (exfalso; simp at h; omega)
  · intro hs
    refine ⟨?_, ?_, ?_, ?_, ?_, ?_, ?_, trivial⟩
    · exact step_load q2 0 hs (wants_none rfl) rfl rfl tyP (fun _ => E2.out) hm2.lt hm2 (fun k g hk => by rcases k with _ | _ | _ | _ | _ | _ | _ | k <;> first | (cases hk; done) | (cases hk; exact .inr (Ne.symm HN2_4.out)))
    · refine step_call hs (wants_none rfl) rfl fun L u W hJ hG hL hdep K hK => ?_
      have a0 := (show IsFs rP (u 0) [P] from hG 0 (hdep 0 (by kernel_rfl)))
      go_simp
      go_at_call 56
      (with_reducible refine (cReady a0 _).mono ?_); rintro e w1 ⟨r, rfl, hr, hb⟩
      have hk := hK.out _ _ hr hb
      exact hk
    · exact step_load q3 0 hs (wants_none rfl) rfl rfl tyP (fun _ => E3.out) hm3.lt hm3 (fun k g hk => by rcases k with _ | _ | _ | _ | _ | _ | _ | k <;> first | (cases hk; done) | (cases hk; exact .inr (Ne.symm HN3_4.out)))
    · refine step_call hs (wants_none rfl) rfl fun L u W hJ hG hL hdep K hK => ?_
      have a0 := (show IsFs rP (u 2) [Q] from hG 2 (hdep 2 (by kernel_rfl)))
      go_simp
      go_at_call 56
      (with_reducible refine (cReady a0 _).mono ?_); rintro e w1 ⟨r, rfl, hr, hb⟩
      have hk := hK.out _ _ hr hb
      exact hk
    · refine step_call hs (wants_none rfl) rfl fun L u W hJ hG hL hdep K hK => ?_
      go_simp
      go_at_call 57
      (with_reducible refine (cTwice _).mono ?_); rintro e w1 ⟨r, rfl, hr, hb⟩
      have hk := hK.out _ _ hr hb
      exact hk
    · refine step_call hs (wants_none rfl) rfl fun L u W hJ hG hL hdep K hK => ?_
      have a0 := (show IsFs rPr (u 1) [P] from hG 1 (hdep 1 (by kernel_rfl)))
      have a1 := (show IsFs rPr (u 3) [Q] from hG 3 (hdep 3 (by kernel_rfl)))
      have a2 := (show IsFs rE (u 4) [dE2] from hG 4 (hdep 4 (by kernel_rfl)))
      go_simp
      go_at_call 58
      (with_reducible refine (cSum a0 a1 a2 _).mono ?_); rintro e w1 ⟨r, rfl, hr, hb⟩
      have hk := hK.out _ _ hr hb
      exact hk
    · refine step_storeO q4 20 hs (wants_none rfl) rfl rfl (by kernel_rfl) (fun k hk => ?_) (fun _ => E4.out) (there_lt ht4 (by omega)) ht4 (gives_op 5 rfl (by kernel_rfl) (fun _ => rfl)) tyPr rfl
      rcases k with _ | _ | _ | _ | _ | _ | _ | k
      all_goals first | (exact absurd rfl hk) | (intro e; cases e; done)
  intro L1 u1 W1 hall hJ hG
  have hb : Below w.heap.size W0 W1 := hJ.below (by have := hbel.size; omega) (fun k b hf => by rcases k with _ | _ | _ | _ | _ | _ | _ | k <;> first | (cases hf; done) | (cases hf; omega))
  have hbel := hbel.trans hb
  have hm2 := hm2.blk (hJ.block _ (hm2.lt) (fun k hk => by rcases k with _ | _ | _ | _ | _ | _ | _ | k <;> first | (cases hk; done) | (cases hk; exact absurd rfl (Ne.symm HN2_4.out))))
  have hm3 := hm3.blk (hJ.block _ (hm3.lt) (fun k hk => by rcases k with _ | _ | _ | _ | _ | _ | _ | k <;> first | (cases hk; done) | (cases hk; exact absurd rfl (Ne.symm HN3_4.out))))
  have ht2 := there_blk ht2 (hJ.block _ (there_lt ht2 (by omega)) (fun k hk => by rcases k with _ | _ | _ | _ | _ | _ | _ | k <;> first | (cases hk; done) | (cases hk; exact absurd rfl (Ne.symm HN2_4.out))))
  have ht3 := there_blk ht3 (hJ.block _ (there_lt ht3 (by omega)) (fun k hk => by rcases k with _ | _ | _ | _ | _ | _ | _ | k <;> first | (cases hk; done) | (cases hk; exact absurd rfl (Ne.symm HN3_4.out))))
  obtain ⟨_, hs1_6t, hs1_6⟩ := (show _ ∧ W1.there q4 0 20 ∧ HasFs rPr W1 q4 0 [Cp.add P Q] from hG 6 (by simp))
  have hbel0 := hbel
  clear hJ hG hall hb
  go_wp2
  exact ret_cell1 (R := rPr) Try.results29 (by exact E4.out) hs1_6 tyPr rfl (fun r hr => ⟨r, rfl, toP hr, hbel⟩)
set_option maxRecDepth 100000 in
set_option maxHeartbeats 4000000 in
theorem psame_0 {v0 v1 : Value} {P Q : EP} (h0 : IsFs rP v0 [P]) (h1 : IsFs rP v1 [Q]) (hx : P.x ≠ Q.x) (w : World) :
    Calls Try.prog 28 #[v0, v1] w fun e w' => e = .returned (.bool false) ∧ Below w.heap.size w w' := by
  have HX := Lib.hid hx; clear hx
  go_enter Try.func28, Try.ntmps28
  have hbel : Below w.heap.size w w := Below.refl _ _
  have hbel0 := hbel
  go_upto_region 0 with fail
  refine wp_region_turn (fun u => #[v0, v1, u 0, u 1, u 2, undef, undef, undef, undef, undef, undef, undef, undef, undef, undef, undef, undef, undef, undef, undef, undef, undef, undef, undef, undef, undef, undef, undef, undef, undef, undef, undef, undef]) (Holds [.box rP [P], .box rP [Q], .oth (fun v => v = .bool false)] w) (Keep [.box rP [P], .box rP [Q], .oth (fun v => v = .bool false)] w) (fun _ => undef) ?_ (by rfl) Keep.start (holds_soft (by kernel_rfl)) ?_ ?_
  · intro u i v h
    rcases i with _ | _ | _ | i
    all_goals first | (simp [Act.put, putV]; done) | (exfalso; simp at h; omega)
  · intro hs
    refine ⟨?_, ?_, ?_, trivial⟩
    · exact step_box hs (wants_none rfl) rfl rfl (gives_c h0 (fun _ => rfl))
    · exact step_box hs (wants_none rfl) rfl rfl (gives_c h1 (fun _ => rfl))
    · exact step_pureO hs (wants_none rfl) rfl fun L u W hG hdep => ⟨_, run_assign rfl, rfl⟩
  intro L0 u0 W0 hall hJ hG
  obtain ⟨q2, e2, ⟨hq2, _⟩, ht2, hm2⟩ := (show ∃ g, u0 0 = .pointer (some ⟨g, 0, none⟩) ∧ (w.heap.size ≤ g ∧ g < W0.heap.size) ∧ W0.there g 0 20 ∧ HasFs rP W0 g 0 [P] from hG 0 (by simp))
  have hq2 : w.heap.size ≤ q2 := by have := hbel0.size; omega
  have E2 := Lib.hid e2; clear e2
  obtain ⟨q3, e3, ⟨hq3, _⟩, ht3, hm3⟩ := (show ∃ g, u0 1 = .pointer (some ⟨g, 0, none⟩) ∧ (w.heap.size ≤ g ∧ g < W0.heap.size) ∧ W0.there g 0 20 ∧ HasFs rP W0 g 0 [Q] from hG 1 (by simp))
  have hq3 : w.heap.size ≤ q3 := by have := hbel0.size; omega
  have E3 := Lib.hid e3; clear e3
  have hb := hJ.all rfl
  have hbel := Below.call hbel hb
  have HN2_3 := Lib.hid (show q2 ≠ q3 from fun e => hJ.apart 0 1 _ (by omega) (hall _ (by simp)) (hall _ (by simp)) rfl rfl (E2.out.trans (by rw [e])) E3.out)
  have HC4 := Lib.hid (show u0 2 = .bool false from hG 2 (by simp))
  have hbel0 := hbel
  clear hJ hG hall hb
  go_upto_region 1 with fail
  refine wp_region_mid (fun u => #[v0, v1, u0 0, u0 1, u0 2, u 0, u 1, u 2, u 3, undef, undef, undef, undef, undef, undef, undef, undef, undef, undef, undef, undef, undef, undef, undef, undef, undef, undef, undef, undef, undef, undef, undef, undef]) (Holds [.val rP [P], .val rPr [P], .val rP [Q], .val rPr [Q], .sto q2 rPr [P], .sto q3 rPr [Q]] W0) (Keep [.val rP [P], .val rPr [P], .val rP [Q], .val rPr [Q], .sto q2 rPr [P], .sto q3 rPr [Q]] W0) (fun _ => undef) (by kernel_rfl) (by kernel_rfl) ?_ (by rfl) Keep.drew (holds_soft (by kernel_rfl)) ?_ ?_
  · intro u i v h
    rcases i with _ | _ | _ | _ | _ | _ | i
    all_goals first | (simp [Act.put, putV]; done) | (exfalso; simp at h; omega)
  · intro hs
    refine ⟨?_, ?_, ?_, ?_, ?_, ?_, trivial⟩
    · exact step_load q2 0 hs (wants_none rfl) rfl rfl tyP (fun _ => E2.out) hm2.lt hm2 (fun k g hk => by rcases k with _ | _ | _ | _ | _ | _ | k <;> first | (cases hk; done) | (cases hk; exact .inr (Ne.symm HN2_3.out)) | (cases hk; exact .inl (by kernel_rfl)))
    · refine step_call hs (wants_none rfl) rfl fun L u W hJ hG hL hdep K hK => ?_
      have a0 := (show IsFs rP (u 0) [P] from hG 0 (hdep 0 (by kernel_rfl)))
      go_simp
      go_at_call 56
      (with_reducible refine (cReady a0 _).mono ?_); rintro e w1 ⟨r, rfl, hr, hb⟩
      have hk := hK.out _ _ hr hb
      exact hk
    · exact step_load q3 0 hs (wants_none rfl) rfl rfl tyP (fun _ => E3.out) hm3.lt hm3 (fun k g hk => by rcases k with _ | _ | _ | _ | _ | _ | k <;> first | (cases hk; done) | (cases hk; exact .inr HN2_3.out) | (cases hk; exact .inl (by kernel_rfl)))
    · refine step_call hs (wants_none rfl) rfl fun L u W hJ hG hL hdep K hK => ?_
      have a0 := (show IsFs rP (u 2) [Q] from hG 2 (hdep 2 (by kernel_rfl)))
      go_simp
      go_at_call 56
      (with_reducible refine (cReady a0 _).mono ?_); rintro e w1 ⟨r, rfl, hr, hb⟩
      have hk := hK.out _ _ hr hb
      exact hk
    · refine step_storeO q2 20 hs (wants_none rfl) rfl rfl (by kernel_rfl) (fun k hk => ?_) (fun _ => E2.out) (there_lt ht2 (by omega)) ht2 (gives_op 1 rfl (by kernel_rfl) (fun _ => rfl)) tyPr rfl
      rcases k with _ | _ | _ | _ | _ | _ | k
      all_goals first | (exact absurd rfl hk) | (intro e; cases e; done) | (intro e; cases e; exact absurd rfl (Ne.symm HN2_3.out))
    · refine step_storeO q3 20 hs (wants_none rfl) rfl rfl (by kernel_rfl) (fun k hk => ?_) (fun _ => E3.out) (there_lt ht3 (by omega)) ht3 (gives_op 3 rfl (by kernel_rfl) (fun _ => rfl)) tyPr rfl
      rcases k with _ | _ | _ | _ | _ | _ | k
      all_goals first | (exact absurd rfl hk) | (intro e; cases e; done) | (intro e; cases e; exact absurd rfl HN2_3.out)
  intro L1 u1 W1 hall hJ hG
  have hb : Below w.heap.size W0 W1 := hJ.below (by have := hbel.size; omega) (fun k b hf => by rcases k with _ | _ | _ | _ | _ | _ | k <;> first | (cases hf; done) | (cases hf; omega))
  have hbel := hbel.trans hb
  obtain ⟨_, hs1_4t, hs1_4⟩ := (show _ ∧ W1.there q2 0 20 ∧ HasFs rPr W1 q2 0 [P] from hG 4 (by simp))
  obtain ⟨_, hs1_5t, hs1_5⟩ := (show _ ∧ W1.there q3 0 20 ∧ HasFs rPr W1 q3 0 [Q] from hG 5 (by simp))
  have hbel0 := hbel
  clear hJ hG hall hb
  obtain ⟨pax, pay, paz, pat, hmpa, hppa⟩ := of_hasPr hs1_4
  obtain ⟨pbx, pby, pbz, pbt, hmpb, hppb⟩ := of_hasPr hs1_5
  go_upto_region 2 with fail
  refine wp_region_mid (fun u => #[v0, v1, u0 0, u0 1, u 24, u1 0, u1 1, u1 2, u1 3, u 0, u 1, u 2, u 3, u 4, u 5, u 6, u 7, u 8, u 9, u 10, u 11, u 12, u 13, u 14, u 15, u 16, u 17, u 18, u 19, u 20, u 21, u 22, u 23]) (Holds [.ptr q2 0, .val rE [pax], .ptr q3 10, .val rE [pbz], .val rE [pax * pbz], .ptr q3 0, .val rE [pbx], .ptr q2 10, .val rE [paz], .val rE [pbx * paz], .oth (fun v => v = .bool false), .oth (fun v => v = .bool false), .oth (fun v => v = undef), .oth (fun v => v = undef), .oth (fun v => v = undef), .oth (fun v => v = undef), .oth (fun v => v = undef), .oth (fun v => v = undef), .oth (fun v => v = undef), .oth (fun v => v = undef), .oth (fun v => v = undef), .oth (fun v => v = undef), .oth (fun v => v = undef), .oth (fun v => v = .bool false), .oth (fun v => v = .bool false)] W1) (Keep [.ptr q2 0, .val rE [pax], .ptr q3 10, .val rE [pbz], .val rE [pax * pbz], .ptr q3 0, .val rE [pbx], .ptr q2 10, .val rE [paz], .val rE [pbx * paz], .oth (fun v => v = .bool false), .oth (fun v => v = .bool false), .oth (fun v => v = undef), .oth (fun v => v = undef), .oth (fun v => v = undef), .oth (fun v => v = undef), .oth (fun v => v = undef), .oth (fun v => v = undef), .oth (fun v => v = undef), .oth (fun v => v = undef), .oth (fun v => v = undef), .oth (fun v => v = undef), .oth (fun v => v = undef), .oth (fun v => v = .bool false), .oth (fun v => v = .bool false)] W1) (fun k => ((undef :: undef :: undef :: undef :: undef :: undef :: undef :: undef :: undef :: undef :: undef :: undef :: undef :: undef :: undef :: undef :: undef :: undef :: undef :: undef :: undef :: undef :: undef :: undef :: u0 2 :: []) : List Value).getD k undef) (by kernel_rfl) (by kernel_rfl) ?_ (by rfl) Keep.drew (holds_soft (by kernel_rfl)) ?_ ?_
  · intro u i v h
    rcases i with _ | _ | _ | _ | _ | _ | _ | _ | _ | _ | _ | _ | _ | _ | _ | _ | _ | _ | _ | _ | _ | _ | _ | _ | _ | i
    iterate 25 kernel_rfl
    exfalso; simp at h; omega
  · intro hs
    refine ⟨?_, ?_, ?_, ?_, ?_, ?_, ?_, ?_, ?_, ?_, ?_, ?_, ?_, ?_, ?_, ?_, ?_, ?_, ?_, ?_, ?_, ?_, ?_, ?_, ?_, trivial⟩
    · exact step_field hs (wants_none rfl) rfl rfl (fun _ => E2.out) (field_P0 _)
    · exact step_loadF 0 q2 0 hs (wants_none rfl) rfl rfl tyE (fun _ => rfl) rfl (by kernel_rfl) hmpa.lt (hmpa.fld 0 1) (noSto_apart (by kernel_rfl))
    · exact step_field hs (wants_none rfl) rfl rfl (fun _ => E3.out) (field_P2 _)
    · exact step_loadF 2 q3 10 hs (wants_none rfl) rfl rfl tyE (fun _ => rfl) rfl (by kernel_rfl) hmpb.lt (hmpb.fld 2 1) (noSto_apart (by kernel_rfl))
    · refine step_call hs (wants_none rfl) rfl fun L u W hJ hG hL hdep K hK => ?_
      have a0 := (show IsFs rE (u 1) [pax] from hG 1 (hdep 1 (by kernel_rfl)))
      have a1 := (show IsFs rE (u 3) [pbz] from hG 3 (hdep 3 (by kernel_rfl)))
      go_simp
      go_at_call 42
      (with_reducible refine (cMul a0 a1 _).mono ?_); rintro e w1 ⟨r, rfl, hr, hb⟩
      have hk := hK.out _ _ hr hb
      exact hk
    · exact step_field hs (wants_none rfl) rfl rfl (fun _ => E3.out) (field_P0 _)
    · exact step_loadF 5 q3 0 hs (wants_none rfl) rfl rfl tyE (fun _ => rfl) rfl (by kernel_rfl) hmpb.lt (hmpb.fld 0 1) (noSto_apart (by kernel_rfl))
    · exact step_field hs (wants_none rfl) rfl rfl (fun _ => E2.out) (field_P2 _)
    · exact step_loadF 7 q2 10 hs (wants_none rfl) rfl rfl tyE (fun _ => rfl) rfl (by kernel_rfl) hmpa.lt (hmpa.fld 2 1) (noSto_apart (by kernel_rfl))
    · refine step_call hs (wants_none rfl) rfl fun L u W hJ hG hL hdep K hK => ?_
      have a0 := (show IsFs rE (u 6) [pbx] from hG 6 (hdep 6 (by kernel_rfl)))
      have a1 := (show IsFs rE (u 8) [paz] from hG 8 (hdep 8 (by kernel_rfl)))
      go_simp
      go_at_call 42
      (with_reducible refine (cMul a0 a1 _).mono ?_); rintro e w1 ⟨r, rfl, hr, hb⟩
      have hk := hK.out _ _ hr hb
      exact hk
    · refine step_callO hs (wants_none rfl) rfl fun L u W hJ hG hL hdep K hK => ?_
      have a0 := (show IsFs rE (u 4) [pax * pbz] from hG 4 (hdep 4 (by kernel_rfl)))
      have a1 := (show IsFs rE (u 9) [pbx * paz] from hG 9 (hdep 9 (by kernel_rfl)))
      go_simp
      go_at_call 48
      (with_reducible refine (cSame (b := false) (decide_eq_false fun e => absurd (Prep.same_x hppa.p hppb.p e) HX.out) a0 a1 _).mono ?_); rintro e w1 ⟨rfl, hb⟩
      have hk := hK.out _ _ rfl hb
      exact hk
    · exact step_pureO hs (wants_none rfl) rfl fun L u W hG hdep => ⟨_, run_move rfl, (show u 10 = .bool false from hG 10 (hdep 10 (by kernel_rfl)))⟩
    · exact step_outU hs (wants_off 11 rfl rfl rfl (by kernel_rfl) (fun _ => rfl)) rfl
    · exact step_outU hs (wants_off 11 rfl rfl rfl (by kernel_rfl) (fun _ => rfl)) rfl
    · exact step_outU hs (wants_off 11 rfl rfl rfl (by kernel_rfl) (fun _ => rfl)) rfl
    · exact step_outU hs (wants_off 11 rfl rfl rfl (by kernel_rfl) (fun _ => rfl)) rfl
    · exact step_outU hs (wants_off 11 rfl rfl rfl (by kernel_rfl) (fun _ => rfl)) rfl
    · exact step_outU hs (wants_off 11 rfl rfl rfl (by kernel_rfl) (fun _ => rfl)) rfl
    · exact step_outU hs (wants_off 11 rfl rfl rfl (by kernel_rfl) (fun _ => rfl)) rfl
    · exact step_outU hs (wants_off 11 rfl rfl rfl (by kernel_rfl) (fun _ => rfl)) rfl
    · exact step_outU hs (wants_off 11 rfl rfl rfl (by kernel_rfl) (fun _ => rfl)) rfl
    · exact step_outU hs (wants_off 11 rfl rfl rfl (by kernel_rfl) (fun _ => rfl)) rfl
    · exact step_outU hs (wants_off 11 rfl rfl rfl (by kernel_rfl) (fun _ => rfl)) rfl
    · exact step_pick false hs (wants_none rfl) rfl rfl (fun L u W hG hdep => (show u 11 = .bool false from hG 11 (hdep 11 (by kernel_rfl)))) (fun L u W hG hdep => rfl)
    · exact step_pureO hs (wants_none rfl) rfl fun L u W hG hdep => ⟨_, run_assign rfl, (show u 23 = .bool false from hG 23 (hdep 23 (by kernel_rfl)))⟩
  intro L2 u2 W2 hall hJ hG
  have hb := hJ.all rfl
  have hbel := Below.call hbel hb
  have hmpa := hmpa.later hb
  have hmpb := hmpb.later hb
  have hs1_4t := there_later hs1_4t hb
  have hs1_5t := there_later hs1_5t hb
  have HC19 := Lib.hid (show u2 10 = .bool false from hG 10 (by simp))
  have HC20 := Lib.hid (show u2 11 = .bool false from hG 11 (by simp))
  have HC32 := Lib.hid (show u2 23 = .bool false from hG 23 (by simp))
  have HC4 := Lib.hid (show u2 24 = .bool false from hG 24 (by simp))
  have hbel0 := hbel
  clear hJ hG hall hb
  rw [HC4.out]
  go_wp2
  go_ret
  exact ⟨rfl, hbel⟩
set_option maxRecDepth 100000 in
set_option maxHeartbeats 4000000 in
theorem psame_1 {v0 v1 : Value} {P Q : EP} {q : Bool} (h0 : IsFs rP v0 [P]) (h1 : IsFs rP v1 [Q]) (hx : P.x = Q.x) (hq : decide (P = Q) = q) (w : World) :
    Calls Try.prog 28 #[v0, v1] w fun e w' => e = .returned (.bool q) ∧ Below w.heap.size w w' := by
  have HX := Lib.hid hx; clear hx
  have HQ := Lib.hid hq; clear hq
  go_enter Try.func28, Try.ntmps28
  have hbel : Below w.heap.size w w := Below.refl _ _
  have hbel0 := hbel
  go_upto_region 0 with fail
  refine wp_region_turn (fun u => #[v0, v1, u 0, u 1, u 2, undef, undef, undef, undef, undef, undef, undef, undef, undef, undef, undef, undef, undef, undef, undef, undef, undef, undef, undef, undef, undef, undef, undef, undef, undef, undef, undef, undef]) (Holds [.box rP [P], .box rP [Q], .oth (fun v => v = .bool false)] w) (Keep [.box rP [P], .box rP [Q], .oth (fun v => v = .bool false)] w) (fun _ => undef) ?_ (by rfl) Keep.start (holds_soft (by kernel_rfl)) ?_ ?_
  · intro u i v h
    rcases i with _ | _ | _ | i
    all_goals first | (simp [Act.put, putV]; done) | (exfalso; simp at h; omega)
  · intro hs
    refine ⟨?_, ?_, ?_, trivial⟩
    · exact step_box hs (wants_none rfl) rfl rfl (gives_c h0 (fun _ => rfl))
    · exact step_box hs (wants_none rfl) rfl rfl (gives_c h1 (fun _ => rfl))
    · exact step_pureO hs (wants_none rfl) rfl fun L u W hG hdep => ⟨_, run_assign rfl, rfl⟩
  intro L0 u0 W0 hall hJ hG
  obtain ⟨q2, e2, ⟨hq2, _⟩, ht2, hm2⟩ := (show ∃ g, u0 0 = .pointer (some ⟨g, 0, none⟩) ∧ (w.heap.size ≤ g ∧ g < W0.heap.size) ∧ W0.there g 0 20 ∧ HasFs rP W0 g 0 [P] from hG 0 (by simp))
  have hq2 : w.heap.size ≤ q2 := by have := hbel0.size; omega
  have E2 := Lib.hid e2; clear e2
  obtain ⟨q3, e3, ⟨hq3, _⟩, ht3, hm3⟩ := (show ∃ g, u0 1 = .pointer (some ⟨g, 0, none⟩) ∧ (w.heap.size ≤ g ∧ g < W0.heap.size) ∧ W0.there g 0 20 ∧ HasFs rP W0 g 0 [Q] from hG 1 (by simp))
  have hq3 : w.heap.size ≤ q3 := by have := hbel0.size; omega
  have E3 := Lib.hid e3; clear e3
  have hb := hJ.all rfl
  have hbel := Below.call hbel hb
  have HN2_3 := Lib.hid (show q2 ≠ q3 from fun e => hJ.apart 0 1 _ (by omega) (hall _ (by simp)) (hall _ (by simp)) rfl rfl (E2.out.trans (by rw [e])) E3.out)
  have HC4 := Lib.hid (show u0 2 = .bool false from hG 2 (by simp))
  have hbel0 := hbel
  clear hJ hG hall hb
  go_upto_region 1 with fail
  refine wp_region_mid (fun u => #[v0, v1, u0 0, u0 1, u0 2, u 0, u 1, u 2, u 3, undef, undef, undef, undef, undef, undef, undef, undef, undef, undef, undef, undef, undef, undef, undef, undef, undef, undef, undef, undef, undef, undef, undef, undef]) (Holds [.val rP [P], .val rPr [P], .val rP [Q], .val rPr [Q], .sto q2 rPr [P], .sto q3 rPr [Q]] W0) (Keep [.val rP [P], .val rPr [P], .val rP [Q], .val rPr [Q], .sto q2 rPr [P], .sto q3 rPr [Q]] W0) (fun _ => undef) (by kernel_rfl) (by kernel_rfl) ?_ (by rfl) Keep.drew (holds_soft (by kernel_rfl)) ?_ ?_
  · intro u i v h
    rcases i with _ | _ | _ | _ | _ | _ | i
    all_goals first | (simp [Act.put, putV]; done) | (exfalso; simp at h; omega)
  · intro hs
    refine ⟨?_, ?_, ?_, ?_, ?_, ?_, trivial⟩
    · exact step_load q2 0 hs (wants_none rfl) rfl rfl tyP (fun _ => E2.out) hm2.lt hm2 (fun k g hk => by rcases k with _ | _ | _ | _ | _ | _ | k <;> first | (cases hk; done) | (cases hk; exact .inr (Ne.symm HN2_3.out)) | (cases hk; exact .inl (by kernel_rfl)))
    · refine step_call hs (wants_none rfl) rfl fun L u W hJ hG hL hdep K hK => ?_
      have a0 := (show IsFs rP (u 0) [P] from hG 0 (hdep 0 (by kernel_rfl)))
      go_simp
      go_at_call 56
      (with_reducible refine (cReady a0 _).mono ?_); rintro e w1 ⟨r, rfl, hr, hb⟩
      have hk := hK.out _ _ hr hb
      exact hk
    · exact step_load q3 0 hs (wants_none rfl) rfl rfl tyP (fun _ => E3.out) hm3.lt hm3 (fun k g hk => by rcases k with _ | _ | _ | _ | _ | _ | k <;> first | (cases hk; done) | (cases hk; exact .inr HN2_3.out) | (cases hk; exact .inl (by kernel_rfl)))
    · refine step_call hs (wants_none rfl) rfl fun L u W hJ hG hL hdep K hK => ?_
      have a0 := (show IsFs rP (u 2) [Q] from hG 2 (hdep 2 (by kernel_rfl)))
      go_simp
      go_at_call 56
      (with_reducible refine (cReady a0 _).mono ?_); rintro e w1 ⟨r, rfl, hr, hb⟩
      have hk := hK.out _ _ hr hb
      exact hk
    · refine step_storeO q2 20 hs (wants_none rfl) rfl rfl (by kernel_rfl) (fun k hk => ?_) (fun _ => E2.out) (there_lt ht2 (by omega)) ht2 (gives_op 1 rfl (by kernel_rfl) (fun _ => rfl)) tyPr rfl
      rcases k with _ | _ | _ | _ | _ | _ | k
      all_goals first | (exact absurd rfl hk) | (intro e; cases e; done) | (intro e; cases e; exact absurd rfl (Ne.symm HN2_3.out))
    · refine step_storeO q3 20 hs (wants_none rfl) rfl rfl (by kernel_rfl) (fun k hk => ?_) (fun _ => E3.out) (there_lt ht3 (by omega)) ht3 (gives_op 3 rfl (by kernel_rfl) (fun _ => rfl)) tyPr rfl
      rcases k with _ | _ | _ | _ | _ | _ | k
      all_goals first | (exact absurd rfl hk) | (intro e; cases e; done) | (intro e; cases e; exact absurd rfl HN2_3.out)
  intro L1 u1 W1 hall hJ hG
  have hb : Below w.heap.size W0 W1 := hJ.below (by have := hbel.size; omega) (fun k b hf => by rcases k with _ | _ | _ | _ | _ | _ | k <;> first | (cases hf; done) | (cases hf; omega))
  have hbel := hbel.trans hb
  obtain ⟨_, hs1_4t, hs1_4⟩ := (show _ ∧ W1.there q2 0 20 ∧ HasFs rPr W1 q2 0 [P] from hG 4 (by simp))
  obtain ⟨_, hs1_5t, hs1_5⟩ := (show _ ∧ W1.there q3 0 20 ∧ HasFs rPr W1 q3 0 [Q] from hG 5 (by simp))
  have hbel0 := hbel
  clear hJ hG hall hb
  obtain ⟨pax, pay, paz, pat, hmpa, hppa⟩ := of_hasPr hs1_4
  obtain ⟨pbx, pby, pbz, pbt, hmpb, hppb⟩ := of_hasPr hs1_5
  go_upto_region 2 with fail
  refine wp_region_mid (fun u => #[v0, v1, u0 0, u0 1, u 24, u1 0, u1 1, u1 2, u1 3, u 0, u 1, u 2, u 3, u 4, u 5, u 6, u 7, u 8, u 9, u 10, u 11, u 12, u 13, u 14, u 15, u 16, u 17, u 18, u 19, u 20, u 21, u 22, u 23]) (Holds [.ptr q2 0, .val rE [pax], .ptr q3 10, .val rE [pbz], .val rE [pax * pbz], .ptr q3 0, .val rE [pbx], .ptr q2 10, .val rE [paz], .val rE [pbx * paz], .oth (fun v => v = .bool true), .oth (fun v => v = .bool true), .ptr q2 5, .val rE [pay], .ptr q3 10, .val rE [pbz], .val rE [pay * pbz], .ptr q3 5, .val rE [pby], .ptr q2 10, .val rE [paz], .val rE [pby * paz], .oth (fun v => v = .bool q), .oth (fun v => v = .bool q), .oth (fun v => v = .bool q)] W1) (Keep [.ptr q2 0, .val rE [pax], .ptr q3 10, .val rE [pbz], .val rE [pax * pbz], .ptr q3 0, .val rE [pbx], .ptr q2 10, .val rE [paz], .val rE [pbx * paz], .oth (fun v => v = .bool true), .oth (fun v => v = .bool true), .ptr q2 5, .val rE [pay], .ptr q3 10, .val rE [pbz], .val rE [pay * pbz], .ptr q3 5, .val rE [pby], .ptr q2 10, .val rE [paz], .val rE [pby * paz], .oth (fun v => v = .bool q), .oth (fun v => v = .bool q), .oth (fun v => v = .bool q)] W1) (fun k => ((undef :: undef :: undef :: undef :: undef :: undef :: undef :: undef :: undef :: undef :: undef :: undef :: undef :: undef :: undef :: undef :: undef :: undef :: undef :: undef :: undef :: undef :: undef :: undef :: u0 2 :: []) : List Value).getD k undef) (by kernel_rfl) (by kernel_rfl) ?_ (by rfl) Keep.drew (holds_soft (by kernel_rfl)) ?_ ?_
  · intro u i v h
    rcases i with _ | _ | _ | _ | _ | _ | _ | _ | _ | _ | _ | _ | _ | _ | _ | _ | _ | _ | _ | _ | _ | _ | _ | _ | _ | i
    iterate 25 kernel_rfl
    exfalso; simp at h; omega
  · intro hs
    refine ⟨?_, ?_, ?_, ?_, ?_, ?_, ?_, ?_, ?_, ?_, ?_, ?_, ?_, ?_, ?_, ?_, ?_, ?_, ?_, ?_, ?_, ?_, ?_, ?_, ?_, trivial⟩
    · exact step_field hs (wants_none rfl) rfl rfl (fun _ => E2.out) (field_P0 _)
    · exact step_loadF 0 q2 0 hs (wants_none rfl) rfl rfl tyE (fun _ => rfl) rfl (by kernel_rfl) hmpa.lt (hmpa.fld 0 1) (noSto_apart (by kernel_rfl))
    · exact step_field hs (wants_none rfl) rfl rfl (fun _ => E3.out) (field_P2 _)
    · exact step_loadF 2 q3 10 hs (wants_none rfl) rfl rfl tyE (fun _ => rfl) rfl (by kernel_rfl) hmpb.lt (hmpb.fld 2 1) (noSto_apart (by kernel_rfl))
    · refine step_call hs (wants_none rfl) rfl fun L u W hJ hG hL hdep K hK => ?_
      have a0 := (show IsFs rE (u 1) [pax] from hG 1 (hdep 1 (by kernel_rfl)))
      have a1 := (show IsFs rE (u 3) [pbz] from hG 3 (hdep 3 (by kernel_rfl)))
      go_simp
      go_at_call 42
      (with_reducible refine (cMul a0 a1 _).mono ?_); rintro e w1 ⟨r, rfl, hr, hb⟩
      have hk := hK.out _ _ hr hb
      exact hk
    · exact step_field hs (wants_none rfl) rfl rfl (fun _ => E3.out) (field_P0 _)
    · exact step_loadF 5 q3 0 hs (wants_none rfl) rfl rfl tyE (fun _ => rfl) rfl (by kernel_rfl) hmpb.lt (hmpb.fld 0 1) (noSto_apart (by kernel_rfl))
    · exact step_field hs (wants_none rfl) rfl rfl (fun _ => E2.out) (field_P2 _)
    · exact step_loadF 7 q2 10 hs (wants_none rfl) rfl rfl tyE (fun _ => rfl) rfl (by kernel_rfl) hmpa.lt (hmpa.fld 2 1) (noSto_apart (by kernel_rfl))
    · refine step_call hs (wants_none rfl) rfl fun L u W hJ hG hL hdep K hK => ?_
      have a0 := (show IsFs rE (u 6) [pbx] from hG 6 (hdep 6 (by kernel_rfl)))
      have a1 := (show IsFs rE (u 8) [paz] from hG 8 (hdep 8 (by kernel_rfl)))
      go_simp
      go_at_call 42
      (with_reducible refine (cMul a0 a1 _).mono ?_); rintro e w1 ⟨r, rfl, hr, hb⟩
      have hk := hK.out _ _ hr hb
      exact hk
    · refine step_callO hs (wants_none rfl) rfl fun L u W hJ hG hL hdep K hK => ?_
      have a0 := (show IsFs rE (u 4) [pax * pbz] from hG 4 (hdep 4 (by kernel_rfl)))
      have a1 := (show IsFs rE (u 9) [pbx * paz] from hG 9 (hdep 9 (by kernel_rfl)))
      go_simp
      go_at_call 48
      (with_reducible refine (cSame (b := true) (decide_eq_true (Prep.same_x' hppa.p hppb.p HX.out)) a0 a1 _).mono ?_); rintro e w1 ⟨rfl, hb⟩
      have hk := hK.out _ _ rfl hb
      exact hk
    · exact step_pureO hs (wants_none rfl) rfl fun L u W hG hdep => ⟨_, run_move rfl, (show u 10 = .bool true from hG 10 (hdep 10 (by kernel_rfl)))⟩
    · exact step_field hs (wants_on 11 rfl rfl (by kernel_rfl) (fun _ => rfl)) rfl rfl (fun _ => E2.out) (field_P1 _)
    · exact step_loadF 12 q2 5 hs (wants_on 11 rfl rfl (by kernel_rfl) (fun _ => rfl)) rfl rfl tyE (fun _ => rfl) rfl (by kernel_rfl) hmpa.lt (hmpa.fld 1 1) (noSto_apart (by kernel_rfl))
    · exact step_field hs (wants_on 11 rfl rfl (by kernel_rfl) (fun _ => rfl)) rfl rfl (fun _ => E3.out) (field_P2 _)
    · exact step_loadF 14 q3 10 hs (wants_on 11 rfl rfl (by kernel_rfl) (fun _ => rfl)) rfl rfl tyE (fun _ => rfl) rfl (by kernel_rfl) hmpb.lt (hmpb.fld 2 1) (noSto_apart (by kernel_rfl))
    · refine step_call hs (wants_on 11 rfl rfl (by kernel_rfl) (fun _ => rfl)) rfl fun L u W hJ hG hL hdep K hK => ?_
      have a0 := (show IsFs rE (u 13) [pay] from hG 13 (hdep 13 (by kernel_rfl)))
      have a1 := (show IsFs rE (u 15) [pbz] from hG 15 (hdep 15 (by kernel_rfl)))
      go_simp
      go_at_call 42
      (with_reducible refine (cMul a0 a1 _).mono ?_); rintro e w1 ⟨r, rfl, hr, hb⟩
      have hk := hK.out _ _ hr hb
      exact hk
    · exact step_field hs (wants_on 11 rfl rfl (by kernel_rfl) (fun _ => rfl)) rfl rfl (fun _ => E3.out) (field_P1 _)
    · exact step_loadF 17 q3 5 hs (wants_on 11 rfl rfl (by kernel_rfl) (fun _ => rfl)) rfl rfl tyE (fun _ => rfl) rfl (by kernel_rfl) hmpb.lt (hmpb.fld 1 1) (noSto_apart (by kernel_rfl))
    · exact step_field hs (wants_on 11 rfl rfl (by kernel_rfl) (fun _ => rfl)) rfl rfl (fun _ => E2.out) (field_P2 _)
    · exact step_loadF 19 q2 10 hs (wants_on 11 rfl rfl (by kernel_rfl) (fun _ => rfl)) rfl rfl tyE (fun _ => rfl) rfl (by kernel_rfl) hmpa.lt (hmpa.fld 2 1) (noSto_apart (by kernel_rfl))
    · refine step_call hs (wants_on 11 rfl rfl (by kernel_rfl) (fun _ => rfl)) rfl fun L u W hJ hG hL hdep K hK => ?_
      have a0 := (show IsFs rE (u 18) [pby] from hG 18 (hdep 18 (by kernel_rfl)))
      have a1 := (show IsFs rE (u 20) [paz] from hG 20 (hdep 20 (by kernel_rfl)))
      go_simp
      go_at_call 42
      (with_reducible refine (cMul a0 a1 _).mono ?_); rintro e w1 ⟨r, rfl, hr, hb⟩
      have hk := hK.out _ _ hr hb
      exact hk
    · refine step_callO hs (wants_on 11 rfl rfl (by kernel_rfl) (fun _ => rfl)) rfl fun L u W hJ hG hL hdep K hK => ?_
      have a0 := (show IsFs rE (u 16) [pay * pbz] from hG 16 (hdep 16 (by kernel_rfl)))
      have a1 := (show IsFs rE (u 21) [pby * paz] from hG 21 (hdep 21 (by kernel_rfl)))
      go_simp
      go_at_call 48
      (with_reducible refine (cSame (b := q) (Prep.same_y hppa.p hppb.p HX.out HQ.out) a0 a1 _).mono ?_); rintro e w1 ⟨rfl, hb⟩
      have hk := hK.out _ _ rfl hb
      exact hk
    · exact step_pick true hs (wants_none rfl) rfl rfl (fun L u W hG hdep => (show u 11 = .bool true from hG 11 (hdep 11 (by kernel_rfl)))) (fun L u W hG hdep => (show u 22 = .bool q from hG 22 (hdep 22 (by kernel_rfl))))
    · exact step_pureO hs (wants_none rfl) rfl fun L u W hG hdep => ⟨_, run_assign rfl, (show u 23 = .bool q from hG 23 (hdep 23 (by kernel_rfl)))⟩
  intro L2 u2 W2 hall hJ hG
  have hb := hJ.all rfl
  have hbel := Below.call hbel hb
  have hmpa := hmpa.later hb
  have hmpb := hmpb.later hb
  have hs1_4t := there_later hs1_4t hb
  have hs1_5t := there_later hs1_5t hb
  have HC19 := Lib.hid (show u2 10 = .bool true from hG 10 (by simp))
  have HC20 := Lib.hid (show u2 11 = .bool true from hG 11 (by simp))
  have HC31 := Lib.hid (show u2 22 = .bool q from hG 22 (by simp))
  have HC32 := Lib.hid (show u2 23 = .bool q from hG 23 (by simp))
  have HC4 := Lib.hid (show u2 24 = .bool q from hG 24 (by simp))
  have hbel0 := hbel
  clear hJ hG hall hb
  rw [HC4.out]
  go_wp2
  go_ret
  exact ⟨rfl, hbel⟩
theorem cPSame {v0 v1 : Value} {P Q : EP} {b : Bool} (hq : decide (P = Q) = b) (h0 : IsFs rP v0 [P]) (h1 : IsFs rP v1 [Q]) (w : World) :
    Calls Try.prog 28 #[v0, v1] w fun e w' => e = .returned (.bool b) ∧ Below w.heap.size w w' := by
  by_cases hx : P.x = Q.x
  · exact psame_1 h0 h1 hx hq w
  · rw [← hq, decide_eq_false (fun e => hx (by rw [e]))]
    exact psame_0 h0 h1 hx w
end Go.Proofs.Ytielgpefoameiaa
namespace Go.Proofs.Ytielgpefoameiaa
open Go Go.RowKit
theorem sc_253 {x : F} (h : x.val < Lq) : x.val / 2 ^ 253 = 0 := Nat.div_eq_of_lt (Nat.lt_trans h (by decide +kernel))
theorem bit_1 {s : F} {i : Nat} (hi : i ≤ 255) (h : s.val / 2 ^ i % 2 = 1) : bitI s (i : Nat) = 1 := by
  unfold bitI; rw [if_pos ⟨by omega, by omega⟩, show (i : Int).toNat = i from rfl, h]; rfl
theorem bit_0 {s : F} {i : Nat} (hi : i ≤ 255) (h : ¬ s.val / 2 ^ i % 2 = 1) : bitI s (i : Nat) = 0 := by
  unfold bitI; rw [if_pos ⟨by omega, by omega⟩, show (i : Int).toNat = i from rfl, show s.val / 2 ^ i % 2 = 0 by omega]; rfl
theorem mul_dig1 {P : EP} {s : F} {i : Nat} (h : s.val / 2 ^ i % 2 = 1) : Cp.add (Cp.add (Cp.mul (s.val / 2 ^ (i + 1)) P) (Cp.mul (s.val / 2 ^ (i + 1)) P)) P = Cp.mul (s.val / 2 ^ i) P := by rw [mul_digit P s.val i, if_pos h]
theorem mul_dig0 {P : EP} {s : F} {i : Nat} (h : ¬ s.val / 2 ^ i % 2 = 1) : Cp.add (Cp.mul (s.val / 2 ^ (i + 1)) P) (Cp.mul (s.val / 2 ^ (i + 1)) P) = Cp.mul (s.val / 2 ^ i) P := by rw [mul_digit P s.val i, if_neg h]
set_option maxRecDepth 100000 in
set_option maxHeartbeats 4000000 in
theorem cMult {v0 v1 : Value} {P Q : EP} {s : F} (hq : Cp.mul s.val P = Q) (h0 : IsFs rP v0 [P]) (h1 : IsFs rS v1 [s]) (w : World) :
    Calls Try.prog 27 #[v0, v1] w fun e w' => ∃ r, e = .returned r ∧ IsFs rP r [Q] ∧ Below w.heap.size w w' := by
  have HL := Lib.hid (of_isS h1).1
  subst hq
  go_enter Try.func27, Try.ntmps27
  have hbel : Below w.heap.size w w := Below.refl _ _
  have hbel0 := hbel
  go_upto_region 0 with fail
  refine wp_region_turn (fun u => #[v0, v1, u 0, u 1, u 2, undef, undef, undef, undef, undef, undef, undef, undef, undef, undef, undef, undef, undef, undef, undef, undef, undef, undef, undef, undef, undef, undef, undef, undef, undef]) (Holds [.box rP [P], .box rS [s], .new 20] w) (Keep [.box rP [P], .box rS [s], .new 20] w) (fun _ => undef) ?_ (by rfl) Keep.start (holds_soft (by kernel_rfl)) ?_ ?_
  · intro u i v h
    rcases i with _ | _ | _ | i
    all_goals first | (simp [Act.put, putV]; done) | (exfalso; simp at h; omega)
  · intro hs
    refine ⟨?_, ?_, ?_, trivial⟩
    · exact step_box hs (wants_none rfl) rfl rfl (gives_c h0 (fun _ => rfl))
    · exact step_box hs (wants_none rfl) rfl rfl (gives_c h1 (fun _ => rfl))
    · exact step_alloc hs (wants_none rfl) rfl rfl (by omega) rfl allocP
  intro L0 u0 W0 hall hJ hG
  obtain ⟨q2, e2, ⟨hq2, _⟩, ht2, hm2⟩ := (show ∃ g, u0 0 = .pointer (some ⟨g, 0, none⟩) ∧ (w.heap.size ≤ g ∧ g < W0.heap.size) ∧ W0.there g 0 20 ∧ HasFs rP W0 g 0 [P] from hG 0 (by simp))
  have hq2 : w.heap.size ≤ q2 := by have := hbel0.size; omega
  have E2 := Lib.hid e2; clear e2
  obtain ⟨q3, e3, ⟨hq3, _⟩, ht3, hm3⟩ := (show ∃ g, u0 1 = .pointer (some ⟨g, 0, none⟩) ∧ (w.heap.size ≤ g ∧ g < W0.heap.size) ∧ W0.there g 0 4 ∧ HasFs rS W0 g 0 [s] from hG 1 (by simp))
  have hq3 : w.heap.size ≤ q3 := by have := hbel0.size; omega
  have E3 := Lib.hid e3; clear e3
  obtain ⟨q4, e4, hq4, _, ht4⟩ := (show ∃ g, u0 2 = .pointer (some ⟨g, 0, none⟩) ∧ w.heap.size ≤ g ∧ 0 < 20 ∧ W0.there g 0 20 from hG 2 (by simp))
  have hq4 : w.heap.size ≤ q4 := by have := hbel0.size; omega
  have E4 := Lib.hid e4; clear e4
  have hb := hJ.all rfl
  have hbel := Below.call hbel hb
  have HN2_3 := Lib.hid (show q2 ≠ q3 from fun e => hJ.apart 0 1 _ (by omega) (hall _ (by simp)) (hall _ (by simp)) rfl rfl (E2.out.trans (by rw [e])) E3.out)
  have HN2_4 := Lib.hid (show q2 ≠ q4 from fun e => hJ.apart 0 2 _ (by omega) (hall _ (by simp)) (hall _ (by simp)) rfl rfl (E2.out.trans (by rw [e])) E4.out)
  have HN3_4 := Lib.hid (show q3 ≠ q4 from fun e => hJ.apart 1 2 _ (by omega) (hall _ (by simp)) (hall _ (by simp)) rfl rfl (E3.out.trans (by rw [e])) E4.out)
  have hbel0 := hbel
  clear hJ hG hall hb
  go_upto_region 1 with fail
  refine wp_region_turn (fun u => #[v0, v1, u0 0, u0 1, u0 2, undef, undef, undef, u 0, u 1, undef, undef, undef, undef, undef, undef, undef, undef, undef, undef, undef, undef, undef, undef, undef, undef, undef, undef, undef, undef]) (Holds [.val rP [P], .val rPr [P], .sto q2 rPr [P]] W0) (Keep [.val rP [P], .val rPr [P], .sto q2 rPr [P]] W0) (fun _ => undef) ?_ (by rfl) Keep.start (holds_soft (by kernel_rfl)) ?_ ?_
  · intro u i v h
    rcases i with _ | _ | _ | i
    all_goals first | (simp [Act.put, putV]; done) | (exfalso; simp at h; omega)
  · intro hs
    refine ⟨?_, ?_, ?_, trivial⟩
    · exact step_load q2 0 hs (wants_none rfl) rfl rfl tyP (fun _ => E2.out) hm2.lt hm2 (fun k g hk => by rcases k with _ | _ | _ | k <;> first | (cases hk; done) | (cases hk; exact .inl (by kernel_rfl)))
    · refine step_call hs (wants_none rfl) rfl fun L u W hJ hG hL hdep K hK => ?_
      have a0 := (show IsFs rP (u 0) [P] from hG 0 (hdep 0 (by kernel_rfl)))
      go_simp
      go_at_call 56
      (with_reducible refine (cReady a0 _).mono ?_); rintro e w1 ⟨r, rfl, hr, hb⟩
      have hk := hK.out _ _ hr hb
      exact hk
    · refine step_storeO q2 20 hs (wants_none rfl) rfl rfl (by kernel_rfl) (fun k hk => ?_) (fun _ => E2.out) (there_lt ht2 (by omega)) ht2 (gives_op 1 rfl (by kernel_rfl) (fun _ => rfl)) tyPr rfl
      rcases k with _ | _ | _ | k
      all_goals first | (exact absurd rfl hk) | (intro e; cases e; done)
  intro L1 u1 W1 hall hJ hG
  have hb : Below w.heap.size W0 W1 := hJ.below (by have := hbel.size; omega) (fun k b hf => by rcases k with _ | _ | _ | k <;> first | (cases hf; done) | (cases hf; omega))
  have hbel := hbel.trans hb
  have hm3 := hm3.blk (hJ.block _ (hm3.lt) (fun k hk => by rcases k with _ | _ | _ | k <;> first | (cases hk; done) | (cases hk; exact absurd rfl HN2_3.out)))
  have ht3 := there_blk ht3 (hJ.block _ (there_lt ht3 (by omega)) (fun k hk => by rcases k with _ | _ | _ | k <;> first | (cases hk; done) | (cases hk; exact absurd rfl HN2_3.out)))
  have ht4 := there_blk ht4 (hJ.block _ (there_lt ht4 (by omega)) (fun k hk => by rcases k with _ | _ | _ | k <;> first | (cases hk; done) | (cases hk; exact absurd rfl HN2_4.out)))
  obtain ⟨_, hs1_2t, hs1_2⟩ := (show _ ∧ W1.there q2 0 20 ∧ HasFs rPr W1 q2 0 [P] from hG 2 (by simp))
  have hbel0 := hbel
  clear hJ hG hall hb
  go_upto_region 2 with fail
  refine wp_region_turn (fun u => #[v0, v1, u0 0, u0 1, u0 2, u 1, undef, undef, u1 0, u1 1, u 0, undef, undef, undef, undef, undef, undef, undef, undef, undef, undef, undef, undef, undef, undef, undef, undef, undef, undef, undef]) (Holds [.val rE [dE2], .new 5, .st 1 rE [dE2]] W1) (Keep [.val rE [dE2], .new 5, .st 1 rE [dE2]] W1) (fun _ => undef) ?_ (by rfl) Keep.start (holds_soft (by kernel_rfl)) ?_ ?_
  · intro u i v h
    rcases i with _ | _ | _ | i
    all_goals first | (simp [Act.put, putV]; done) | (exfalso; simp at h; omega)
  · intro hs
    refine ⟨?_, ?_, ?_, trivial⟩
    · refine step_call hs (wants_none rfl) rfl fun L u W hJ hG hL hdep K hK => ?_
      go_simp
      go_at_call 57
      (with_reducible refine (cTwice _).mono ?_); rintro e w1 ⟨r, rfl, hr, hb⟩
      have hk := hK.out _ _ hr hb
      exact hk
    · exact step_alloc hs (wants_none rfl) rfl rfl (by omega) rfl allocE
    · exact step_store 1 hs (by kernel_rfl) (wants_none rfl) rfl rfl rfl (by kernel_rfl) (by kernel_rfl) (by kernel_rfl) (by kernel_rfl) (fun _ => rfl) (gives_op 0 rfl (by kernel_rfl) (fun _ => rfl)) tyE rfl
  intro L2 u2 W2 hall hJ hG
  obtain ⟨q5, e5, hq5, _, ht5⟩ := (show ∃ g, u2 1 = .pointer (some ⟨g, 0, none⟩) ∧ W1.heap.size ≤ g ∧ 0 < 5 ∧ W2.there g 0 5 from hG 1 (by simp))
  have hm5 : HasFs rE W2 q5 0 [dE2] := by
    obtain ⟨g, e, _, h⟩ := (show ∃ g, u2 1 = .pointer (some ⟨g, 0, none⟩) ∧ W1.heap.size ≤ g ∧ HasFs rE W2 g 0 [dE2] from hG 2 (by simp))
    rw [e5] at e; cases e; exact h
  have HD5_q2 := Lib.hid (show q2 ≠ q5 by have := there_lt hs1_2t (by omega); omega)
  have HD5_q3 := Lib.hid (show q3 ≠ q5 by have := there_lt ht3 (by omega); omega)
  have HD5_q4 := Lib.hid (show q4 ≠ q5 by have := there_lt ht4 (by omega); omega)
  have hq5 : w.heap.size ≤ q5 := by have := hbel0.size; omega
  have E5 := Lib.hid e5; clear e5
  have hb := hJ.all rfl
  have hbel := Below.call hbel hb
  have hs1_2 := hs1_2.later hb
  have hm3 := hm3.later hb
  have hs1_2t := there_later hs1_2t hb
  have ht3 := there_later ht3 hb
  have ht4 := there_later ht4 hb
  have hbel0 := hbel
  clear hJ hG hall hb
  go_upto_region 3 with fail
  refine wp_region_turn (fun u => #[v0, v1, u0 0, u0 1, u0 2, u2 1, u 2, undef, u1 0, u1 1, u2 0, u 0, u 1, undef, undef, undef, undef, undef, undef, undef, undef, undef, undef, undef, undef, undef, undef, undef, undef, undef]) (Holds [.val rP [Cp.zero], .val rPr [Cp.zero], .new 20, .st 2 rPr [Cp.zero]] W2) (Keep [.val rP [Cp.zero], .val rPr [Cp.zero], .new 20, .st 2 rPr [Cp.zero]] W2) (fun _ => undef) ?_ (by rfl) Keep.start (holds_soft (by kernel_rfl)) ?_ ?_
  · intro u i v h
    rcases i with _ | _ | _ | _ | i
    all_goals first | (simp [Act.put, putV]; done) | (exfalso; simp at h; omega)
  · intro hs
    refine ⟨?_, ?_, ?_, ?_, trivial⟩
    · exact step_pure hs (wants_none rfl) rfl fun L u W hG hdep => run_build0 rfl (build_P0 W)
    · refine step_call hs (wants_none rfl) rfl fun L u W hJ hG hL hdep K hK => ?_
      have a0 := (show IsFs rP (u 0) [Cp.zero] from hG 0 (hdep 0 (by kernel_rfl)))
      go_simp
      go_at_call 56
      (with_reducible refine (cReady a0 _).mono ?_); rintro e w1 ⟨r, rfl, hr, hb⟩
      have hk := hK.out _ _ hr hb
      exact hk
    · exact step_alloc hs (wants_none rfl) rfl rfl (by omega) rfl allocP
    · exact step_store 2 hs (by kernel_rfl) (wants_none rfl) rfl rfl rfl (by kernel_rfl) (by kernel_rfl) (by kernel_rfl) (by kernel_rfl) (fun _ => rfl) (gives_op 1 rfl (by kernel_rfl) (fun _ => rfl)) tyPr rfl
  intro L3 u3 W3 hall hJ hG
  obtain ⟨q6, e6, hq6, _, ht6⟩ := (show ∃ g, u3 2 = .pointer (some ⟨g, 0, none⟩) ∧ W2.heap.size ≤ g ∧ 0 < 20 ∧ W3.there g 0 20 from hG 2 (by simp))
  have hm6 : HasFs rPr W3 q6 0 [Cp.zero] := by
    obtain ⟨g, e, _, h⟩ := (show ∃ g, u3 2 = .pointer (some ⟨g, 0, none⟩) ∧ W2.heap.size ≤ g ∧ HasFs rPr W3 g 0 [Cp.zero] from hG 3 (by simp))
    rw [e6] at e; cases e; exact h
  have HD6_q2 := Lib.hid (show q2 ≠ q6 by have := there_lt hs1_2t (by omega); omega)
  have HD6_q3 := Lib.hid (show q3 ≠ q6 by have := there_lt ht3 (by omega); omega)
  have HD6_q4 := Lib.hid (show q4 ≠ q6 by have := there_lt ht4 (by omega); omega)
  have HD6_q5 := Lib.hid (show q5 ≠ q6 by have := there_lt ht5 (by omega); omega)
  have hq6 : w.heap.size ≤ q6 := by have := hbel0.size; omega
  have E6 := Lib.hid e6; clear e6
  have hb := hJ.all rfl
  have hbel := Below.call hbel hb
  have hs1_2 := hs1_2.later hb
  have hm3 := hm3.later hb
  have hm5 := hm5.later hb
  have hs1_2t := there_later hs1_2t hb
  have ht3 := there_later ht3 hb
  have ht4 := there_later ht4 hb
  have ht5 := there_later ht5 hb
  have hbel0 := hbel
  clear hJ hG hall hb
  go_wp2_with fail
  go_loopw [7] (fun sk wr => ∃ j : Nat, j ≤ 253 ∧ sk = .int .i64 ((j : Int) - 1) ∧ HasFs rPr wr q2 0 [P] ∧ HasFs rS wr q3 0 [s] ∧ HasFs rE wr q5 0 [dE2] ∧ HasFs rPr wr q6 0 [Cp.mul (s.val / 2 ^ j) P] ∧ wr.there q2 0 20 ∧ wr.there q3 0 4 ∧ wr.there q5 0 5 ∧ wr.there q6 0 20 ∧ wr.there q4 0 20 ∧ Below w.heap.size w wr) (fun t _ => (intOf t + 1).toNat)
  case atStart => exact ⟨253, by omega, by simp, hs1_2, hm3, hm5, (by rw [sc_253 HL.out]; exact hm6), hs1_2t, ht3, ht5, ht6, ht4, hbel⟩
  case round =>
    obtain ⟨j, hj, rfl, hmP, hmS, hmD, hmO, ht2', ht3', ht5', ht6', ht4', hbel'⟩ := hrel
    clear hm3 hm5 hm6 hs1_2 hs1_2t ht3 ht4 ht5 ht6 hbel hbel0 h0 h1
    have hbel := hbel'
    have hbel0 := hbel'
    by_cases h0 : 0 < j
    · obtain ⟨i, rfl⟩ : ∃ i, j = i + 1 := ⟨j - 1, by omega⟩
      have hz : (((i + 1 : Nat) : Int) - 1) = (i : Int) := by omega
      simp only [hz]
      have h1 : (0 : Int) ≤ (i : Int) := by omega
      have h2 : (i : Int) < 256 := by omega
      have HI : Hid (i + 1 ≤ 253) := Lib.hid (by omega)
      clear hz h0 hj
      go_upto_region 7 with fail
      refine wp_region_turn (fun u => #[v0, v1, u0 0, u0 1, u0 2, u2 1, u3 2, .int .i64 (i : Int), u1 0, u1 1, u2 0, u3 0, u3 1, .int .i64 (i : Int), .bool true, u15, u16, u 0, u 1, u 2, u 3, u21, u22, u23, u24, u25, u26, u27, u28, undef]) (Holds [.val rPr [Cp.mul (s.val / 2 ^ (i + 1)) P], .val rPr [Cp.mul (s.val / 2 ^ (i + 1)) P], .val rE [dE2], .val rPr [Cp.add (Cp.mul (s.val / 2 ^ (i + 1)) P) (Cp.mul (s.val / 2 ^ (i + 1)) P)], .sto q6 rPr [Cp.add (Cp.mul (s.val / 2 ^ (i + 1)) P) (Cp.mul (s.val / 2 ^ (i + 1)) P)]] wr) (Keep [.val rPr [Cp.mul (s.val / 2 ^ (i + 1)) P], .val rPr [Cp.mul (s.val / 2 ^ (i + 1)) P], .val rE [dE2], .val rPr [Cp.add (Cp.mul (s.val / 2 ^ (i + 1)) P) (Cp.mul (s.val / 2 ^ (i + 1)) P)], .sto q6 rPr [Cp.add (Cp.mul (s.val / 2 ^ (i + 1)) P) (Cp.mul (s.val / 2 ^ (i + 1)) P)]] wr) (fun k => ((u17 :: u18 :: u19 :: u20 :: undef :: []) : List Value).getD k undef) ?_ (by rfl) Keep.start (holds_soft (by kernel_rfl)) ?_ ?_
      · intro u i v h
        rcases i with _ | _ | _ | _ | _ | i
        all_goals first | (simp [Act.put, putV]; done) | (exfalso; simp at h; omega)
      · intro hs
        refine ⟨?_, ?_, ?_, ?_, ?_, trivial⟩
        · exact step_load q6 0 hs (wants_none rfl) rfl rfl tyPr (fun _ => E6.out) hmO.lt hmO (fun k g hk => by rcases k with _ | _ | _ | _ | _ | k <;> first | (cases hk; done) | (cases hk; exact .inl (by kernel_rfl)))
        · exact step_load q6 0 hs (wants_none rfl) rfl rfl tyPr (fun _ => E6.out) hmO.lt hmO (fun k g hk => by rcases k with _ | _ | _ | _ | _ | k <;> first | (cases hk; done) | (cases hk; exact .inl (by kernel_rfl)))
        · exact step_load q5 0 hs (wants_none rfl) rfl rfl tyE (fun _ => E5.out) hmD.lt hmD (fun k g hk => by rcases k with _ | _ | _ | _ | _ | k <;> first | (cases hk; done) | (cases hk; exact .inr (Ne.symm HD6_q5.out)))
        · refine step_call hs (wants_none rfl) rfl fun L u W hJ hG hL hdep K hK => ?_
          have a0 := (show IsFs rPr (u 0) [Cp.mul (s.val / 2 ^ (i + 1)) P] from hG 0 (hdep 0 (by kernel_rfl)))
          have a1 := (show IsFs rPr (u 1) [Cp.mul (s.val / 2 ^ (i + 1)) P] from hG 1 (hdep 1 (by kernel_rfl)))
          have a2 := (show IsFs rE (u 2) [dE2] from hG 2 (hdep 2 (by kernel_rfl)))
          go_simp
          go_at_call 58
          (with_reducible refine (cSum a0 a1 a2 _).mono ?_); rintro e w1 ⟨r, rfl, hr, hb⟩
          have hk := hK.out _ _ hr hb
          exact hk
        · refine step_storeO q6 20 hs (wants_none rfl) rfl rfl (by kernel_rfl) (fun k hk => ?_) (fun _ => E6.out) (there_lt ht6' (by omega)) ht6' (gives_op 3 rfl (by kernel_rfl) (fun _ => rfl)) tyPr rfl
          rcases k with _ | _ | _ | _ | _ | k
          all_goals first | (exact absurd rfl hk) | (intro e; cases e; done)
      intro L7 u7 W7 hall hJ hG
      have hb : Below w.heap.size wr W7 := hJ.below (by have := hbel.size; omega) (fun k b hf => by rcases k with _ | _ | _ | _ | _ | k <;> first | (cases hf; done) | (cases hf; omega))
      have hbel := hbel.trans hb
      have hmP := hmP.blk (hJ.block _ (hmP.lt) (fun k hk => by rcases k with _ | _ | _ | _ | _ | k <;> first | (cases hk; done) | (cases hk; exact absurd rfl (Ne.symm HD6_q2.out))))
      have hmS := hmS.blk (hJ.block _ (hmS.lt) (fun k hk => by rcases k with _ | _ | _ | _ | _ | k <;> first | (cases hk; done) | (cases hk; exact absurd rfl (Ne.symm HD6_q3.out))))
      have hmD := hmD.blk (hJ.block _ (hmD.lt) (fun k hk => by rcases k with _ | _ | _ | _ | _ | k <;> first | (cases hk; done) | (cases hk; exact absurd rfl (Ne.symm HD6_q5.out))))
      have ht2' := there_blk ht2' (hJ.block _ (there_lt ht2' (by omega)) (fun k hk => by rcases k with _ | _ | _ | _ | _ | k <;> first | (cases hk; done) | (cases hk; exact absurd rfl (Ne.symm HD6_q2.out))))
      have ht3' := there_blk ht3' (hJ.block _ (there_lt ht3' (by omega)) (fun k hk => by rcases k with _ | _ | _ | _ | _ | k <;> first | (cases hk; done) | (cases hk; exact absurd rfl (Ne.symm HD6_q3.out))))
      have ht5' := there_blk ht5' (hJ.block _ (there_lt ht5' (by omega)) (fun k hk => by rcases k with _ | _ | _ | _ | _ | k <;> first | (cases hk; done) | (cases hk; exact absurd rfl (Ne.symm HD6_q5.out))))
      have ht4' := there_blk ht4' (hJ.block _ (there_lt ht4' (by omega)) (fun k hk => by rcases k with _ | _ | _ | _ | _ | k <;> first | (cases hk; done) | (cases hk; exact absurd rfl (Ne.symm HD6_q4.out))))
      obtain ⟨_, hs7_4t, hs7_4⟩ := (show _ ∧ W7.there q6 0 20 ∧ HasFs rPr W7 q6 0 [Cp.add (Cp.mul (s.val / 2 ^ (i + 1)) P) (Cp.mul (s.val / 2 ^ (i + 1)) P)] from hG 4 (by simp))
      have hbel0 := hbel
      clear hJ hG hall hb
      by_cases hb1 : s.val / 2 ^ i % 2 = 1
      · have HB := Lib.hid hb1; clear hb1
        go_upto_region 8 with fail
        refine wp_region_turn (fun u => #[v0, v1, u0 0, u0 1, u0 2, u2 1, u3 2, .int .i64 (i : Int), u1 0, u1 1, u2 0, u3 0, u3 1, .int .i64 (i : Int), .bool true, u15, u16, u7 0, u7 1, u7 2, u7 3, u 0, u 1, u 2, u 3, u25, u26, u27, u28, undef]) (Holds [.val rS [s], .oth (fun v => v = .int .i64 (i : Int)), .oth (fun v => v = .int .i64 1), .oth (fun v => v = .bool true)] W7) (Keep [.val rS [s], .oth (fun v => v = .int .i64 (i : Int)), .oth (fun v => v = .int .i64 1), .oth (fun v => v = .bool true)] W7) (fun k => ((u21 :: u22 :: u23 :: u24 :: []) : List Value).getD k undef) ?_ (by rfl) Keep.start (holds_soft (by kernel_rfl)) ?_ ?_
        · intro u i v h
          rcases i with _ | _ | _ | _ | i
          all_goals first | (simp [Act.put, putV]; done) | (exfalso; simp at h; omega)
        · intro hs
          refine ⟨?_, ?_, ?_, ?_, trivial⟩
          · exact step_load q3 0 hs (wants_none rfl) rfl rfl tyS (fun _ => E3.out) hmS.lt hmS (noSto_apart (by kernel_rfl))
          · exact step_pureO hs (wants_none rfl) rfl fun L u W hG hdep => ⟨_, run_move rfl, rfl⟩
          · refine step_callO hs (wants_none rfl) rfl fun L u W hJ hG hL hdep K hK => ?_
            have a0 := (show IsFs rS (u 0) [s] from hG 0 (hdep 0 (by kernel_rfl)))
            have x0 := (show u 1 = .int .i64 (i : Int) from hG 1 (hdep 1 (by kernel_rfl)))
            go_simp
            go_at_call 59
            (with_reducible refine (cScBit (z := 1) (bit_1 (by have := HI.out; omega) HB.out) a0 _).mono ?_); rintro e w1 ⟨rfl, hb⟩
            have hk := hK.out _ _ rfl hb
            simp only [x0] at hk
            exact hk
          · refine step_pureO hs (wants_none rfl) rfl fun L u W hG hdep => ⟨_, ?_, rfl⟩
            have e0 := (show u 2 = .int .i64 1 from hG 2 (hdep 2 (by kernel_rfl)))
            go_simp
            try simp [bne]
        intro L8 u8y W8y hall hJ hG
        have hb := hJ.all rfl
        have hbel := Below.call hbel hb
        have hmP := hmP.later hb
        have hmS := hmS.later hb
        have hmD := hmD.later hb
        have hs7_4 := hs7_4.later hb
        have ht2' := there_later ht2' hb
        have ht3' := there_later ht3' hb
        have ht5' := there_later ht5' hb
        have hs7_4t := there_later hs7_4t hb
        have ht4' := there_later ht4' hb
        have HC24 := Lib.hid (show u8y 3 = .bool true from hG 3 (by simp))
        have hbel0 := hbel
        clear hJ hG hall hb
        have hx : u8y 3 = .bool true := HC24.out
        go_wp2_with fail
        rw [hx]
        clear hx
        go_upto_region 9 with fail
        refine wp_region_turn (fun u => #[v0, v1, u0 0, u0 1, u0 2, u2 1, u3 2, .int .i64 (i : Int), u1 0, u1 1, u2 0, u3 0, u3 1, .int .i64 (i : Int), .bool true, u15, u16, u7 0, u7 1, u7 2, u7 3, u8y 0, u8y 1, u8y 2, .bool true, u 0, u 1, u 2, u 3, undef]) (Holds [.val rPr [Cp.add (Cp.mul (s.val / 2 ^ (i + 1)) P) (Cp.mul (s.val / 2 ^ (i + 1)) P)], .val rPr [P], .val rE [dE2], .val rPr [Cp.add (Cp.add (Cp.mul (s.val / 2 ^ (i + 1)) P) (Cp.mul (s.val / 2 ^ (i + 1)) P)) P], .sto q6 rPr [Cp.add (Cp.add (Cp.mul (s.val / 2 ^ (i + 1)) P) (Cp.mul (s.val / 2 ^ (i + 1)) P)) P]] W8y) (Keep [.val rPr [Cp.add (Cp.mul (s.val / 2 ^ (i + 1)) P) (Cp.mul (s.val / 2 ^ (i + 1)) P)], .val rPr [P], .val rE [dE2], .val rPr [Cp.add (Cp.add (Cp.mul (s.val / 2 ^ (i + 1)) P) (Cp.mul (s.val / 2 ^ (i + 1)) P)) P], .sto q6 rPr [Cp.add (Cp.add (Cp.mul (s.val / 2 ^ (i + 1)) P) (Cp.mul (s.val / 2 ^ (i + 1)) P)) P]] W8y) (fun k => ((u25 :: u26 :: u27 :: u28 :: undef :: []) : List Value).getD k undef) ?_ (by rfl) Keep.start (holds_soft (by kernel_rfl)) ?_ ?_
        · intro u i v h
          rcases i with _ | _ | _ | _ | _ | i
          all_goals first | (simp [Act.put, putV]; done) | (exfalso; simp at h; omega)
        · intro hs
          refine ⟨?_, ?_, ?_, ?_, ?_, trivial⟩
          · exact step_load q6 0 hs (wants_none rfl) rfl rfl tyPr (fun _ => E6.out) hs7_4.lt hs7_4 (fun k g hk => by rcases k with _ | _ | _ | _ | _ | k <;> first | (cases hk; done) | (cases hk; exact .inl (by kernel_rfl)))
          · exact step_load q2 0 hs (wants_none rfl) rfl rfl tyPr (fun _ => E2.out) hmP.lt hmP (fun k g hk => by rcases k with _ | _ | _ | _ | _ | k <;> first | (cases hk; done) | (cases hk; exact .inr (Ne.symm HD6_q2.out)))
          · exact step_load q5 0 hs (wants_none rfl) rfl rfl tyE (fun _ => E5.out) hmD.lt hmD (fun k g hk => by rcases k with _ | _ | _ | _ | _ | k <;> first | (cases hk; done) | (cases hk; exact .inr (Ne.symm HD6_q5.out)))
          · refine step_call hs (wants_none rfl) rfl fun L u W hJ hG hL hdep K hK => ?_
            have a0 := (show IsFs rPr (u 0) [Cp.add (Cp.mul (s.val / 2 ^ (i + 1)) P) (Cp.mul (s.val / 2 ^ (i + 1)) P)] from hG 0 (hdep 0 (by kernel_rfl)))
            have a1 := (show IsFs rPr (u 1) [P] from hG 1 (hdep 1 (by kernel_rfl)))
            have a2 := (show IsFs rE (u 2) [dE2] from hG 2 (hdep 2 (by kernel_rfl)))
            go_simp
            go_at_call 58
            (with_reducible refine (cSum a0 a1 a2 _).mono ?_); rintro e w1 ⟨r, rfl, hr, hb⟩
            have hk := hK.out _ _ hr hb
            exact hk
          · refine step_storeO q6 20 hs (wants_none rfl) rfl rfl (by kernel_rfl) (fun k hk => ?_) (fun _ => E6.out) (there_lt hs7_4t (by omega)) hs7_4t (gives_op 3 rfl (by kernel_rfl) (fun _ => rfl)) tyPr rfl
            rcases k with _ | _ | _ | _ | _ | k
            all_goals first | (exact absurd rfl hk) | (intro e; cases e; done)
        intro L9 u9y W9y hall hJ hG
        have hb : Below w.heap.size W8y W9y := hJ.below (by have := hbel.size; omega) (fun k b hf => by rcases k with _ | _ | _ | _ | _ | k <;> first | (cases hf; done) | (cases hf; omega))
        have hbel := hbel.trans hb
        have hmP := hmP.blk (hJ.block _ (hmP.lt) (fun k hk => by rcases k with _ | _ | _ | _ | _ | k <;> first | (cases hk; done) | (cases hk; exact absurd rfl (Ne.symm HD6_q2.out))))
        have hmS := hmS.blk (hJ.block _ (hmS.lt) (fun k hk => by rcases k with _ | _ | _ | _ | _ | k <;> first | (cases hk; done) | (cases hk; exact absurd rfl (Ne.symm HD6_q3.out))))
        have hmD := hmD.blk (hJ.block _ (hmD.lt) (fun k hk => by rcases k with _ | _ | _ | _ | _ | k <;> first | (cases hk; done) | (cases hk; exact absurd rfl (Ne.symm HD6_q5.out))))
        have ht2' := there_blk ht2' (hJ.block _ (there_lt ht2' (by omega)) (fun k hk => by rcases k with _ | _ | _ | _ | _ | k <;> first | (cases hk; done) | (cases hk; exact absurd rfl (Ne.symm HD6_q2.out))))
        have ht3' := there_blk ht3' (hJ.block _ (there_lt ht3' (by omega)) (fun k hk => by rcases k with _ | _ | _ | _ | _ | k <;> first | (cases hk; done) | (cases hk; exact absurd rfl (Ne.symm HD6_q3.out))))
        have ht5' := there_blk ht5' (hJ.block _ (there_lt ht5' (by omega)) (fun k hk => by rcases k with _ | _ | _ | _ | _ | k <;> first | (cases hk; done) | (cases hk; exact absurd rfl (Ne.symm HD6_q5.out))))
        have ht4' := there_blk ht4' (hJ.block _ (there_lt ht4' (by omega)) (fun k hk => by rcases k with _ | _ | _ | _ | _ | k <;> first | (cases hk; done) | (cases hk; exact absurd rfl (Ne.symm HD6_q4.out))))
        obtain ⟨_, hs9_4t, hs9_4⟩ := (show _ ∧ W9y.there q6 0 20 ∧ HasFs rPr W9y q6 0 [Cp.add (Cp.add (Cp.mul (s.val / 2 ^ (i + 1)) P) (Cp.mul (s.val / 2 ^ (i + 1)) P)) P] from hG 4 (by simp))
        have hbel0 := hbel
        clear hJ hG hall hb
        go_wp2_with fail
        go_roundw
        case rel => exact ⟨i, by have := HI.out; omega, by go_num, hmP, hmS, hmD, (by rw [← mul_dig1 HB.out]; exact hs9_4), ht2', ht3', ht5', hs9_4t, ht4', hbel⟩
        case measure => simp [intOf]
      · have HB := Lib.hid hb1; clear hb1
        go_upto_region 8 with fail
        refine wp_region_turn (fun u => #[v0, v1, u0 0, u0 1, u0 2, u2 1, u3 2, .int .i64 (i : Int), u1 0, u1 1, u2 0, u3 0, u3 1, .int .i64 (i : Int), .bool true, u15, u16, u7 0, u7 1, u7 2, u7 3, u 0, u 1, u 2, u 3, u25, u26, u27, u28, undef]) (Holds [.val rS [s], .oth (fun v => v = .int .i64 (i : Int)), .oth (fun v => v = .int .i64 0), .oth (fun v => v = .bool false)] W7) (Keep [.val rS [s], .oth (fun v => v = .int .i64 (i : Int)), .oth (fun v => v = .int .i64 0), .oth (fun v => v = .bool false)] W7) (fun k => ((u21 :: u22 :: u23 :: u24 :: []) : List Value).getD k undef) ?_ (by rfl) Keep.start (holds_soft (by kernel_rfl)) ?_ ?_
        · intro u i v h
          rcases i with _ | _ | _ | _ | i
          all_goals first | (simp [Act.put, putV]; done) | (exfalso; simp at h; omega)
        · intro hs
          refine ⟨?_, ?_, ?_, ?_, trivial⟩
          · exact step_load q3 0 hs (wants_none rfl) rfl rfl tyS (fun _ => E3.out) hmS.lt hmS (noSto_apart (by kernel_rfl))
          · exact step_pureO hs (wants_none rfl) rfl fun L u W hG hdep => ⟨_, run_move rfl, rfl⟩
          · refine step_callO hs (wants_none rfl) rfl fun L u W hJ hG hL hdep K hK => ?_
            have a0 := (show IsFs rS (u 0) [s] from hG 0 (hdep 0 (by kernel_rfl)))
            have x0 := (show u 1 = .int .i64 (i : Int) from hG 1 (hdep 1 (by kernel_rfl)))
            go_simp
            go_at_call 59
            (with_reducible refine (cScBit (z := 0) (bit_0 (by have := HI.out; omega) HB.out) a0 _).mono ?_); rintro e w1 ⟨rfl, hb⟩
            have hk := hK.out _ _ rfl hb
            simp only [x0] at hk
            exact hk
          · refine step_pureO hs (wants_none rfl) rfl fun L u W hG hdep => ⟨_, ?_, rfl⟩
            have e0 := (show u 2 = .int .i64 0 from hG 2 (hdep 2 (by kernel_rfl)))
            go_simp
            try simp [bne]
        intro L8 u8n W8n hall hJ hG
        have hb := hJ.all rfl
        have hbel := Below.call hbel hb
        have hmP := hmP.later hb
        have hmS := hmS.later hb
        have hmD := hmD.later hb
        have hs7_4 := hs7_4.later hb
        have ht2' := there_later ht2' hb
        have ht3' := there_later ht3' hb
        have ht5' := there_later ht5' hb
        have hs7_4t := there_later hs7_4t hb
        have ht4' := there_later ht4' hb
        have HC24 := Lib.hid (show u8n 3 = .bool false from hG 3 (by simp))
        have hbel0 := hbel
        clear hJ hG hall hb
        have hx : u8n 3 = .bool false := HC24.out
        go_wp2_with fail
        rw [hx]
        clear hx
        go_wp2_with fail
        go_roundw
        case rel => exact ⟨i, by have := HI.out; omega, by go_num, hmP, hmS, hmD, (by rw [← mul_dig0 HB.out]; exact hs7_4), ht2', ht3', ht5', hs7_4t, ht4', hbel⟩
        case measure => simp [intOf]
    · obtain rfl : j = 0 := by omega
      have hz : (((0 : Nat) : Int) - 1) = -1 := by omega
      simp only [hz]
      clear hz h0 hj
      go_upto_region 10 with fail
      refine wp_region_turn (fun u => #[v0, v1, u0 0, u0 1, u0 2, u2 1, u3 2, .int .i64 (-1), u1 0, u1 1, u2 0, u3 0, u3 1, .int .i64 (-1), .bool false, u15, u16, u17, u18, u19, u20, u21, u22, u23, u24, u25, u26, u27, u28, u 0]) (Holds [.val rPr [Cp.mul (s.val / 2 ^ 0) P], .sto q4 rPr [Cp.mul (s.val / 2 ^ 0) P]] wr) (Keep [.val rPr [Cp.mul (s.val / 2 ^ 0) P], .sto q4 rPr [Cp.mul (s.val / 2 ^ 0) P]] wr) (fun _ => undef) ?_ (by rfl) Keep.start (holds_soft (by kernel_rfl)) ?_ ?_
      · intro u i v h
        rcases i with _ | _ | i
        all_goals first | (simp [Act.put, putV]; done) | (exfalso; simp at h; omega)
      · intro hs
        refine ⟨?_, ?_, trivial⟩
        · exact step_load q6 0 hs (wants_none rfl) rfl rfl tyPr (fun _ => E6.out) hmO.lt hmO (fun k g hk => by rcases k with _ | _ | k <;> first | (cases hk; done) | (cases hk; exact .inr HD6_q4.out))
        · refine step_storeO q4 20 hs (wants_none rfl) rfl rfl (by kernel_rfl) (fun k hk => ?_) (fun _ => E4.out) (there_lt ht4' (by omega)) ht4' (gives_op 0 rfl (by kernel_rfl) (fun _ => rfl)) tyPr rfl
          rcases k with _ | _ | k
          all_goals first | (exact absurd rfl hk) | (intro e; cases e; done)
      intro L10 u10 W10 hall hJ hG
      have hb : Below w.heap.size wr W10 := hJ.below (by have := hbel.size; omega) (fun k b hf => by rcases k with _ | _ | k <;> first | (cases hf; done) | (cases hf; omega))
      have hbel := hbel.trans hb
      have hmP := hmP.blk (hJ.block _ (hmP.lt) (fun k hk => by rcases k with _ | _ | k <;> first | (cases hk; done) | (cases hk; exact absurd rfl (Ne.symm HN2_4.out))))
      have hmS := hmS.blk (hJ.block _ (hmS.lt) (fun k hk => by rcases k with _ | _ | k <;> first | (cases hk; done) | (cases hk; exact absurd rfl (Ne.symm HN3_4.out))))
      have hmD := hmD.blk (hJ.block _ (hmD.lt) (fun k hk => by rcases k with _ | _ | k <;> first | (cases hk; done) | (cases hk; exact absurd rfl HD5_q4.out)))
      have hmO := hmO.blk (hJ.block _ (hmO.lt) (fun k hk => by rcases k with _ | _ | k <;> first | (cases hk; done) | (cases hk; exact absurd rfl HD6_q4.out)))
      have ht2' := there_blk ht2' (hJ.block _ (there_lt ht2' (by omega)) (fun k hk => by rcases k with _ | _ | k <;> first | (cases hk; done) | (cases hk; exact absurd rfl (Ne.symm HN2_4.out))))
      have ht3' := there_blk ht3' (hJ.block _ (there_lt ht3' (by omega)) (fun k hk => by rcases k with _ | _ | k <;> first | (cases hk; done) | (cases hk; exact absurd rfl (Ne.symm HN3_4.out))))
      have ht5' := there_blk ht5' (hJ.block _ (there_lt ht5' (by omega)) (fun k hk => by rcases k with _ | _ | k <;> first | (cases hk; done) | (cases hk; exact absurd rfl HD5_q4.out)))
      have ht6' := there_blk ht6' (hJ.block _ (there_lt ht6' (by omega)) (fun k hk => by rcases k with _ | _ | k <;> first | (cases hk; done) | (cases hk; exact absurd rfl HD6_q4.out)))
      obtain ⟨_, hs10_1t, hs10_1⟩ := (show _ ∧ W10.there q4 0 20 ∧ HasFs rPr W10 q4 0 [Cp.mul (s.val / 2 ^ 0) P] from hG 1 (by simp))
      have hbel0 := hbel
      clear hJ hG hall hb
      go_wp2
      exact ret_cell1 (R := rPr) Try.results27 (by exact E4.out) hs10_1 tyPr rfl (fun r hr => ⟨r, rfl, by rw [Nat.pow_zero, Nat.div_one] at hr; exact toP hr, hbel⟩)
theorem cLittle64 {n : Nat} (hn : n < 18446744073709551616) (w : World) :
    Calls Try.prog 72 #[.int .u64 n] w fun e w' => ∃ g m cap r, e = .returned (.slice (some ⟨g, 0, none⟩) m cap) ∧ w.heap.size ≤ g ∧ Blk w' g ((leB 8 n).map bV ++ r) 5 ∧ (leB 8 n).length = m ∧ m ≤ cap ∧ cap ≤ maxLen ∧ Below w.heap.size w w' :=
  (little_any hn w).mono fun _ _ ⟨he, hB, hb⟩ => ⟨w.heap.size, 8, 8, [], he, Nat.le_refl _, by rw [List.append_nil]; exact hB, leB_len _ _, Nat.le_refl _, by unfold maxLen; omega, hb⟩
def timesP (k : Int) (P : EP) : EP := if 0 ≤ k ∧ k ≤ 2147483648 then Cp.mul k.toNat P else Cp.zero
theorem wide_small {k : Nat} (h : k ≤ 2147483648) : wS (leB 8 k) = fn k := by
  unfold wS
  rw [leN_first]
  have e : leN ((leB 8 k).take 64) = k := by
    rw [List.take_of_length_le (by rw [leB_len]; omega), leN_leB]
    exact Nat.mod_eq_of_lt (by omega)
  rw [e, Nat.mod_eq_of_lt (by unfold Lq; omega)]
theorem fn_31 {k : Nat} (h : k ≤ 2147483648) : (fn k).val = k := Nat.mod_eq_of_lt (by unfold Pq; omega)
set_option maxRecDepth 100000 in
set_option maxHeartbeats 4000000 in
theorem times_lo {v0 : Value} {P : EP} (h0 : IsFs rP v0 [P]) {k : Int} (hk : k < 0) (w : World) :
    Calls Try.prog 52 #[v0, .int .i64 k] w fun e w' => ∃ r, e = .returned r ∧ IsFs rP r [Cp.zero] ∧ Below w.heap.size w w' := by
  have d1 : decide (k < 0) = true := decide_eq_true hk
  clear hk
  go_enter Try.func52, Try.ntmps52
  have hbel : Below w.heap.size w w := Below.refl _ _
  have hbel0 := hbel
  go_upto_region 0 with fail
  refine wp_region_turn (fun u => #[v0, .int .i64 k, u 0, undef, u 1, undef, undef, undef, undef, undef, undef, undef, undef, undef, undef, undef, undef, undef]) (Holds [.box rP [P], .new 20] w) (Keep [.box rP [P], .new 20] w) (fun _ => undef) ?_ (by rfl) Keep.start (holds_soft (by kernel_rfl)) ?_ ?_
  · intro u i v h
    rcases i with _ | _ | i
    all_goals first | (simp [Act.put, putV]; done) | (exfalso; simp at h; omega)
  · intro hs
    refine ⟨?_, ?_, trivial⟩
    · exact step_box hs (wants_none rfl) rfl rfl (gives_c h0 (fun _ => rfl))
    · exact step_alloc hs (wants_none rfl) rfl rfl (by omega) rfl allocP
  intro L0 u0 W0 hall hJ hG
  obtain ⟨q2, e2, ⟨hq2, _⟩, ht2, hm2⟩ := (show ∃ g, u0 0 = .pointer (some ⟨g, 0, none⟩) ∧ (w.heap.size ≤ g ∧ g < W0.heap.size) ∧ W0.there g 0 20 ∧ HasFs rP W0 g 0 [P] from hG 0 (by simp))
  have hq2 : w.heap.size ≤ q2 := by have := hbel0.size; omega
  have E2 := Lib.hid e2; clear e2
  obtain ⟨q4, e4, hq4, _, ht4⟩ := (show ∃ g, u0 1 = .pointer (some ⟨g, 0, none⟩) ∧ w.heap.size ≤ g ∧ 0 < 20 ∧ W0.there g 0 20 from hG 1 (by simp))
  have hq4 : w.heap.size ≤ q4 := by have := hbel0.size; omega
  have E4 := Lib.hid e4; clear e4
  have hb := hJ.all rfl
  have hbel := Below.call hbel hb
  have HN2_4 := Lib.hid (show q2 ≠ q4 from fun e => hJ.apart 0 1 _ (by omega) (hall _ (by simp)) (hall _ (by simp)) rfl rfl (E2.out.trans (by rw [e])) E4.out)
  have hbel0 := hbel
  clear hJ hG hall hb
  go_upto_region 1 with fail
  refine wp_region_turn (fun u => #[v0, .int .i64 k, u0 0, undef, u0 1, u 0, u 1, u 2, u 3, u 4, u 5, undef, undef, undef, undef, undef, undef, undef]) (Holds [.oth (fun v => v = .int .i64 k), .oth (fun v => v = .bool true), .oth (fun v => v = .bool true), .oth (fun v => v = undef), .oth (fun v => v = undef), .oth (fun v => v = .bool true)] W0) (Keep [.oth (fun v => v = .int .i64 k), .oth (fun v => v = .bool true), .oth (fun v => v = .bool true), .oth (fun v => v = undef), .oth (fun v => v = undef), .oth (fun v => v = .bool true)] W0) (fun _ => undef) ?_ (by rfl) Keep.start (holds_soft (by kernel_rfl)) ?_ ?_
  · intro u i v h
    rcases i with _ | _ | _ | _ | _ | _ | i
    all_goals first | (simp [Act.put, putV]; done) | (exfalso; simp at h; omega)
  · intro hs
    refine ⟨?_, ?_, ?_, ?_, ?_, ?_, trivial⟩
    · exact step_pureO hs (wants_none rfl) rfl fun L u W hG hdep => ⟨_, run_move rfl, rfl⟩
    · refine step_pureO hs (wants_none rfl) rfl fun L u W hG hdep => ⟨_, ?_, rfl⟩
      have e0 := (show u 0 = .int .i64 k from hG 0 (hdep 0 (by kernel_rfl)))
      go_simp
    · exact step_pureO hs (wants_none rfl) rfl fun L u W hG hdep => ⟨_, run_move rfl, (show u 1 = .bool true from hG 1 (hdep 1 (by kernel_rfl)))⟩
    · exact step_outU hs (wants_off 2 rfl rfl rfl (by kernel_rfl) (fun _ => rfl)) rfl
    · exact step_outU hs (wants_off 2 rfl rfl rfl (by kernel_rfl) (fun _ => rfl)) rfl
    · exact step_pick true hs (wants_none rfl) rfl rfl (fun L u W hG hdep => (show u 2 = .bool true from hG 2 (hdep 2 (by kernel_rfl)))) (fun L u W hG hdep => rfl)
  intro L1 u1 W1 hall hJ hG
  have hb := hJ.all rfl
  have hbel := Below.call hbel hb
  have hm2 := hm2.later hb
  have ht2 := there_later ht2 hb
  have ht4 := there_later ht4 hb
  have HC6 := Lib.hid (show u1 1 = .bool true from hG 1 (by simp))
  have HC7 := Lib.hid (show u1 2 = .bool true from hG 2 (by simp))
  have HC10 := Lib.hid (show u1 5 = .bool true from hG 5 (by simp))
  have hbel0 := hbel
  clear hJ hG hall hb
  have hx : u1 5 = .bool true := HC10.out
  go_wp2_with fail
  rw [hx]
  clear hx
  go_upto_region 2 with fail
  refine wp_region_turn (fun u => #[v0, .int .i64 k, u0 0, undef, u0 1, u1 0, u1 1, u1 2, u1 3, u1 4, .bool true, u 0, undef, undef, undef, undef, undef, undef]) (Holds [.val rP [Cp.zero], .sto q4 rP [Cp.zero]] W1) (Keep [.val rP [Cp.zero], .sto q4 rP [Cp.zero]] W1) (fun _ => undef) ?_ (by rfl) Keep.start (holds_soft (by kernel_rfl)) ?_ ?_
  · intro u i v h
    rcases i with _ | _ | i
    all_goals first | (simp [Act.put, putV]; done) | (exfalso; simp at h; omega)
  · intro hs
    refine ⟨?_, ?_, trivial⟩
    · exact step_pure hs (wants_none rfl) rfl fun L u W hG hdep => run_build0 rfl (build_P0 W)
    · refine step_storeO q4 20 hs (wants_none rfl) rfl rfl (by kernel_rfl) (fun k hk => ?_) (fun _ => E4.out) (there_lt ht4 (by omega)) ht4 (gives_op 0 rfl (by kernel_rfl) (fun _ => rfl)) tyP rfl
      rcases k with _ | _ | k
      all_goals first | (exact absurd rfl hk) | (intro e; cases e; done)
  intro L2 u2 W2 hall hJ hG
  have hb : Below w.heap.size W1 W2 := hJ.below (by have := hbel.size; omega) (fun k b hf => by rcases k with _ | _ | k <;> first | (cases hf; done) | (cases hf; omega))
  have hbel := hbel.trans hb
  have hm2 := hm2.blk (hJ.block _ (hm2.lt) (fun k hk => by rcases k with _ | _ | k <;> first | (cases hk; done) | (cases hk; exact absurd rfl (Ne.symm HN2_4.out))))
  have ht2 := there_blk ht2 (hJ.block _ (there_lt ht2 (by omega)) (fun k hk => by rcases k with _ | _ | k <;> first | (cases hk; done) | (cases hk; exact absurd rfl (Ne.symm HN2_4.out))))
  obtain ⟨_, hs2_1t, hs2_1⟩ := (show _ ∧ W2.there q4 0 20 ∧ HasFs rP W2 q4 0 [Cp.zero] from hG 1 (by simp))
  have hbel0 := hbel
  clear hJ hG hall hb
  go_wp2
  exact ret_cell1 (R := rP) Try.results52 (by exact E4.out) hs2_1 tyP rfl (fun r hr => ⟨r, rfl, hr, hbel⟩)
set_option maxRecDepth 100000 in
set_option maxHeartbeats 4000000 in
theorem times_hi {v0 : Value} {P : EP} (h0 : IsFs rP v0 [P]) {k : Int} (hk : 2147483648 < k) (w : World) :
    Calls Try.prog 52 #[v0, .int .i64 k] w fun e w' => ∃ r, e = .returned r ∧ IsFs rP r [Cp.zero] ∧ Below w.heap.size w w' := by
  have d1 : decide (k < 0) = false := decide_eq_false (by omega)
  have d2 : decide (2147483648 < k) = true := decide_eq_true hk
  clear hk
  go_enter Try.func52, Try.ntmps52
  have hbel : Below w.heap.size w w := Below.refl _ _
  have hbel0 := hbel
  go_upto_region 0 with fail
  refine wp_region_turn (fun u => #[v0, .int .i64 k, u 0, undef, u 1, undef, undef, undef, undef, undef, undef, undef, undef, undef, undef, undef, undef, undef]) (Holds [.box rP [P], .new 20] w) (Keep [.box rP [P], .new 20] w) (fun _ => undef) ?_ (by rfl) Keep.start (holds_soft (by kernel_rfl)) ?_ ?_
  · intro u i v h
    rcases i with _ | _ | i
    all_goals first | (simp [Act.put, putV]; done) | (exfalso; simp at h; omega)
  · intro hs
    refine ⟨?_, ?_, trivial⟩
    · exact step_box hs (wants_none rfl) rfl rfl (gives_c h0 (fun _ => rfl))
    · exact step_alloc hs (wants_none rfl) rfl rfl (by omega) rfl allocP
  intro L0 u0 W0 hall hJ hG
  obtain ⟨q2, e2, ⟨hq2, _⟩, ht2, hm2⟩ := (show ∃ g, u0 0 = .pointer (some ⟨g, 0, none⟩) ∧ (w.heap.size ≤ g ∧ g < W0.heap.size) ∧ W0.there g 0 20 ∧ HasFs rP W0 g 0 [P] from hG 0 (by simp))
  have hq2 : w.heap.size ≤ q2 := by have := hbel0.size; omega
  have E2 := Lib.hid e2; clear e2
  obtain ⟨q4, e4, hq4, _, ht4⟩ := (show ∃ g, u0 1 = .pointer (some ⟨g, 0, none⟩) ∧ w.heap.size ≤ g ∧ 0 < 20 ∧ W0.there g 0 20 from hG 1 (by simp))
  have hq4 : w.heap.size ≤ q4 := by have := hbel0.size; omega
  have E4 := Lib.hid e4; clear e4
  have hb := hJ.all rfl
  have hbel := Below.call hbel hb
  have HN2_4 := Lib.hid (show q2 ≠ q4 from fun e => hJ.apart 0 1 _ (by omega) (hall _ (by simp)) (hall _ (by simp)) rfl rfl (E2.out.trans (by rw [e])) E4.out)
  have hbel0 := hbel
  clear hJ hG hall hb
  go_upto_region 1 with fail
  refine wp_region_turn (fun u => #[v0, .int .i64 k, u0 0, undef, u0 1, u 0, u 1, u 2, u 3, u 4, u 5, undef, undef, undef, undef, undef, undef, undef]) (Holds [.oth (fun v => v = .int .i64 k), .oth (fun v => v = .bool false), .oth (fun v => v = .bool false), .oth (fun v => v = .int .i64 k), .oth (fun v => v = .bool true), .oth (fun v => v = .bool true)] W0) (Keep [.oth (fun v => v = .int .i64 k), .oth (fun v => v = .bool false), .oth (fun v => v = .bool false), .oth (fun v => v = .int .i64 k), .oth (fun v => v = .bool true), .oth (fun v => v = .bool true)] W0) (fun _ => undef) ?_ (by rfl) Keep.start (holds_soft (by kernel_rfl)) ?_ ?_
  · intro u i v h
    rcases i with _ | _ | _ | _ | _ | _ | i
    all_goals first | (simp [Act.put, putV]; done) | (exfalso; simp at h; omega)
  · intro hs
    refine ⟨?_, ?_, ?_, ?_, ?_, ?_, trivial⟩
    · exact step_pureO hs (wants_none rfl) rfl fun L u W hG hdep => ⟨_, run_move rfl, rfl⟩
    · refine step_pureO hs (wants_none rfl) rfl fun L u W hG hdep => ⟨_, ?_, rfl⟩
      have e0 := (show u 0 = .int .i64 k from hG 0 (hdep 0 (by kernel_rfl)))
      go_simp
    · exact step_pureO hs (wants_none rfl) rfl fun L u W hG hdep => ⟨_, run_move rfl, (show u 1 = .bool false from hG 1 (hdep 1 (by kernel_rfl)))⟩
    · exact step_pureO hs (wants_on 2 rfl rfl (by kernel_rfl) (fun _ => rfl)) rfl fun L u W hG hdep => ⟨_, run_move rfl, rfl⟩
    · refine step_pureO hs (wants_on 2 rfl rfl (by kernel_rfl) (fun _ => rfl)) rfl fun L u W hG hdep => ⟨_, ?_, rfl⟩
      have e0 := (show u 3 = .int .i64 k from hG 3 (hdep 3 (by kernel_rfl)))
      go_simp
    · exact step_pick false hs (wants_none rfl) rfl rfl (fun L u W hG hdep => (show u 2 = .bool false from hG 2 (hdep 2 (by kernel_rfl)))) (fun L u W hG hdep => (show u 4 = .bool true from hG 4 (hdep 4 (by kernel_rfl))))
  intro L1 u1 W1 hall hJ hG
  have hb := hJ.all rfl
  have hbel := Below.call hbel hb
  have hm2 := hm2.later hb
  have ht2 := there_later ht2 hb
  have ht4 := there_later ht4 hb
  have HC6 := Lib.hid (show u1 1 = .bool false from hG 1 (by simp))
  have HC7 := Lib.hid (show u1 2 = .bool false from hG 2 (by simp))
  have HC9 := Lib.hid (show u1 4 = .bool true from hG 4 (by simp))
  have HC10 := Lib.hid (show u1 5 = .bool true from hG 5 (by simp))
  have hbel0 := hbel
  clear hJ hG hall hb
  have hx : u1 5 = .bool true := HC10.out
  go_wp2_with fail
  rw [hx]
  clear hx
  go_upto_region 2 with fail
  refine wp_region_turn (fun u => #[v0, .int .i64 k, u0 0, undef, u0 1, u1 0, u1 1, u1 2, u1 3, u1 4, .bool true, u 0, undef, undef, undef, undef, undef, undef]) (Holds [.val rP [Cp.zero], .sto q4 rP [Cp.zero]] W1) (Keep [.val rP [Cp.zero], .sto q4 rP [Cp.zero]] W1) (fun _ => undef) ?_ (by rfl) Keep.start (holds_soft (by kernel_rfl)) ?_ ?_
  · intro u i v h
    rcases i with _ | _ | i
    all_goals first | (simp [Act.put, putV]; done) | (exfalso; simp at h; omega)
  · intro hs
    refine ⟨?_, ?_, trivial⟩
    · exact step_pure hs (wants_none rfl) rfl fun L u W hG hdep => run_build0 rfl (build_P0 W)
    · refine step_storeO q4 20 hs (wants_none rfl) rfl rfl (by kernel_rfl) (fun k hk => ?_) (fun _ => E4.out) (there_lt ht4 (by omega)) ht4 (gives_op 0 rfl (by kernel_rfl) (fun _ => rfl)) tyP rfl
      rcases k with _ | _ | k
      all_goals first | (exact absurd rfl hk) | (intro e; cases e; done)
  intro L2 u2 W2 hall hJ hG
  have hb : Below w.heap.size W1 W2 := hJ.below (by have := hbel.size; omega) (fun k b hf => by rcases k with _ | _ | k <;> first | (cases hf; done) | (cases hf; omega))
  have hbel := hbel.trans hb
  have hm2 := hm2.blk (hJ.block _ (hm2.lt) (fun k hk => by rcases k with _ | _ | k <;> first | (cases hk; done) | (cases hk; exact absurd rfl (Ne.symm HN2_4.out))))
  have ht2 := there_blk ht2 (hJ.block _ (there_lt ht2 (by omega)) (fun k hk => by rcases k with _ | _ | k <;> first | (cases hk; done) | (cases hk; exact absurd rfl (Ne.symm HN2_4.out))))
  obtain ⟨_, hs2_1t, hs2_1⟩ := (show _ ∧ W2.there q4 0 20 ∧ HasFs rP W2 q4 0 [Cp.zero] from hG 1 (by simp))
  have hbel0 := hbel
  clear hJ hG hall hb
  go_wp2
  exact ret_cell1 (R := rP) Try.results52 (by exact E4.out) hs2_1 tyP rfl (fun r hr => ⟨r, rfl, hr, hbel⟩)
set_option maxRecDepth 100000 in
set_option maxHeartbeats 4000000 in
theorem times_in {v0 : Value} {P : EP} (h0 : IsFs rP v0 [P]) {kn : Nat} (hk : kn ≤ 2147483648) (w : World) :
    Calls Try.prog 52 #[v0, .int .i64 (kn : Nat)] w fun e w' => ∃ r, e = .returned r ∧ IsFs rP r [Cp.mul kn P] ∧ Below w.heap.size w w' := by
  have d1 : decide ((kn : Int) < 0) = false := decide_eq_false (by omega)
  have d2 : decide (2147483648 < (kn : Int)) = false := decide_eq_false (by omega)
  have HK := Lib.hid hk
  have HC : Hid (IntKind.u64.wrap (kn : Int) = (kn : Nat)) := Lib.hid (by rw [wrapU]; omega)
  clear hk
  go_enter Try.func52, Try.ntmps52
  have hbel : Below w.heap.size w w := Below.refl _ _
  have hbel0 := hbel
  go_upto_region 0 with fail
  refine wp_region_turn (fun u => #[v0, .int .i64 (kn : Nat), u 0, undef, u 1, undef, undef, undef, undef, undef, undef, undef, undef, undef, undef, undef, undef, undef]) (Holds [.box rP [P], .new 20] w) (Keep [.box rP [P], .new 20] w) (fun _ => undef) ?_ (by rfl) Keep.start (holds_soft (by kernel_rfl)) ?_ ?_
  · intro u i v h
    rcases i with _ | _ | i
    all_goals first | (simp [Act.put, putV]; done) | (exfalso; simp at h; omega)
  · intro hs
    refine ⟨?_, ?_, trivial⟩
    · exact step_box hs (wants_none rfl) rfl rfl (gives_c h0 (fun _ => rfl))
    · exact step_alloc hs (wants_none rfl) rfl rfl (by omega) rfl allocP
  intro L0 u0 W0 hall hJ hG
  obtain ⟨q2, e2, ⟨hq2, _⟩, ht2, hm2⟩ := (show ∃ g, u0 0 = .pointer (some ⟨g, 0, none⟩) ∧ (w.heap.size ≤ g ∧ g < W0.heap.size) ∧ W0.there g 0 20 ∧ HasFs rP W0 g 0 [P] from hG 0 (by simp))
  have hq2 : w.heap.size ≤ q2 := by have := hbel0.size; omega
  have E2 := Lib.hid e2; clear e2
  obtain ⟨q4, e4, hq4, _, ht4⟩ := (show ∃ g, u0 1 = .pointer (some ⟨g, 0, none⟩) ∧ w.heap.size ≤ g ∧ 0 < 20 ∧ W0.there g 0 20 from hG 1 (by simp))
  have hq4 : w.heap.size ≤ q4 := by have := hbel0.size; omega
  have E4 := Lib.hid e4; clear e4
  have hb := hJ.all rfl
  have hbel := Below.call hbel hb
  have HN2_4 := Lib.hid (show q2 ≠ q4 from fun e => hJ.apart 0 1 _ (by omega) (hall _ (by simp)) (hall _ (by simp)) rfl rfl (E2.out.trans (by rw [e])) E4.out)
  have hbel0 := hbel
  clear hJ hG hall hb
  go_upto_region 1 with fail
  refine wp_region_turn (fun u => #[v0, .int .i64 (kn : Nat), u0 0, undef, u0 1, u 0, u 1, u 2, u 3, u 4, u 5, undef, undef, undef, undef, undef, undef, undef]) (Holds [.oth (fun v => v = .int .i64 (kn : Nat)), .oth (fun v => v = .bool false), .oth (fun v => v = .bool false), .oth (fun v => v = .int .i64 (kn : Nat)), .oth (fun v => v = .bool false), .oth (fun v => v = .bool false)] W0) (Keep [.oth (fun v => v = .int .i64 (kn : Nat)), .oth (fun v => v = .bool false), .oth (fun v => v = .bool false), .oth (fun v => v = .int .i64 (kn : Nat)), .oth (fun v => v = .bool false), .oth (fun v => v = .bool false)] W0) (fun _ => undef) ?_ (by rfl) Keep.start (holds_soft (by kernel_rfl)) ?_ ?_
  · intro u i v h
    rcases i with _ | _ | _ | _ | _ | _ | i
    all_goals first | (simp [Act.put, putV]; done) | (exfalso; simp at h; omega)
  · intro hs
    refine ⟨?_, ?_, ?_, ?_, ?_, ?_, trivial⟩
    · exact step_pureO hs (wants_none rfl) rfl fun L u W hG hdep => ⟨_, run_move rfl, rfl⟩
    · refine step_pureO hs (wants_none rfl) rfl fun L u W hG hdep => ⟨_, ?_, rfl⟩
      have e0 := (show u 0 = .int .i64 (kn : Nat) from hG 0 (hdep 0 (by kernel_rfl)))
      go_simp
    · exact step_pureO hs (wants_none rfl) rfl fun L u W hG hdep => ⟨_, run_move rfl, (show u 1 = .bool false from hG 1 (hdep 1 (by kernel_rfl)))⟩
    · exact step_pureO hs (wants_on 2 rfl rfl (by kernel_rfl) (fun _ => rfl)) rfl fun L u W hG hdep => ⟨_, run_move rfl, rfl⟩
    · refine step_pureO hs (wants_on 2 rfl rfl (by kernel_rfl) (fun _ => rfl)) rfl fun L u W hG hdep => ⟨_, ?_, rfl⟩
      have e0 := (show u 3 = .int .i64 (kn : Nat) from hG 3 (hdep 3 (by kernel_rfl)))
      go_simp
    · exact step_pick false hs (wants_none rfl) rfl rfl (fun L u W hG hdep => (show u 2 = .bool false from hG 2 (hdep 2 (by kernel_rfl)))) (fun L u W hG hdep => (show u 4 = .bool false from hG 4 (hdep 4 (by kernel_rfl))))
  intro L1 u1 W1 hall hJ hG
  have hb := hJ.all rfl
  have hbel := Below.call hbel hb
  have hm2 := hm2.later hb
  have ht2 := there_later ht2 hb
  have ht4 := there_later ht4 hb
  have HC6 := Lib.hid (show u1 1 = .bool false from hG 1 (by simp))
  have HC7 := Lib.hid (show u1 2 = .bool false from hG 2 (by simp))
  have HC9 := Lib.hid (show u1 4 = .bool false from hG 4 (by simp))
  have HC10 := Lib.hid (show u1 5 = .bool false from hG 5 (by simp))
  have hbel0 := hbel
  clear hJ hG hall hb
  have hx : u1 5 = .bool false := HC10.out
  go_wp2_with fail
  rw [hx]
  clear hx
  go_upto_region 3 with fail
  refine wp_region_mid (fun u => #[v0, .int .i64 (kn : Nat), u0 0, undef, u0 1, u1 0, u1 1, u1 2, u1 3, u1 4, .bool false, undef, u 0, u 1, u 2, u 3, u 4, u 5]) (Holds [.val rP [P], .oth (fun v => v = .int .i64 (kn : Nat)), .oth (fun v => v = .int .u64 (kn : Nat)), .rd (leB 8 kn), .val rS [fn kn], .val rP [Cp.mul kn P], .sto q4 rP [Cp.mul kn P]] W1) (Keep [.val rP [P], .oth (fun v => v = .int .i64 (kn : Nat)), .oth (fun v => v = .int .u64 (kn : Nat)), .rd (leB 8 kn), .val rS [fn kn], .val rP [Cp.mul kn P], .sto q4 rP [Cp.mul kn P]] W1) (fun _ => undef) (by kernel_rfl) (by kernel_rfl) ?_ (by rfl) Keep.drew (holds_soft (by kernel_rfl)) ?_ ?_
  · intro u i v h
    rcases i with _ | _ | _ | _ | _ | _ | _ | i
    all_goals first | (simp [Act.put, putV]; done) | (exfalso; simp at h; omega)
  · intro hs
    refine ⟨?_, ?_, ?_, ?_, ?_, ?_, ?_, trivial⟩
    · exact step_load q2 0 hs (wants_none rfl) rfl rfl tyP (fun _ => E2.out) hm2.lt hm2 (fun k g hk => by rcases k with _ | _ | _ | _ | _ | _ | _ | k <;> first | (cases hk; done) | (cases hk; exact .inr (Ne.symm HN2_4.out)))
    · exact step_pureO hs (wants_none rfl) rfl fun L u W hG hdep => ⟨_, run_move rfl, rfl⟩
    · refine step_pureO hs (wants_none rfl) rfl fun L u W hG hdep => ⟨_, ?_, rfl⟩
      have e0 := (show u 1 = .int .i64 (kn : Nat) from hG 1 (hdep 1 (by kernel_rfl)))
      go_simp
      exact HC.out
    · refine step_callB hs (wants_none rfl) rfl fun L u W hJ hG hL hdep K hK => ?_
      have x0 := (show u 2 = .int .u64 (kn : Nat) from hG 2 (hdep 2 (by kernel_rfl)))
      go_simp
      go_at_call 72
      (with_reducible refine (cLittle64 (n := kn) (by first | (have := HK.out; omega) | omega) _).mono ?_); rintro e w1 ⟨g, n, cap, r, rfl, h1, h2, h3, h4, h5, hb⟩
      have hk := hK.out _ _ _ _ _ h1 h2 h3 h4 h5 hb
      simp only [x0] at hk
      exact hk
    · refine step_call hs (wants_none rfl) rfl fun L u W hJ hG hL hdep K hK => ?_
      obtain ⟨gR0, nR0, cR0, rR0, x0, _, hR0, hRn0, hRc0, hRm0⟩ := (show ∃ g n cap r, u 3 = .slice (some ⟨g, 0, none⟩) n cap ∧ W1.heap.size ≤ g ∧ Blk W g ((leB 8 kn).map bV ++ r) 5 ∧ (leB 8 kn).length = n ∧ n ≤ cap ∧ cap ≤ maxLen from hG 3 (hdep 3 (by kernel_rfl)))
      have hB0 := RdB.blk rR0 hR0 hRn0 hRc0 hRm0
      go_simp
      go_at_call 33
      (with_reducible refine (cWide (wide_small HK.out) hB0).mono ?_); rintro e w1 ⟨r, rfl, hr, hb⟩
      have hk := hK.out _ _ hr hb
      simp only [x0] at hk
      exact hk
    · refine step_call hs (wants_none rfl) rfl fun L u W hJ hG hL hdep K hK => ?_
      have a0 := (show IsFs rP (u 0) [P] from hG 0 (hdep 0 (by kernel_rfl)))
      have a1 := (show IsFs rS (u 4) [fn kn] from hG 4 (hdep 4 (by kernel_rfl)))
      go_simp
      go_at_call 27
      (with_reducible refine (cMult (by rw [fn_31 HK.out]) a0 a1 _).mono ?_); rintro e w1 ⟨r, rfl, hr, hb⟩
      have hk := hK.out _ _ hr hb
      exact hk
    · refine step_storeO q4 20 hs (wants_none rfl) rfl rfl (by kernel_rfl) (fun k hk => ?_) (fun _ => E4.out) (there_lt ht4 (by omega)) ht4 (gives_op 5 rfl (by kernel_rfl) (fun _ => rfl)) tyP rfl
      rcases k with _ | _ | _ | _ | _ | _ | _ | k
      all_goals first | (exact absurd rfl hk) | (intro e; cases e; done)
  intro L3 u3 W3 hall hJ hG
  have hb : Below w.heap.size W1 W3 := hJ.below (by have := hbel.size; omega) (fun k b hf => by rcases k with _ | _ | _ | _ | _ | _ | _ | k <;> first | (cases hf; done) | (cases hf; omega))
  have hbel := hbel.trans hb
  have hm2 := hm2.blk (hJ.block _ (hm2.lt) (fun k hk => by rcases k with _ | _ | _ | _ | _ | _ | _ | k <;> first | (cases hk; done) | (cases hk; exact absurd rfl (Ne.symm HN2_4.out))))
  have ht2 := there_blk ht2 (hJ.block _ (there_lt ht2 (by omega)) (fun k hk => by rcases k with _ | _ | _ | _ | _ | _ | _ | k <;> first | (cases hk; done) | (cases hk; exact absurd rfl (Ne.symm HN2_4.out))))
  obtain ⟨_, hs3_6t, hs3_6⟩ := (show _ ∧ W3.there q4 0 20 ∧ HasFs rP W3 q4 0 [Cp.mul kn P] from hG 6 (by simp))
  have hbel0 := hbel
  clear hJ hG hall hb
  go_wp2
  exact ret_cell1 (R := rP) Try.results52 (by exact E4.out) hs3_6 tyP rfl (fun r hr => ⟨r, rfl, hr, hbel⟩)
theorem cTimes {v0 : Value} {P Q : EP} {k : Int} (hq : timesP k P = Q) (h0 : IsFs rP v0 [P]) (w : World) :
    Calls Try.prog 52 #[v0, .int .i64 k] w fun e w' => ∃ r, e = .returned r ∧ IsFs rP r [Q] ∧ Below w.heap.size w w' := by
  subst hq
  unfold timesP
  by_cases h1 : k < 0
  · rw [if_neg (by omega)]; exact times_lo h0 h1 w
  · by_cases h2 : 2147483648 < k
    · rw [if_neg (by omega)]; exact times_hi h0 h2 w
    · rw [if_pos (by omega)]
      obtain ⟨n, rfl⟩ : ∃ n : Nat, k = n := ⟨k.toNat, by omega⟩
      exact times_in h0 (by omega) w
set_option maxRecDepth 100000 in
set_option maxHeartbeats 4000000 in
theorem cPSmall {v0 : Value} {P : EP} {b : Bool} (hq : decide (Cp.mul 8 P = Cp.zero) = b) (h0 : IsFs rP v0 [P]) (w : World) :
    Calls Try.prog 22 #[v0] w fun e w' => e = .returned (.bool b) ∧ Below w.heap.size w w' := by
  have HQ := Lib.hid hq; clear hq
  go_enter Try.func22, Try.ntmps22
  have hbel : Below w.heap.size w w := Below.refl _ _
  have hbel0 := hbel
  go_upto_region 0 with fail
  refine wp_region_turn (fun u => #[v0, u 0, u 1, undef, undef, undef, undef]) (Holds [.box rP [P], .oth (fun v => v = .bool false)] w) (Keep [.box rP [P], .oth (fun v => v = .bool false)] w) (fun _ => undef) ?_ (by rfl) Keep.start (holds_soft (by kernel_rfl)) ?_ ?_
  · intro u i v h
    rcases i with _ | _ | i
    all_goals first | (simp [Act.put, putV]; done) | (exfalso; simp at h; omega)
  · intro hs
    refine ⟨?_, ?_, trivial⟩
    · exact step_box hs (wants_none rfl) rfl rfl (gives_c h0 (fun _ => rfl))
    · exact step_pureO hs (wants_none rfl) rfl fun L u W hG hdep => ⟨_, run_assign rfl, rfl⟩
  intro L0 u0 W0 hall hJ hG
  obtain ⟨q1, e1, ⟨hq1, _⟩, ht1, hm1⟩ := (show ∃ g, u0 0 = .pointer (some ⟨g, 0, none⟩) ∧ (w.heap.size ≤ g ∧ g < W0.heap.size) ∧ W0.there g 0 20 ∧ HasFs rP W0 g 0 [P] from hG 0 (by simp))
  have hq1 : w.heap.size ≤ q1 := by have := hbel0.size; omega
  have E1 := Lib.hid e1; clear e1
  have hb := hJ.all rfl
  have hbel := Below.call hbel hb
  have HC2 := Lib.hid (show u0 1 = .bool false from hG 1 (by simp))
  have hbel0 := hbel
  clear hJ hG hall hb
  go_upto_region 1 with fail
  refine wp_region_turn (fun u => #[v0, u0 0, u 4, u 0, u 1, u 2, u 3]) (Holds [.val rP [P], .val rP [Cp.mul 8 P], .val rP [Cp.zero], .oth (fun v => v = .bool b), .oth (fun v => v = .bool b)] W0) (Keep [.val rP [P], .val rP [Cp.mul 8 P], .val rP [Cp.zero], .oth (fun v => v = .bool b), .oth (fun v => v = .bool b)] W0) (fun k => ((undef :: undef :: undef :: undef :: u0 1 :: []) : List Value).getD k undef) ?_ (by rfl) Keep.start (holds_soft (by kernel_rfl)) ?_ ?_
  · intro u i v h
    rcases i with _ | _ | _ | _ | _ | i
    all_goals first | (simp [Act.put, putV]; done) | (exfalso; simp at h; omega)
  · intro hs
    refine ⟨?_, ?_, ?_, ?_, ?_, trivial⟩
    · exact step_load q1 0 hs (wants_none rfl) rfl rfl tyP (fun _ => E1.out) hm1.lt hm1 (noSto_apart (by kernel_rfl))
    · refine step_call hs (wants_none rfl) rfl fun L u W hJ hG hL hdep K hK => ?_
      have a0 := (show IsFs rP (u 0) [P] from hG 0 (hdep 0 (by kernel_rfl)))
      go_simp
      go_at_call 52
      (with_reducible refine (cTimes rfl a0 _).mono ?_); rintro e w1 ⟨r, rfl, hr, hb⟩
      have hk := hK.out _ _ hr hb
      exact hk
    · exact step_pure hs (wants_none rfl) rfl fun L u W hG hdep => run_build0 rfl (build_P0 W)
    · refine step_callO hs (wants_none rfl) rfl fun L u W hJ hG hL hdep K hK => ?_
      have a0 := (show IsFs rP (u 1) [Cp.mul 8 P] from hG 1 (hdep 1 (by kernel_rfl)))
      have a1 := (show IsFs rP (u 2) [Cp.zero] from hG 2 (hdep 2 (by kernel_rfl)))
      go_simp
      go_at_call 28
      (with_reducible refine (cPSame (b := b) (HQ.out) a0 a1 _).mono ?_); rintro e w1 ⟨rfl, hb⟩
      have hk := hK.out _ _ rfl hb
      exact hk
    · exact step_pureO hs (wants_none rfl) rfl fun L u W hG hdep => ⟨_, run_assign rfl, (show u 3 = .bool b from hG 3 (hdep 3 (by kernel_rfl)))⟩
  intro L1 u1 W1 hall hJ hG
  have hb := hJ.all rfl
  have hbel := Below.call hbel hb
  have hm1 := hm1.later hb
  have ht1 := there_later ht1 hb
  have HC6 := Lib.hid (show u1 3 = .bool b from hG 3 (by simp))
  have HC2 := Lib.hid (show u1 4 = .bool b from hG 4 (by simp))
  have hbel0 := hbel
  clear hJ hG hall hb
  rw [HC2.out]
  go_wp2
  go_ret
  exact ⟨rfl, hbel⟩
end Go.Proofs.Ytielgpefoameiaa
namespace Go.Proofs.Ytielgpefoameiaa
open Go Go.RowKit
theorem hi_bit {x : Nat} (hx : x < Pq) : (leB 32 x).set 31 ((leB 32 x).getD 31 0 ||| 128) = leB 32 (x + 57896044618658097711785492504343953926634992332820282019728792003956564819968) := by
  have h31 : (leB 32 x).getD 31 0 = UInt8.ofNat (x / 2 ^ 248) := by
    simp [leB]
  have hd : x / 2 ^ 248 < 128 := by unfold Pq at hx; simp only [Nat.reducePow]; omega
  apply List.ext_getElem
  · simp [leB_len]
  · intro i h1 h2
    have hi : i < 32 := by simpa [leB_len] using h2
    rw [leB_get, List.getElem_set]
    by_cases h : 31 = i
    · subst h
      rw [if_pos rfl, h31]
      apply UInt8.toNat_inj.1
      have e1 : (x + 57896044618658097711785492504343953926634992332820282019728792003956564819968) / 2 ^ (8 * 31) = x / 2 ^ 248 + 128 := by simp only [Nat.reduceMul, Nat.reducePow]; omega
      rw [e1]
      generalize x / 2 ^ 248 = y at *
      have h4 := Nat.shiftLeft_add_eq_or_of_lt (show y < 2 ^ 7 by omega) 1
      rw [show (1 : Nat) <<< 7 = 128 from rfl] at h4
      simp
      rw [Nat.mod_eq_of_lt (show y < 256 by omega), Nat.mod_eq_of_lt (show y + 128 < 256 by omega), Nat.or_comm]
      omega
    · rw [if_neg h, leB_get, ← ofNat_mod, ← ofNat_mod (_ / _)]
      congr 1
      have hi' : i < 31 := by omega
      have : i = 0 ∨ i = 1 ∨ i = 2 ∨ i = 3 ∨ i = 4 ∨ i = 5 ∨ i = 6 ∨ i = 7 ∨ i = 8 ∨ i = 9 ∨ i = 10 ∨ i = 11 ∨ i = 12 ∨ i = 13 ∨ i = 14 ∨ i = 15 ∨ i = 16 ∨ i = 17 ∨ i = 18 ∨ i = 19 ∨ i = 20 ∨ i = 21 ∨ i = 22 ∨ i = 23 ∨ i = 24 ∨ i = 25 ∨ i = 26 ∨ i = 27 ∨ i = 28 ∨ i = 29 ∨ i = 30 := by omega
      rcases this with rfl | rfl | rfl | rfl | rfl | rfl | rfl | rfl | rfl | rfl | rfl | rfl | rfl | rfl | rfl | rfl | rfl | rfl | rfl | rfl | rfl | rfl | rfl | rfl | rfl | rfl | rfl | rfl | rfl | rfl | rfl <;> simp only [Nat.reduceMul, Nat.reducePow] <;> omega
theorem T255 : 2 ^ 255 = 57896044618658097711785492504343953926634992332820282019728792003956564819968 := by decide +kernel
theorem enc_odd {P : EP} (h : P.x.val % 2 = 1) : (leB 32 P.y.val).set 31 ((leB 32 P.y.val).getD 31 0 ||| 128) = encP P := by
  rw [hi_bit P.y.isLt]
  unfold encP
  rw [h, Nat.mul_one, T255]
theorem enc_even {P : EP} (h : ¬ P.x.val % 2 = 1) : leB 32 P.y.val = encP P := by
  unfold encP
  rw [show P.x.val % 2 = 0 by omega, Nat.mul_zero, Nat.add_zero]
theorem clr_byte : ∀ c : Nat, c < 256 → (UInt8.ofNat c &&& 127).toNat = c % 128 := by decide +kernel
theorem clr_byte2 : ∀ c : Nat, c < 256 → bits BinOp.andNot IntKind.u8 (c : Int) 128 = ((UInt8.ofNat c &&& 127).toNat : Nat) := by decide +kernel
theorem odd_byte : ∀ c : Nat, c < 256 → (bits BinOp.and IntKind.u8 (c : Int) 128 != 0) = (c / 128 % 2 == 1) := by decide +kernel
/-- The bytes with the highest bit cleared. -/
def clr (b : List UInt8) : List UInt8 := b.set 31 (b.getD 31 0 &&& 127)
theorem clr_len (b : List UInt8) : (clr b).length = b.length := by simp [clr]
theorem leN_last {b : List UInt8} (h : b.length = 32) : leN b = leN (b.take 31) + 256 ^ 31 * (b.getD 31 0).toNat := by
  have e := leN_take b 31 (by omega)
  rw [List.take_of_length_le (by omega)] at e
  rw [e, Nat.mul_comm]
  congr 3
  rw [List.getD_eq_getElem?_getD, List.getElem?_eq_getElem (by omega)]
  rfl
theorem p31 : (256 : Nat) ^ 31 * 128 = 2 ^ 255 := by decide +kernel
theorem leN_clr {b : List UInt8} (h : b.length = 32) : leN (clr b) = lowN b := by
  have e := leN_last h
  have e2 := leN_last (b := clr b) (by rw [clr_len, h])
  have e3 : (clr b).take 31 = b.take 31 := by unfold clr; rw [List.take_set_of_le (by omega)]
  have e4 : (clr b).getD 31 0 = b.getD 31 0 &&& 127 := by unfold clr; rw [List.getD_eq_getElem?_getD, List.getElem?_set_self (by omega)]; rfl
  rw [e3, e4] at e2
  have h5 := clr_byte (b.getD 31 0).toNat (b.getD 31 0).toNat_lt
  rw [UInt8.ofNat_toNat] at h5
  rw [h5] at e2
  have h6 := leN_take_lt b 31
  unfold lowN
  rw [e2, e, ← p31]
  generalize (b.getD 31 0).toNat = c at *
  generalize leN (b.take 31) = r at *
  generalize 256 ^ 31 = T at *
  clear e e2 e3 e4 h5
  have hc := Nat.div_add_mod c 128
  have hm : c % 128 < 128 := Nat.mod_lt _ (by omega)
  generalize c / 128 = q at *
  generalize c % 128 = m at *
  subst hc
  have : r + T * (128 * q + m) = (r + T * m) + T * 128 * q := by rw [Nat.mul_add, Nat.mul_assoc]; omega
  rw [this, Nat.add_mul_mod_self_left, Nat.mod_eq_of_lt]
  have : T * m ≤ T * 127 := Nat.mul_le_mul_left _ (by omega)
  omega
theorem sgn_byte {b : List UInt8} (h : b.length = 32) : sgn b = ((b.getD 31 0).toNat / 128 % 2 == 1) := by
  have e := leN_last h
  have h6 := leN_take_lt b 31
  unfold sgn
  rw [e, ← p31, ← Nat.div_div_eq_div_mul]
  generalize leN (b.take 31) = r at *
  generalize (b.getD 31 0).toNat = c at *
  have : (r + 256 ^ 31 * c) / 256 ^ 31 = c := by rw [Nat.add_mul_div_left _ _ (Nat.pos_of_ne_zero (by decide +kernel)), Nat.div_eq_of_lt h6, Nat.zero_add]
  rw [this]
def decV (l : List UInt8) : EP := (decP l).getD Cp.zero
def decC (l : List UInt8) : Int := if (decP l).isSome then 0 else 12
theorem feOk_clr {b : List UInt8} (h : b.length = 32) : feOk (clr b) = decide (lowN b < Pq) := by
  unfold feOk
  rw [clr_len, h, leN_clr h]; simp
theorem stC_clr {b : List UInt8} (h : b.length = 32) (h2 : lowN b < Pq) : stC (clr b) = 0 := by unfold stC; rw [feOk_clr h, if_pos (by simpa using h2)]
theorem stC_no {b : List UInt8} (h : b.length = 32) (h2 : ¬ lowN b < Pq) : stC (clr b) = 2 := by unfold stC; rw [feOk_clr h, if_neg (by simpa using h2)]
theorem stV_clr {b : List UInt8} (h : b.length = 32) (h2 : lowN b < Pq) : stV (clr b) = fn (lowN b) := by
  have hok : feOk (clr b) = true := by rw [feOk_clr h]; simpa using h2
  unfold stV
  rw [if_pos hok]
  apply F.ext'
  rw [feF_ok hok, leN_clr h]
  exact (Nat.mod_eq_of_lt h2).symm
theorem dec_len {b : List UInt8} (h : b.length ≠ 32) : decV b = Cp.zero ∧ decC b = 12 := by
  have : decP b = none := by unfold decP; rw [if_neg (fun k => h k.1)]
  unfold decV decC; rw [this]; exact ⟨rfl, rfl⟩
theorem dec_big {b : List UInt8} (h : ¬ lowN b < Pq) : decV b = Cp.zero ∧ decC b = 12 := by
  have : decP b = none := by unfold decP; rw [if_neg (fun k => h k.2)]
  unfold decV decC; rw [this]; exact ⟨rfl, rfl⟩
theorem dec_root {b : List UInt8} {y : F} (h1 : b.length = 32) (h2 : lowN b < Pq) (hy : fn (lowN b) = y) (hr : ¬ rootC (xx y) = 0) : decV b = Cp.zero ∧ decC b = 12 := by
  subst hy
  have : decP b = none := by unfold decP; rw [if_pos ⟨h1, h2⟩, dif_neg hr]
  unfold decV decC; rw [this]; exact ⟨rfl, rfl⟩
theorem dec_sgn {b : List UInt8} {y : F} (h1 : b.length = 32) (h2 : lowN b < Pq) (hy : fn (lowN b) = y) (hr : rootC (xx y) = 0) (hs : sgn b = true) (hx : rootV (xx y) = 0) : decV b = Cp.zero ∧ decC b = 12 := by
  subst hy
  have : decP b = none := by unfold decP; rw [if_pos ⟨h1, h2⟩, dif_pos hr, if_pos ⟨hs, hx⟩]
  unfold decV decC; rw [this]; exact ⟨rfl, rfl⟩
theorem dec_yes {b : List UInt8} {y : F} {o : Bool} (h1 : b.length = 32) (h2 : lowN b < Pq) (hy : fn (lowN b) = y) (hr : rootC (xx y) = 0) (hs : sgn b = o) (hx : ¬ (o = true ∧ rootV (xx y) = 0)) :
    decC b = 0 ∧ (decV b).x = (if o then -rootV (xx y) else rootV (xx y)) ∧ (decV b).y = y := by
  have := decP_some h1 h2 hy hs hr hx
  unfold decV decC
  rw [this]
  exact ⟨rfl, rfl, rfl⟩
end Go.Proofs.Ytielgpefoameiaa
namespace Go.Proofs.Ytielgpefoameiaa
open Go Go.RowKit
theorem Prep.xv {P : EP} {X Y Z : F} (h : Prep P X Y Z) : X * finv Z = P.x := by
  obtain ⟨hz, rfl, rfl⟩ := h
  have := finv_mul hz
  generalize finv Z = u at *
  generalize P.x = x
  clear hz
  grind
theorem Prep.yv {P : EP} {X Y Z : F} (h : Prep P X Y Z) : Y * finv Z = P.y := by
  obtain ⟨hz, rfl, rfl⟩ := h
  have := finv_mul hz
  generalize finv Z = u at *
  generalize P.y = x
  clear hz
  grind
theorem set31 {LB : List UInt8} {r : List Value} {d : UInt8} (h : LB.length = 32) : (LB.map bV ++ r).set 31 (bV d) = (LB.set 31 d).map bV ++ r := by
  rw [List.set_append_left _ _ (by simp [h]), List.map_set]
theorem at31 {W : World} {g E : Nat} {LB : List UInt8} {r : List Value} (h : LB.length = 32) (hB : Blk W g (LB.map bV ++ r) E) : W.cell? ⟨g, 31, none⟩ = some (.int .u8 ((LB.getD 31 0).toNat : Int)) := by
  rw [hB.cell, List.getElem?_append_left (by simp [h]), List.getElem?_map, List.getElem?_eq_getElem (by omega), List.getD_eq_getElem?_getD, List.getElem?_eq_getElem (by omega)]
  rfl
theorem or128 (c d : UInt8) (h : c ||| 128 = d) : bits BinOp.or IntKind.u8 (c.toNat : Int) 128 = (d.toNat : Int) := by
  rw [← h, show (128 : Int) = ((128 : UInt8).toNat : Int) from rfl, u8_or_nat _ _ c.toNat_lt (by decide)]; simp
set_option maxRecDepth 100000 in
set_option maxHeartbeats 4000000 in
theorem enc_o {v0 : Value} {P : EP} (hp : P.x.val % 2 = 1) (h0 : IsFs rP v0 [P]) (w : World) :
    Calls Try.prog 35 #[v0] w fun e w' => ∃ g n cap r, e = .returned (.slice (some ⟨g, 0, none⟩) n cap) ∧ w.heap.size ≤ g ∧ Blk w' g ((encP P).map bV ++ r) 5 ∧ (encP P).length = n ∧ n ≤ cap ∧ cap ≤ maxLen ∧ Below w.heap.size w w' := by
  have HP := Lib.hid hp; clear hp
  go_enter Try.func35, Try.ntmps35
  have hbel : Below w.heap.size w w := Below.refl _ _
  have hbel0 := hbel
  go_upto_region 0 with fail
  refine wp_region_turn (fun u => #[v0, u 0, u 1, undef, undef, undef, undef, undef, undef, undef, undef, undef, undef, undef, undef, undef, undef, undef, undef, undef, undef, undef, undef, undef, undef, undef]) (Holds [.box rP [P], .oth (fun v => v = .slice none 0 0)] w) (Keep [.box rP [P], .oth (fun v => v = .slice none 0 0)] w) (fun _ => undef) ?_ (by rfl) Keep.start (holds_soft (by kernel_rfl)) ?_ ?_
  · intro u i v h
    rcases i with _ | _ | i
    all_goals first | (simp [Act.put, putV]; done) | (exfalso; simp at h; omega)
  · intro hs
    refine ⟨?_, ?_, trivial⟩
    · exact step_box hs (wants_none rfl) rfl rfl (gives_c h0 (fun _ => rfl))
    · exact step_pureO hs (wants_none rfl) rfl fun L u W hG hdep => ⟨_, run_assign rfl, rfl⟩
  intro L0 u0 W0 hall hJ hG
  obtain ⟨q1, e1, ⟨hq1, _⟩, ht1, hm1⟩ := (show ∃ g, u0 0 = .pointer (some ⟨g, 0, none⟩) ∧ (w.heap.size ≤ g ∧ g < W0.heap.size) ∧ W0.there g 0 20 ∧ HasFs rP W0 g 0 [P] from hG 0 (by simp))
  have hq1 : w.heap.size ≤ q1 := by have := hbel0.size; omega
  have E1 := Lib.hid e1; clear e1
  have hb := hJ.all rfl
  have hbel := Below.call hbel hb
  have HC2 := Lib.hid (show u0 1 = .slice none 0 0 from hG 1 (by simp))
  have hbel0 := hbel
  clear hJ hG hall hb
  go_upto_region 1 with fail
  refine wp_region_turn (fun u => #[v0, u0 0, u0 1, undef, undef, u 0, u 1, undef, undef, undef, undef, undef, undef, undef, undef, undef, undef, undef, undef, undef, undef, undef, undef, undef, undef, undef]) (Holds [.val rP [P], .val rPr [P], .sto q1 rPr [P]] W0) (Keep [.val rP [P], .val rPr [P], .sto q1 rPr [P]] W0) (fun _ => undef) ?_ (by rfl) Keep.start (holds_soft (by kernel_rfl)) ?_ ?_
  · intro u i v h
    rcases i with _ | _ | _ | i
    all_goals first | (simp [Act.put, putV]; done) | (exfalso; simp at h; omega)
  · intro hs
    refine ⟨?_, ?_, ?_, trivial⟩
    · exact step_load q1 0 hs (wants_none rfl) rfl rfl tyP (fun _ => E1.out) hm1.lt hm1 (fun k g hk => by rcases k with _ | _ | _ | k <;> first | (cases hk; done) | (cases hk; exact .inl (by kernel_rfl)))
    · refine step_call hs (wants_none rfl) rfl fun L u W hJ hG hL hdep K hK => ?_
      have a0 := (show IsFs rP (u 0) [P] from hG 0 (hdep 0 (by kernel_rfl)))
      go_simp
      go_at_call 56
      (with_reducible refine (cReady a0 _).mono ?_); rintro e w1 ⟨r, rfl, hr, hb⟩
      have hk := hK.out _ _ hr hb
      exact hk
    · refine step_storeO q1 20 hs (wants_none rfl) rfl rfl (by kernel_rfl) (fun k hk => ?_) (fun _ => E1.out) (there_lt ht1 (by omega)) ht1 (gives_op 1 rfl (by kernel_rfl) (fun _ => rfl)) tyPr rfl
      rcases k with _ | _ | _ | k
      all_goals first | (exact absurd rfl hk) | (intro e; cases e; done)
  intro L1 u1 W1 hall hJ hG
  have hb : Below w.heap.size W0 W1 := hJ.below (by have := hbel.size; omega) (fun k b hf => by rcases k with _ | _ | _ | k <;> first | (cases hf; done) | (cases hf; omega))
  have hbel := hbel.trans hb
  obtain ⟨_, hs1_2t, hs1_2⟩ := (show _ ∧ W1.there q1 0 20 ∧ HasFs rPr W1 q1 0 [P] from hG 2 (by simp))
  have hbel0 := hbel
  clear hJ hG hall hb
  obtain ⟨pax, pay, paz, pat, hmpa, hppa⟩ := of_hasPr hs1_2
  go_upto_region 2 with fail
  refine wp_region_turn (fun u => #[v0, u0 0, u0 1, u 3, undef, u1 0, u1 1, u 0, u 1, u 2, undef, undef, undef, undef, undef, undef, undef, undef, undef, undef, undef, undef, undef, undef, undef, undef]) (Holds [.ptr q1 10, .val rE [paz], .val rE [finv paz], .new 5, .st 3 rE [finv paz]] W1) (Keep [.ptr q1 10, .val rE [paz], .val rE [finv paz], .new 5, .st 3 rE [finv paz]] W1) (fun _ => undef) ?_ (by rfl) Keep.start (holds_soft (by kernel_rfl)) ?_ ?_
  · intro u i v h
    rcases i with _ | _ | _ | _ | _ | i
    all_goals first | (simp [Act.put, putV]; done) | (exfalso; simp at h; omega)
  · intro hs
    refine ⟨?_, ?_, ?_, ?_, ?_, trivial⟩
    · exact step_field hs (wants_none rfl) rfl rfl (fun _ => E1.out) (field_P2 _)
    · exact step_loadF 0 q1 10 hs (wants_none rfl) rfl rfl tyE (fun _ => rfl) rfl (by kernel_rfl) hmpa.lt (hmpa.fld 2 1) (noSto_apart (by kernel_rfl))
    · refine step_call hs (wants_none rfl) rfl fun L u W hJ hG hL hdep K hK => ?_
      have a0 := (show IsFs rE (u 1) [paz] from hG 1 (hdep 1 (by kernel_rfl)))
      go_simp
      go_at_call 46
      (with_reducible refine (cInv a0 _).mono ?_); rintro e w1 ⟨r, rfl, hr, hb⟩
      have hk := hK.out _ _ hr hb
      exact hk
    · exact step_alloc hs (wants_none rfl) rfl rfl (by omega) rfl allocE
    · exact step_store 3 hs (by kernel_rfl) (wants_none rfl) rfl rfl rfl (by kernel_rfl) (by kernel_rfl) (by kernel_rfl) (by kernel_rfl) (fun _ => rfl) (gives_op 2 rfl (by kernel_rfl) (fun _ => rfl)) tyE rfl
  intro L2 u2 W2 hall hJ hG
  obtain ⟨q3, e3, hq3, _, ht3⟩ := (show ∃ g, u2 3 = .pointer (some ⟨g, 0, none⟩) ∧ W1.heap.size ≤ g ∧ 0 < 5 ∧ W2.there g 0 5 from hG 3 (by simp))
  have hm3 : HasFs rE W2 q3 0 [finv paz] := by
    obtain ⟨g, e, _, h⟩ := (show ∃ g, u2 3 = .pointer (some ⟨g, 0, none⟩) ∧ W1.heap.size ≤ g ∧ HasFs rE W2 g 0 [finv paz] from hG 4 (by simp))
    rw [e3] at e; cases e; exact h
  have HD3_q1 := Lib.hid (show q1 ≠ q3 by have := there_lt hs1_2t (by omega); omega)
  have hq3 : w.heap.size ≤ q3 := by have := hbel0.size; omega
  have E3 := Lib.hid e3; clear e3
  have hb := hJ.all rfl
  have hbel := Below.call hbel hb
  have hmpa := hmpa.later hb
  have hs1_2t := there_later hs1_2t hb
  have hbel0 := hbel
  clear hJ hG hall hb
  go_upto_region 3 with fail
  refine wp_region_turn (fun u => #[v0, u0 0, u0 1, u2 3, u 5, u1 0, u1 1, u2 0, u2 1, u2 2, u 0, u 1, u 2, u 3, u 4, undef, undef, undef, undef, undef, undef, undef, undef, undef, undef, undef]) (Holds [.ptr q1 5, .val rE [pay], .val rE [finv paz], .val rE [pay * (finv paz)], .rd (leB 32 (pay * (finv paz)).val), .rd (leB 32 (pay * (finv paz)).val)] W2) (Keep [.ptr q1 5, .val rE [pay], .val rE [finv paz], .val rE [pay * (finv paz)], .rd (leB 32 (pay * (finv paz)).val), .rd (leB 32 (pay * (finv paz)).val)] W2) (fun _ => undef) ?_ (by rfl) Keep.start (holds_soft (by kernel_rfl)) ?_ ?_
  · intro u i v h
    rcases i with _ | _ | _ | _ | _ | _ | i
    all_goals first | (simp [Act.put, putV]; done) | (exfalso; simp at h; omega)
  · intro hs
    refine ⟨?_, ?_, ?_, ?_, ?_, ?_, trivial⟩
    · exact step_field hs (wants_none rfl) rfl rfl (fun _ => E1.out) (field_P1 _)
    · exact step_loadF 0 q1 5 hs (wants_none rfl) rfl rfl tyE (fun _ => rfl) rfl (by kernel_rfl) hmpa.lt (hmpa.fld 1 1) (noSto_apart (by kernel_rfl))
    · exact step_load q3 0 hs (wants_none rfl) rfl rfl tyE (fun _ => E3.out) hm3.lt hm3 (noSto_apart (by kernel_rfl))
    · refine step_call hs (wants_none rfl) rfl fun L u W hJ hG hL hdep K hK => ?_
      have a0 := (show IsFs rE (u 1) [pay] from hG 1 (hdep 1 (by kernel_rfl)))
      have a1 := (show IsFs rE (u 2) [finv paz] from hG 2 (hdep 2 (by kernel_rfl)))
      go_simp
      go_at_call 42
      (with_reducible refine (cMul a0 a1 _).mono ?_); rintro e w1 ⟨r, rfl, hr, hb⟩
      have hk := hK.out _ _ hr hb
      exact hk
    · refine step_callB hs (wants_none rfl) rfl fun L u W hJ hG hL hdep K hK => ?_
      have a0 := (show IsFs rE (u 3) [pay * (finv paz)] from hG 3 (hdep 3 (by kernel_rfl)))
      go_simp
      go_at_call 66
      (with_reducible refine (cBytes a0 _).mono ?_); rintro e w1 ⟨g, n, cap, r, rfl, h1, h2, h3, h4, h5, hb⟩
      have hk := hK.out _ _ _ _ _ h1 h2 h3 h4 h5 hb
      exact hk
    · exact step_moveB 4 hs (wants_none rfl) rfl (by first | exact .inl rfl | exact .inr rfl) rfl (by kernel_rfl) (fun _ => rfl)
  intro L3 u3 W3 hall hJ hG
  obtain ⟨gB5, nB5, cB5, rB5, eB5, hgB5, hB5, hlB5, hcB5, hmB5⟩ := (show ∃ g n cap r, u3 5 = .slice (some ⟨g, 0, none⟩) n cap ∧ W2.heap.size ≤ g ∧ Blk W3 g ((leB 32 (pay * (finv paz)).val).map bV ++ r) 5 ∧ (leB 32 (pay * (finv paz)).val).length = n ∧ n ≤ cap ∧ cap ≤ maxLen from hG 5 (by simp))
  have hgB5 : w.heap.size ≤ gB5 := by have := hbel0.size; omega
  have EB5 := Lib.hid eB5; clear eB5
  obtain rfl : nB5 = 32 := by have h : (((leB 32 (pay * (finv paz)).val).length : Nat) : Int) = 32 := (by rw [leB_len]; rfl); omega
  have HB5 := Lib.hid hB5; clear hB5
  have HE5_q1 := Lib.hid (show q1 ≠ gB5 by have := there_lt hs1_2t (by omega); omega)
  have HE5_q3 := Lib.hid (show q3 ≠ gB5 by have := there_lt ht3 (by omega); omega)
  have hb := hJ.all rfl
  have hbel := Below.call hbel hb
  have hmpa := hmpa.later hb
  have hm3 := hm3.later hb
  have hs1_2t := there_later hs1_2t hb
  have ht3 := there_later ht3 hb
  have hbel0 := hbel
  clear hJ hG hall hb
  go_upto_region 4 with fail
  refine wp_region_turn (fun u => #[v0, u0 0, u0 1, u2 3, u3 5, u1 0, u1 1, u2 0, u2 1, u2 2, u3 0, u3 1, u3 2, u3 3, u3 4, u 0, u 1, u 2, u 3, u 4, undef, undef, undef, undef, undef, undef]) (Holds [.ptr q1 0, .val rE [pax], .val rE [finv paz], .val rE [pax * (finv paz)], .oth (fun v => v = .bool true)] W3) (Keep [.ptr q1 0, .val rE [pax], .val rE [finv paz], .val rE [pax * (finv paz)], .oth (fun v => v = .bool true)] W3) (fun _ => undef) ?_ (by rfl) Keep.start (holds_soft (by kernel_rfl)) ?_ ?_
  · intro u i v h
    rcases i with _ | _ | _ | _ | _ | i
    all_goals first | (simp [Act.put, putV]; done) | (exfalso; simp at h; omega)
  · intro hs
    refine ⟨?_, ?_, ?_, ?_, ?_, trivial⟩
    · exact step_field hs (wants_none rfl) rfl rfl (fun _ => E1.out) (field_P0 _)
    · exact step_loadF 0 q1 0 hs (wants_none rfl) rfl rfl tyE (fun _ => rfl) rfl (by kernel_rfl) hmpa.lt (hmpa.fld 0 1) (noSto_apart (by kernel_rfl))
    · exact step_load q3 0 hs (wants_none rfl) rfl rfl tyE (fun _ => E3.out) hm3.lt hm3 (noSto_apart (by kernel_rfl))
    · refine step_call hs (wants_none rfl) rfl fun L u W hJ hG hL hdep K hK => ?_
      have a0 := (show IsFs rE (u 1) [pax] from hG 1 (hdep 1 (by kernel_rfl)))
      have a1 := (show IsFs rE (u 2) [finv paz] from hG 2 (hdep 2 (by kernel_rfl)))
      go_simp
      go_at_call 42
      (with_reducible refine (cMul a0 a1 _).mono ?_); rintro e w1 ⟨r, rfl, hr, hb⟩
      have hk := hK.out _ _ hr hb
      exact hk
    · refine step_callO hs (wants_none rfl) rfl fun L u W hJ hG hL hdep K hK => ?_
      have a0 := (show IsFs rE (u 3) [pax * (finv paz)] from hG 3 (hdep 3 (by kernel_rfl)))
      go_simp
      go_at_call 67
      (with_reducible refine (cOdd (b := true) (by rw [hppa.p.xv]; exact decide_eq_true HP.out) a0 _).mono ?_); rintro e w1 ⟨rfl, hb⟩
      have hk := hK.out _ _ rfl hb
      exact hk
  intro L4 u4 W4 hall hJ hG
  have hb := hJ.all rfl
  have hbel := Below.call hbel hb
  have hmpa := hmpa.later hb
  have hm3 := hm3.later hb
  have hs1_2t := there_later hs1_2t hb
  have ht3 := there_later ht3 hb
  have HB5 := Lib.hid (HB5.out.below' hb)
  have HC19 := Lib.hid (show u4 4 = .bool true from hG 4 (by simp))
  have hbel0 := hbel
  clear hJ hG hall hb
  have hx : u4 4 = .bool true := HC19.out
  go_wp2_with fail
  rw [hx]
  clear hx
  have HLB : Hid (leB 32 (pay * finv paz).val = leB 32 P.y.val) := Lib.hid (by rw [hppa.p.yv])
  generalize leB 32 (pay * finv paz).val = LB at *
  have HLL : Hid (LB.length = 32) := Lib.hid (by rw [HLB.out, leB_len])
  have hcell := at31 HLL.out HB5.out
  have HCF : Hid (W4.frozen? ⟨gB5, 31, none⟩ = false) := Lib.hid (HB5.out.frozen 31)
  generalize hcd : LB.getD 31 0 = c at *
  generalize hdd : c ||| 128 = d at *
  have HCC := Lib.hid hcell; have HCD := Lib.hid hcd; have HDD := Lib.hid hdd
  clear hcell hcd hdd
  go_upto_region 5 with fail
  refine wp_region_turn (fun u => #[v0, u0 0, u0 1, u2 3, u3 5, u1 0, u1 1, u2 0, u2 1, u2 2, u3 0, u3 1, u3 2, u3 3, u3 4, u4 0, u4 1, u4 2, u4 3, .bool true, u 0, u 1, u 2, u 3, u 4, undef]) (Holds [.oth (fun v => v = .slice (some ⟨gB5, 0, none⟩) 32 cB5), .oth (fun v => v = .pointer (some ⟨gB5, 31, none⟩)), .oth (fun v => v = .int .u8 (c.toNat : Int)), .oth (fun v => v = .int .u8 (d.toNat : Int)), .oth (fun v => v = .pointer (some ⟨gB5, 31, none⟩)), .cst gB5 31 (.int .u8 (d.toNat : Int))] W4) (Keep [.oth (fun v => v = .slice (some ⟨gB5, 0, none⟩) 32 cB5), .oth (fun v => v = .pointer (some ⟨gB5, 31, none⟩)), .oth (fun v => v = .int .u8 (c.toNat : Int)), .oth (fun v => v = .int .u8 (d.toNat : Int)), .oth (fun v => v = .pointer (some ⟨gB5, 31, none⟩)), .cst gB5 31 (.int .u8 (d.toNat : Int))] W4) (fun _ => undef) ?_ (by rfl) Keep.start (holds_soft (by kernel_rfl)) ?_ ?_
  · intro u i v h
    rcases i with _ | _ | _ | _ | _ | _ | i
    all_goals first | (simp [Act.put, putV]; done) | (exfalso; simp at h; omega)
  · intro hs
    refine ⟨?_, ?_, ?_, ?_, ?_, ?_, trivial⟩
    · exact step_pureO hs (wants_none rfl) rfl fun L u W hG hdep => ⟨_, run_move rfl, EB5.out⟩
    · refine step_pureO hs (wants_none rfl) rfl fun L u W hG hdep => ⟨_, ?_, rfl⟩
      have e0 := (show u 0 = .slice (some ⟨gB5, 0, none⟩) 32 cB5 from hG 0 (hdep 0 (by kernel_rfl)))
      go_simp
    · exact step_cell gB5 31 hs (wants_none rfl) rfl rfl (fun _ h => load_u8 h) (fun L u W hG hdep => (show u 1 = .pointer (some ⟨gB5, 31, none⟩) from hG 1 (hdep 1 (by kernel_rfl)))) HCC.out (fun k g hk => by rcases k with _ | _ | _ | _ | _ | _ | k <;> first | (cases hk; done) | (cases hk; exact .inl (by kernel_rfl)))
    · refine step_pureO hs (wants_none rfl) rfl fun L u W hG hdep => ⟨_, ?_, rfl⟩
      have e0 := (show u 2 = .int .u8 (c.toNat : Int) from hG 2 (hdep 2 (by kernel_rfl)))
      have e9 := or128 c d HDD.out
      go_simp
    · refine step_pureO hs (wants_none rfl) rfl fun L u W hG hdep => ⟨_, ?_, rfl⟩
      have e0 := (show u 0 = .slice (some ⟨gB5, 0, none⟩) 32 cB5 from hG 0 (hdep 0 (by kernel_rfl)))
      go_simp
    · refine step_cst (old := .int .u8 (c.toNat : Int)) gB5 31 hs (wants_none rfl) rfl rfl (by kernel_rfl) (fun k hk => ?_) (fun _ h1 h2 => store_u8 h1 h2) (fun L u W hG hdep => (show u 4 = .pointer (some ⟨gB5, 31, none⟩) from hG 4 (hdep 4 (by kernel_rfl)))) (fun L u W hG hdep => (show u 3 = .int .u8 (d.toNat : Int) from hG 3 (hdep 3 (by kernel_rfl)))) HCC.out HCF.out
      rcases k with _ | _ | _ | _ | _ | _ | k
      all_goals first | (exact absurd rfl hk) | (intro e; cases e; done)
  intro L5 u5 W5 hall hJ hG
  have hb : Below w.heap.size W4 W5 := hJ.below (by have := hbel.size; omega) (fun k b hf => by rcases k with _ | _ | _ | _ | _ | _ | k <;> first | (cases hf; done) | (cases hf; omega))
  have hbel := hbel.trans hb
  have hmpa := hmpa.blk (hJ.block _ (hmpa.lt) (fun k hk => by rcases k with _ | _ | _ | _ | _ | _ | k <;> first | (cases hk; done) | (cases hk; exact absurd rfl (Ne.symm HE5_q1.out))))
  have hm3 := hm3.blk (hJ.block _ (hm3.lt) (fun k hk => by rcases k with _ | _ | _ | _ | _ | _ | k <;> first | (cases hk; done) | (cases hk; exact absurd rfl (Ne.symm HE5_q3.out))))
  have hs1_2t := there_blk hs1_2t (hJ.block _ (there_lt hs1_2t (by omega)) (fun k hk => by rcases k with _ | _ | _ | _ | _ | _ | k <;> first | (cases hk; done) | (cases hk; exact absurd rfl (Ne.symm HE5_q1.out))))
  have ht3 := there_blk ht3 (hJ.block _ (there_lt ht3 (by omega)) (fun k hk => by rcases k with _ | _ | _ | _ | _ | _ | k <;> first | (cases hk; done) | (cases hk; exact absurd rfl (Ne.symm HE5_q3.out))))
  have HB5 := Lib.hid (blk_keep (HB5.out.set 31 (.int .u8 (d.toNat : Int))) (show _ ∧ W5.heap[gB5]? = (W4.setCell ⟨gB5, 31, none⟩ (.int .u8 (d.toNat : Int))).heap[gB5]? from hG 5 (by simp)).2)
  have hbel0 := hbel
  clear hJ hG hall hb
  go_upto_region 6 with fail
  refine wp_region_turn (fun u => #[v0, u0 0, u 1, u2 3, u3 5, u1 0, u1 1, u2 0, u2 1, u2 2, u3 0, u3 1, u3 2, u3 3, u3 4, u4 0, u4 1, u4 2, u4 3, .bool true, u5 0, u5 1, u5 2, u5 3, u5 4, u 0]) (Holds [.oth (fun v => v = .slice (some ⟨gB5, 0, none⟩) 32 cB5), .oth (fun v => v = .slice (some ⟨gB5, 0, none⟩) 32 cB5)] W5) (Keep [.oth (fun v => v = .slice (some ⟨gB5, 0, none⟩) 32 cB5), .oth (fun v => v = .slice (some ⟨gB5, 0, none⟩) 32 cB5)] W5) (fun k => ((undef :: u0 1 :: []) : List Value).getD k undef) ?_ (by rfl) Keep.start (holds_soft (by kernel_rfl)) ?_ ?_
  · intro u i v h
    rcases i with _ | _ | i
    all_goals first | (simp [Act.put, putV]; done) | (exfalso; simp at h; omega)
  · intro hs
    refine ⟨?_, ?_, trivial⟩
    · exact step_pureO hs (wants_none rfl) rfl fun L u W hG hdep => ⟨_, run_move rfl, EB5.out⟩
    · exact step_pureO hs (wants_none rfl) rfl fun L u W hG hdep => ⟨_, run_assign rfl, (show u 0 = .slice (some ⟨gB5, 0, none⟩) 32 cB5 from hG 0 (hdep 0 (by kernel_rfl)))⟩
  intro L6 u6 W6 hall hJ hG
  have hb := hJ.all rfl
  have hbel := Below.call hbel hb
  have hmpa := hmpa.later hb
  have hm3 := hm3.later hb
  have hs1_2t := there_later hs1_2t hb
  have ht3 := there_later ht3 hb
  have HB5 := Lib.hid (HB5.out.below' hb)
  have HC2 := Lib.hid (show u6 1 = .slice (some ⟨gB5, 0, none⟩) 32 cB5 from hG 1 (by simp))
  have hbel0 := hbel
  clear hJ hG hall hb
  rw [HC2.out]
  go_wp2
  go_ret
  exact ⟨gB5, 32, cB5, rB5, rfl, hgB5, by rw [← enc_odd HP.out, ← HLB.out, HCD.out, HDD.out, ← set31 HLL.out]; exact HB5.out, encP_len _, hcB5, hmB5, hbel⟩
set_option maxRecDepth 100000 in
set_option maxHeartbeats 4000000 in
theorem enc_e {v0 : Value} {P : EP} (hp : ¬ P.x.val % 2 = 1) (h0 : IsFs rP v0 [P]) (w : World) :
    Calls Try.prog 35 #[v0] w fun e w' => ∃ g n cap r, e = .returned (.slice (some ⟨g, 0, none⟩) n cap) ∧ w.heap.size ≤ g ∧ Blk w' g ((encP P).map bV ++ r) 5 ∧ (encP P).length = n ∧ n ≤ cap ∧ cap ≤ maxLen ∧ Below w.heap.size w w' := by
  have HP := Lib.hid hp; clear hp
  go_enter Try.func35, Try.ntmps35
  have hbel : Below w.heap.size w w := Below.refl _ _
  have hbel0 := hbel
  go_upto_region 0 with fail
  refine wp_region_turn (fun u => #[v0, u 0, u 1, undef, undef, undef, undef, undef, undef, undef, undef, undef, undef, undef, undef, undef, undef, undef, undef, undef, undef, undef, undef, undef, undef, undef]) (Holds [.box rP [P], .oth (fun v => v = .slice none 0 0)] w) (Keep [.box rP [P], .oth (fun v => v = .slice none 0 0)] w) (fun _ => undef) ?_ (by rfl) Keep.start (holds_soft (by kernel_rfl)) ?_ ?_
  · intro u i v h
    rcases i with _ | _ | i
    all_goals first | (simp [Act.put, putV]; done) | (exfalso; simp at h; omega)
  · intro hs
    refine ⟨?_, ?_, trivial⟩
    · exact step_box hs (wants_none rfl) rfl rfl (gives_c h0 (fun _ => rfl))
    · exact step_pureO hs (wants_none rfl) rfl fun L u W hG hdep => ⟨_, run_assign rfl, rfl⟩
  intro L0 u0 W0 hall hJ hG
  obtain ⟨q1, e1, ⟨hq1, _⟩, ht1, hm1⟩ := (show ∃ g, u0 0 = .pointer (some ⟨g, 0, none⟩) ∧ (w.heap.size ≤ g ∧ g < W0.heap.size) ∧ W0.there g 0 20 ∧ HasFs rP W0 g 0 [P] from hG 0 (by simp))
  have hq1 : w.heap.size ≤ q1 := by have := hbel0.size; omega
  have E1 := Lib.hid e1; clear e1
  have hb := hJ.all rfl
  have hbel := Below.call hbel hb
  have HC2 := Lib.hid (show u0 1 = .slice none 0 0 from hG 1 (by simp))
  have hbel0 := hbel
  clear hJ hG hall hb
  go_upto_region 1 with fail
  refine wp_region_turn (fun u => #[v0, u0 0, u0 1, undef, undef, u 0, u 1, undef, undef, undef, undef, undef, undef, undef, undef, undef, undef, undef, undef, undef, undef, undef, undef, undef, undef, undef]) (Holds [.val rP [P], .val rPr [P], .sto q1 rPr [P]] W0) (Keep [.val rP [P], .val rPr [P], .sto q1 rPr [P]] W0) (fun _ => undef) ?_ (by rfl) Keep.start (holds_soft (by kernel_rfl)) ?_ ?_
  · intro u i v h
    rcases i with _ | _ | _ | i
    all_goals first | (simp [Act.put, putV]; done) | (exfalso; simp at h; omega)
  · intro hs
    refine ⟨?_, ?_, ?_, trivial⟩
    · exact step_load q1 0 hs (wants_none rfl) rfl rfl tyP (fun _ => E1.out) hm1.lt hm1 (fun k g hk => by rcases k with _ | _ | _ | k <;> first | (cases hk; done) | (cases hk; exact .inl (by kernel_rfl)))
    · refine step_call hs (wants_none rfl) rfl fun L u W hJ hG hL hdep K hK => ?_
      have a0 := (show IsFs rP (u 0) [P] from hG 0 (hdep 0 (by kernel_rfl)))
      go_simp
      go_at_call 56
      (with_reducible refine (cReady a0 _).mono ?_); rintro e w1 ⟨r, rfl, hr, hb⟩
      have hk := hK.out _ _ hr hb
      exact hk
    · refine step_storeO q1 20 hs (wants_none rfl) rfl rfl (by kernel_rfl) (fun k hk => ?_) (fun _ => E1.out) (there_lt ht1 (by omega)) ht1 (gives_op 1 rfl (by kernel_rfl) (fun _ => rfl)) tyPr rfl
      rcases k with _ | _ | _ | k
      all_goals first | (exact absurd rfl hk) | (intro e; cases e; done)
  intro L1 u1 W1 hall hJ hG
  have hb : Below w.heap.size W0 W1 := hJ.below (by have := hbel.size; omega) (fun k b hf => by rcases k with _ | _ | _ | k <;> first | (cases hf; done) | (cases hf; omega))
  have hbel := hbel.trans hb
  obtain ⟨_, hs1_2t, hs1_2⟩ := (show _ ∧ W1.there q1 0 20 ∧ HasFs rPr W1 q1 0 [P] from hG 2 (by simp))
  have hbel0 := hbel
  clear hJ hG hall hb
  obtain ⟨pax, pay, paz, pat, hmpa, hppa⟩ := of_hasPr hs1_2
  go_upto_region 2 with fail
  refine wp_region_turn (fun u => #[v0, u0 0, u0 1, u 3, undef, u1 0, u1 1, u 0, u 1, u 2, undef, undef, undef, undef, undef, undef, undef, undef, undef, undef, undef, undef, undef, undef, undef, undef]) (Holds [.ptr q1 10, .val rE [paz], .val rE [finv paz], .new 5, .st 3 rE [finv paz]] W1) (Keep [.ptr q1 10, .val rE [paz], .val rE [finv paz], .new 5, .st 3 rE [finv paz]] W1) (fun _ => undef) ?_ (by rfl) Keep.start (holds_soft (by kernel_rfl)) ?_ ?_
  · intro u i v h
    rcases i with _ | _ | _ | _ | _ | i
    all_goals first | (simp [Act.put, putV]; done) | (exfalso; simp at h; omega)
  · intro hs
    refine ⟨?_, ?_, ?_, ?_, ?_, trivial⟩
    · exact step_field hs (wants_none rfl) rfl rfl (fun _ => E1.out) (field_P2 _)
    · exact step_loadF 0 q1 10 hs (wants_none rfl) rfl rfl tyE (fun _ => rfl) rfl (by kernel_rfl) hmpa.lt (hmpa.fld 2 1) (noSto_apart (by kernel_rfl))
    · refine step_call hs (wants_none rfl) rfl fun L u W hJ hG hL hdep K hK => ?_
      have a0 := (show IsFs rE (u 1) [paz] from hG 1 (hdep 1 (by kernel_rfl)))
      go_simp
      go_at_call 46
      (with_reducible refine (cInv a0 _).mono ?_); rintro e w1 ⟨r, rfl, hr, hb⟩
      have hk := hK.out _ _ hr hb
      exact hk
    · exact step_alloc hs (wants_none rfl) rfl rfl (by omega) rfl allocE
    · exact step_store 3 hs (by kernel_rfl) (wants_none rfl) rfl rfl rfl (by kernel_rfl) (by kernel_rfl) (by kernel_rfl) (by kernel_rfl) (fun _ => rfl) (gives_op 2 rfl (by kernel_rfl) (fun _ => rfl)) tyE rfl
  intro L2 u2 W2 hall hJ hG
  obtain ⟨q3, e3, hq3, _, ht3⟩ := (show ∃ g, u2 3 = .pointer (some ⟨g, 0, none⟩) ∧ W1.heap.size ≤ g ∧ 0 < 5 ∧ W2.there g 0 5 from hG 3 (by simp))
  have hm3 : HasFs rE W2 q3 0 [finv paz] := by
    obtain ⟨g, e, _, h⟩ := (show ∃ g, u2 3 = .pointer (some ⟨g, 0, none⟩) ∧ W1.heap.size ≤ g ∧ HasFs rE W2 g 0 [finv paz] from hG 4 (by simp))
    rw [e3] at e; cases e; exact h
  have HD3_q1 := Lib.hid (show q1 ≠ q3 by have := there_lt hs1_2t (by omega); omega)
  have hq3 : w.heap.size ≤ q3 := by have := hbel0.size; omega
  have E3 := Lib.hid e3; clear e3
  have hb := hJ.all rfl
  have hbel := Below.call hbel hb
  have hmpa := hmpa.later hb
  have hs1_2t := there_later hs1_2t hb
  have hbel0 := hbel
  clear hJ hG hall hb
  go_upto_region 3 with fail
  refine wp_region_turn (fun u => #[v0, u0 0, u0 1, u2 3, u 5, u1 0, u1 1, u2 0, u2 1, u2 2, u 0, u 1, u 2, u 3, u 4, undef, undef, undef, undef, undef, undef, undef, undef, undef, undef, undef]) (Holds [.ptr q1 5, .val rE [pay], .val rE [finv paz], .val rE [pay * (finv paz)], .rd (leB 32 (pay * (finv paz)).val), .rd (leB 32 (pay * (finv paz)).val)] W2) (Keep [.ptr q1 5, .val rE [pay], .val rE [finv paz], .val rE [pay * (finv paz)], .rd (leB 32 (pay * (finv paz)).val), .rd (leB 32 (pay * (finv paz)).val)] W2) (fun _ => undef) ?_ (by rfl) Keep.start (holds_soft (by kernel_rfl)) ?_ ?_
  · intro u i v h
    rcases i with _ | _ | _ | _ | _ | _ | i
    all_goals first | (simp [Act.put, putV]; done) | (exfalso; simp at h; omega)
  · intro hs
    refine ⟨?_, ?_, ?_, ?_, ?_, ?_, trivial⟩
    · exact step_field hs (wants_none rfl) rfl rfl (fun _ => E1.out) (field_P1 _)
    · exact step_loadF 0 q1 5 hs (wants_none rfl) rfl rfl tyE (fun _ => rfl) rfl (by kernel_rfl) hmpa.lt (hmpa.fld 1 1) (noSto_apart (by kernel_rfl))
    · exact step_load q3 0 hs (wants_none rfl) rfl rfl tyE (fun _ => E3.out) hm3.lt hm3 (noSto_apart (by kernel_rfl))
    · refine step_call hs (wants_none rfl) rfl fun L u W hJ hG hL hdep K hK => ?_
      have a0 := (show IsFs rE (u 1) [pay] from hG 1 (hdep 1 (by kernel_rfl)))
      have a1 := (show IsFs rE (u 2) [finv paz] from hG 2 (hdep 2 (by kernel_rfl)))
      go_simp
      go_at_call 42
      (with_reducible refine (cMul a0 a1 _).mono ?_); rintro e w1 ⟨r, rfl, hr, hb⟩
      have hk := hK.out _ _ hr hb
      exact hk
    · refine step_callB hs (wants_none rfl) rfl fun L u W hJ hG hL hdep K hK => ?_
      have a0 := (show IsFs rE (u 3) [pay * (finv paz)] from hG 3 (hdep 3 (by kernel_rfl)))
      go_simp
      go_at_call 66
      (with_reducible refine (cBytes a0 _).mono ?_); rintro e w1 ⟨g, n, cap, r, rfl, h1, h2, h3, h4, h5, hb⟩
      have hk := hK.out _ _ _ _ _ h1 h2 h3 h4 h5 hb
      exact hk
    · exact step_moveB 4 hs (wants_none rfl) rfl (by first | exact .inl rfl | exact .inr rfl) rfl (by kernel_rfl) (fun _ => rfl)
  intro L3 u3 W3 hall hJ hG
  obtain ⟨gB5, nB5, cB5, rB5, eB5, hgB5, hB5, hlB5, hcB5, hmB5⟩ := (show ∃ g n cap r, u3 5 = .slice (some ⟨g, 0, none⟩) n cap ∧ W2.heap.size ≤ g ∧ Blk W3 g ((leB 32 (pay * (finv paz)).val).map bV ++ r) 5 ∧ (leB 32 (pay * (finv paz)).val).length = n ∧ n ≤ cap ∧ cap ≤ maxLen from hG 5 (by simp))
  have hgB5 : w.heap.size ≤ gB5 := by have := hbel0.size; omega
  have EB5 := Lib.hid eB5; clear eB5
  obtain rfl : nB5 = 32 := by have h : (((leB 32 (pay * (finv paz)).val).length : Nat) : Int) = 32 := (by rw [leB_len]; rfl); omega
  have HB5 := Lib.hid hB5; clear hB5
  have HE5_q1 := Lib.hid (show q1 ≠ gB5 by have := there_lt hs1_2t (by omega); omega)
  have HE5_q3 := Lib.hid (show q3 ≠ gB5 by have := there_lt ht3 (by omega); omega)
  have hb := hJ.all rfl
  have hbel := Below.call hbel hb
  have hmpa := hmpa.later hb
  have hm3 := hm3.later hb
  have hs1_2t := there_later hs1_2t hb
  have ht3 := there_later ht3 hb
  have hbel0 := hbel
  clear hJ hG hall hb
  go_upto_region 4 with fail
  refine wp_region_turn (fun u => #[v0, u0 0, u0 1, u2 3, u3 5, u1 0, u1 1, u2 0, u2 1, u2 2, u3 0, u3 1, u3 2, u3 3, u3 4, u 0, u 1, u 2, u 3, u 4, undef, undef, undef, undef, undef, undef]) (Holds [.ptr q1 0, .val rE [pax], .val rE [finv paz], .val rE [pax * (finv paz)], .oth (fun v => v = .bool false)] W3) (Keep [.ptr q1 0, .val rE [pax], .val rE [finv paz], .val rE [pax * (finv paz)], .oth (fun v => v = .bool false)] W3) (fun _ => undef) ?_ (by rfl) Keep.start (holds_soft (by kernel_rfl)) ?_ ?_
  · intro u i v h
    rcases i with _ | _ | _ | _ | _ | i
    all_goals first | (simp [Act.put, putV]; done) | (exfalso; simp at h; omega)
  · intro hs
    refine ⟨?_, ?_, ?_, ?_, ?_, trivial⟩
    · exact step_field hs (wants_none rfl) rfl rfl (fun _ => E1.out) (field_P0 _)
    · exact step_loadF 0 q1 0 hs (wants_none rfl) rfl rfl tyE (fun _ => rfl) rfl (by kernel_rfl) hmpa.lt (hmpa.fld 0 1) (noSto_apart (by kernel_rfl))
    · exact step_load q3 0 hs (wants_none rfl) rfl rfl tyE (fun _ => E3.out) hm3.lt hm3 (noSto_apart (by kernel_rfl))
    · refine step_call hs (wants_none rfl) rfl fun L u W hJ hG hL hdep K hK => ?_
      have a0 := (show IsFs rE (u 1) [pax] from hG 1 (hdep 1 (by kernel_rfl)))
      have a1 := (show IsFs rE (u 2) [finv paz] from hG 2 (hdep 2 (by kernel_rfl)))
      go_simp
      go_at_call 42
      (with_reducible refine (cMul a0 a1 _).mono ?_); rintro e w1 ⟨r, rfl, hr, hb⟩
      have hk := hK.out _ _ hr hb
      exact hk
    · refine step_callO hs (wants_none rfl) rfl fun L u W hJ hG hL hdep K hK => ?_
      have a0 := (show IsFs rE (u 3) [pax * (finv paz)] from hG 3 (hdep 3 (by kernel_rfl)))
      go_simp
      go_at_call 67
      (with_reducible refine (cOdd (b := false) (by rw [hppa.p.xv]; exact decide_eq_false HP.out) a0 _).mono ?_); rintro e w1 ⟨rfl, hb⟩
      have hk := hK.out _ _ rfl hb
      exact hk
  intro L4 u4 W4 hall hJ hG
  have hb := hJ.all rfl
  have hbel := Below.call hbel hb
  have hmpa := hmpa.later hb
  have hm3 := hm3.later hb
  have hs1_2t := there_later hs1_2t hb
  have ht3 := there_later ht3 hb
  have HB5 := Lib.hid (HB5.out.below' hb)
  have HC19 := Lib.hid (show u4 4 = .bool false from hG 4 (by simp))
  have hbel0 := hbel
  clear hJ hG hall hb
  have hx : u4 4 = .bool false := HC19.out
  go_wp2_with fail
  rw [hx]
  clear hx
  have HLB : Hid (leB 32 (pay * finv paz).val = leB 32 P.y.val) := Lib.hid (by rw [hppa.p.yv])
  generalize leB 32 (pay * finv paz).val = LB at *
  have HLL : Hid (LB.length = 32) := Lib.hid (by rw [HLB.out, leB_len])
  go_upto_region 6 with fail
  refine wp_region_turn (fun u => #[v0, u0 0, u 1, u2 3, u3 5, u1 0, u1 1, u2 0, u2 1, u2 2, u3 0, u3 1, u3 2, u3 3, u3 4, u4 0, u4 1, u4 2, u4 3, .bool false, undef, undef, undef, undef, undef, u 0]) (Holds [.oth (fun v => v = .slice (some ⟨gB5, 0, none⟩) 32 cB5), .oth (fun v => v = .slice (some ⟨gB5, 0, none⟩) 32 cB5)] W4) (Keep [.oth (fun v => v = .slice (some ⟨gB5, 0, none⟩) 32 cB5), .oth (fun v => v = .slice (some ⟨gB5, 0, none⟩) 32 cB5)] W4) (fun k => ((undef :: u0 1 :: []) : List Value).getD k undef) ?_ (by rfl) Keep.start (holds_soft (by kernel_rfl)) ?_ ?_
  · intro u i v h
    rcases i with _ | _ | i
    all_goals first | (simp [Act.put, putV]; done) | (exfalso; simp at h; omega)
  · intro hs
    refine ⟨?_, ?_, trivial⟩
    · exact step_pureO hs (wants_none rfl) rfl fun L u W hG hdep => ⟨_, run_move rfl, EB5.out⟩
    · exact step_pureO hs (wants_none rfl) rfl fun L u W hG hdep => ⟨_, run_assign rfl, (show u 0 = .slice (some ⟨gB5, 0, none⟩) 32 cB5 from hG 0 (hdep 0 (by kernel_rfl)))⟩
  intro L6 u6 W6 hall hJ hG
  have hb := hJ.all rfl
  have hbel := Below.call hbel hb
  have hmpa := hmpa.later hb
  have hm3 := hm3.later hb
  have hs1_2t := there_later hs1_2t hb
  have ht3 := there_later ht3 hb
  have HB5 := Lib.hid (HB5.out.below' hb)
  have HC2 := Lib.hid (show u6 1 = .slice (some ⟨gB5, 0, none⟩) 32 cB5 from hG 1 (by simp))
  have hbel0 := hbel
  clear hJ hG hall hb
  rw [HC2.out]
  go_wp2
  go_ret
  exact ⟨gB5, 32, cB5, rB5, rfl, hgB5, by rw [← enc_even HP.out, ← HLB.out]; exact HB5.out, encP_len _, hcB5, hmB5, hbel⟩
theorem cEncode {v0 : Value} {P : EP} (h0 : IsFs rP v0 [P]) (w : World) :
    Calls Try.prog 35 #[v0] w fun e w' => ∃ g n cap r, e = .returned (.slice (some ⟨g, 0, none⟩) n cap) ∧ w.heap.size ≤ g ∧ Blk w' g ((encP P).map bV ++ r) 5 ∧ (encP P).length = n ∧ n ≤ cap ∧ cap ≤ maxLen ∧ Below w.heap.size w w' := by
  by_cases hp : P.x.val % 2 = 1
  · exact (enc_o hp h0 w).mono fun _ _ ⟨g, n, cap, r, h1, h2, h3, h4, h5, h6, hb⟩ => ⟨g, n, cap, r, h1, h2, h3, h4, h5, h6, hb⟩
  · exact (enc_e hp h0 w).mono fun _ _ ⟨g, n, cap, r, h1, h2, h3, h4, h5, h6, hb⟩ => ⟨g, n, cap, r, h1, h2, h3, h4, h5, h6, hb⟩
end Go.Proofs.Ytielgpefoameiaa
