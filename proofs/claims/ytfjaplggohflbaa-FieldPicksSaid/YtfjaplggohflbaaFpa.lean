/- Of FieldPicks: few bytes. -/
import Derived.Test.YtfjaplggohflbaaFrs
import Derived.Test.YtfjaplggohflbaaFaw
namespace Go.Proofs.Ytfjaplggohflbaa
open Go Go.RowKit

set_option maxHeartbeats 4000000 in
theorem fieldPicks_yes {a b : Option Addr} {n m capa capb : Nat} {la lb : List UInt8} {q : Bool} {x y : F} (hx : feF la = x) (hy : feF lb = y) (hq : decide (x = y) = q) (w : World) (ha : RdB w a n capa la) (hb' : RdB w b m capb lb) (hn : n ≤ 100) (hm : m ≤ 100) :
    Calls Try.prog 3 #[.slice a n capa, .slice b m capb, .bool true] w fun e w' => e = .returned (.bool true) ∧ Below w.heap.size w w' := by
  have HN := Lib.hid hn; have HM := Lib.hid hm; have HX := Lib.hid hx; have HY := Lib.hid hy; have HQ := Lib.hid hq
  clear hn hm hx hy hq
  go_enter Try.func3, Try.ntmps3
  go_upto_region 3 with ((go_at_call 11; go_must (refine (few_yes HN.out HM.out _).mono ?_; rintro e w1 ⟨rfl, hbel⟩)))
  have hbel0 := hbel
  clear HN HM
  refine wp_region_turn (fun u => (.slice a n capa :: .slice b m capb :: .bool true :: undef :: undef :: undef :: .bool false :: u 4 :: u 5 :: undef :: undef :: .slice a n capa :: .slice b m capb :: .bool true :: .bool false :: undef :: u 0 :: u 1 :: u 2 :: u 3 :: undef :: undef :: undef :: undef :: undef :: undef :: undef :: undef :: undef :: undef :: undef :: undef :: undef :: undef :: undef :: undef :: undef :: undef :: undef :: undef :: undef :: undef :: undef :: undef :: undef :: undef :: undef :: undef :: undef :: undef :: undef :: undef :: undef :: undef :: undef :: undef :: undef :: undef :: undef :: undef :: undef :: undef :: undef :: undef :: undef :: undef :: undef :: undef :: []).toArray) (Holds [.oth (fun v => v = .slice a n capa), .val rE [x], .oth (fun v => v = .slice b m capb), .val rE [y], .new 5, .new 5, .st 4 rE [x], .st 5 rE [y]] w1) (Keep [.oth (fun v => v = .slice a n capa), .val rE [x], .oth (fun v => v = .slice b m capb), .val rE [y], .new 5, .new 5, .st 4 rE [x], .st 5 rE [y]] w1) (fun _ => undef) ?_ (by rfl) Keep.start (holds_soft (by kernel_rfl)) ?_ ?_
  · intro u i v h
    rcases i with _ | _ | _ | _ | _ | _ | _ | _ | i
    all_goals first | (simp [Act.put, putV]; done) | (exfalso; simp at h; omega)
  · intro hs
    refine ⟨?_, ?_, ?_, ?_, ?_, ?_, ?_, ?_, trivial⟩
    · exact step_pureO hs (wants_none rfl) rfl fun L u W hG hdep => ⟨_, run_move rfl, rfl⟩
    · refine step_call hs (wants_none rfl) rfl fun L u W hJ hG hL hdep K hK => ?_
      have x0 := (show u 0 = .slice a n capa from hG 0 (hdep 0 (by kernel_rfl)))
      go_simp
      go_at_call 13
      (with_reducible refine (cOf' HX.out ((ha.below hbel).below (hJ.all rfl))).mono ?_); rintro e w1 ⟨r, rfl, hr, hb⟩
      have hk := hK.out _ _ hr hb
      simp only [x0] at hk
      exact hk
    · exact step_pureO hs (wants_none rfl) rfl fun L u W hG hdep => ⟨_, run_move rfl, rfl⟩
    · refine step_call hs (wants_none rfl) rfl fun L u W hJ hG hL hdep K hK => ?_
      have x0 := (show u 2 = .slice b m capb from hG 2 (hdep 2 (by kernel_rfl)))
      go_simp
      go_at_call 13
      (with_reducible refine (cOf' HY.out ((hb'.below hbel).below (hJ.all rfl))).mono ?_); rintro e w1 ⟨r, rfl, hr, hb⟩
      have hk := hK.out _ _ hr hb
      simp only [x0] at hk
      exact hk
    · exact step_alloc hs (wants_none rfl) rfl rfl (by omega) rfl allocE
    · exact step_alloc hs (wants_none rfl) rfl rfl (by omega) rfl allocE
    · exact step_store 4 hs (by kernel_rfl) (wants_none rfl) rfl rfl rfl (by kernel_rfl) (by kernel_rfl) (by kernel_rfl) (by kernel_rfl) (fun _ => rfl) (gives_op 1 rfl (by kernel_rfl) (fun _ => rfl)) tyE rfl
    · exact step_store 5 hs (by kernel_rfl) (wants_none rfl) rfl rfl rfl (by kernel_rfl) (by kernel_rfl) (by kernel_rfl) (by kernel_rfl) (fun _ => rfl) (gives_op 3 rfl (by kernel_rfl) (fun _ => rfl)) tyE rfl
  intro L3 u3 W3 hall hJ hG
  obtain ⟨q7, e7, hq7, _, ht7⟩ := (show ∃ g, u3 4 = .pointer (some ⟨g, 0, none⟩) ∧ w1.heap.size ≤ g ∧ 0 < 5 ∧ W3.there g 0 5 from hG 4 (by simp))
  have hm7 : HasFs rE W3 q7 0 [x] := by
    obtain ⟨g, e, _, h⟩ := (show ∃ g, u3 4 = .pointer (some ⟨g, 0, none⟩) ∧ w1.heap.size ≤ g ∧ HasFs rE W3 g 0 [x] from hG 6 (by simp))
    rw [e7] at e; cases e; exact h
  have hq7 : w.heap.size ≤ q7 := by have := hbel0.size; omega
  have E7 := Lib.hid e7; clear e7
  obtain ⟨q8, e8, hq8, _, ht8⟩ := (show ∃ g, u3 5 = .pointer (some ⟨g, 0, none⟩) ∧ w1.heap.size ≤ g ∧ 0 < 5 ∧ W3.there g 0 5 from hG 5 (by simp))
  have hm8 : HasFs rE W3 q8 0 [y] := by
    obtain ⟨g, e, _, h⟩ := (show ∃ g, u3 5 = .pointer (some ⟨g, 0, none⟩) ∧ w1.heap.size ≤ g ∧ HasFs rE W3 g 0 [y] from hG 7 (by simp))
    rw [e8] at e; cases e; exact h
  have hq8 : w.heap.size ≤ q8 := by have := hbel0.size; omega
  have E8 := Lib.hid e8; clear e8
  have hb := hJ.all rfl
  have hbel := Below.call hbel hb
  have HN7_8 := Lib.hid (show q7 ≠ q8 from fun e => hJ.apart 4 5 _ (by omega) (hall _ (by simp)) (hall _ (by simp)) rfl rfl (E7.out.trans (by rw [e])) E8.out)
  have hv17 := (show IsFs rE (u3 1) [x] from hG 1 (by simp))
  have hv19 := (show IsFs rE (u3 3) [y] from hG 3 (by simp))
  have HC16 := Lib.hid (show u3 0 = .slice a n capa from hG 0 (by simp))
  have HC18 := Lib.hid (show u3 2 = .slice b m capb from hG 2 (by simp))
  have hbel0 := hbel
  clear hJ hG hall hb
  go_upto_region 4 with fail
  refine wp_region_turn (fun u => (.slice a n capa :: .slice b m capb :: .bool true :: undef :: undef :: undef :: .bool false :: u3 4 :: u3 5 :: u 4 :: undef :: .slice a n capa :: .slice b m capb :: .bool true :: .bool false :: undef :: u3 0 :: u3 1 :: u3 2 :: u3 3 :: u 0 :: u 1 :: u 2 :: u 3 :: undef :: undef :: undef :: undef :: undef :: undef :: undef :: undef :: undef :: undef :: undef :: undef :: undef :: undef :: undef :: undef :: undef :: undef :: undef :: undef :: undef :: undef :: undef :: undef :: undef :: undef :: undef :: undef :: undef :: undef :: undef :: undef :: undef :: undef :: undef :: undef :: undef :: undef :: undef :: undef :: undef :: undef :: undef :: undef :: []).toArray) (Holds [.oth (fun v => v = .bool true), .val rE [x], .val rE [y], .val rE [x], .new 5, .st 4 rE [x]] W3) (Keep [.oth (fun v => v = .bool true), .val rE [x], .val rE [y], .val rE [x], .new 5, .st 4 rE [x]] W3) (fun _ => undef) ?_ (by rfl) Keep.start (holds_soft (by kernel_rfl)) ?_ ?_
  · intro u i v h
    rcases i with _ | _ | _ | _ | _ | _ | i
    all_goals first | (simp [Act.put, putV]; done) | (exfalso; simp at h; omega)
  · intro hs
    refine ⟨?_, ?_, ?_, ?_, ?_, ?_, trivial⟩
    · exact step_pureO hs (wants_none rfl) rfl fun L u W hG hdep => ⟨_, run_move rfl, rfl⟩
    · exact step_load q7 0 hs (wants_none rfl) rfl rfl tyE (fun _ => E7.out) hm7.lt hm7 (noSto_apart (by kernel_rfl))
    · exact step_load q8 0 hs (wants_none rfl) rfl rfl tyE (fun _ => E8.out) hm8.lt hm8 (noSto_apart (by kernel_rfl))
    · refine step_call hs (wants_none rfl) rfl fun L u W hJ hG hL hdep K hK => ?_
      have a0 := (show IsFs rE (u 1) [x] from hG 1 (hdep 1 (by kernel_rfl)))
      have a1 := (show IsFs rE (u 2) [y] from hG 2 (hdep 2 (by kernel_rfl)))
      have x0 := (show u 0 = .bool true from hG 0 (hdep 0 (by kernel_rfl)))
      go_simp
      go_at_call 14
      (with_reducible refine (cPick (b := true) rfl a0 a1 _).mono ?_); rintro e w1 ⟨r, rfl, hr, hb⟩
      have hk := hK.out _ _ hr hb
      simp only [x0] at hk
      exact hk
    · exact step_alloc hs (wants_none rfl) rfl rfl (by omega) rfl allocE
    · exact step_store 4 hs (by kernel_rfl) (wants_none rfl) rfl rfl rfl (by kernel_rfl) (by kernel_rfl) (by kernel_rfl) (by kernel_rfl) (fun _ => rfl) (gives_op 3 rfl (by kernel_rfl) (fun _ => rfl)) tyE rfl
  intro L4 u4 W4 hall hJ hG
  obtain ⟨q9, e9, hq9, _, ht9⟩ := (show ∃ g, u4 4 = .pointer (some ⟨g, 0, none⟩) ∧ W3.heap.size ≤ g ∧ 0 < 5 ∧ W4.there g 0 5 from hG 4 (by simp))
  have hm9 : HasFs rE W4 q9 0 [x] := by
    obtain ⟨g, e, _, h⟩ := (show ∃ g, u4 4 = .pointer (some ⟨g, 0, none⟩) ∧ W3.heap.size ≤ g ∧ HasFs rE W4 g 0 [x] from hG 5 (by simp))
    rw [e9] at e; cases e; exact h
  have HD9_q7 := Lib.hid (show q7 ≠ q9 by have := there_lt ht7 (by omega); omega)
  have HD9_q8 := Lib.hid (show q8 ≠ q9 by have := there_lt ht8 (by omega); omega)
  have hq9 : w.heap.size ≤ q9 := by have := hbel0.size; omega
  have E9 := Lib.hid e9; clear e9
  have hb := hJ.all rfl
  have hbel := Below.call hbel hb
  have hm7 := hm7.later hb
  have hm8 := hm8.later hb
  have ht7 := there_later ht7 hb
  have ht8 := there_later ht8 hb
  have hv21 := (show IsFs rE (u4 1) [x] from hG 1 (by simp))
  have hv22 := (show IsFs rE (u4 2) [y] from hG 2 (by simp))
  have hv23 := (show IsFs rE (u4 3) [x] from hG 3 (by simp))
  have HC20 := Lib.hid (show u4 0 = .bool true from hG 0 (by simp))
  have hbel0 := hbel
  clear hJ hG hall hb
  go_upto_region 5 with fail
  refine wp_region_turn (fun u => (.slice a n capa :: .slice b m capb :: .bool true :: undef :: undef :: undef :: .bool false :: u3 4 :: u3 5 :: u4 4 :: u 1 :: .slice a n capa :: .slice b m capb :: .bool true :: .bool false :: undef :: u3 0 :: u3 1 :: u3 2 :: u3 3 :: u4 0 :: u4 1 :: u4 2 :: u4 3 :: u 0 :: undef :: undef :: undef :: undef :: undef :: undef :: undef :: undef :: undef :: undef :: undef :: undef :: undef :: undef :: undef :: undef :: undef :: undef :: undef :: undef :: undef :: undef :: undef :: undef :: undef :: undef :: undef :: undef :: undef :: undef :: undef :: undef :: undef :: undef :: undef :: undef :: undef :: undef :: undef :: undef :: undef :: undef :: undef :: []).toArray) (Holds [.val rE [y], .new 5, .st 1 rE [y]] W4) (Keep [.val rE [y], .new 5, .st 1 rE [y]] W4) (fun _ => undef) ?_ (by rfl) Keep.start (holds_soft (by kernel_rfl)) ?_ ?_
  · intro u i v h
    rcases i with _ | _ | _ | i
    all_goals first | (simp [Act.put, putV]; done) | (exfalso; simp at h; omega)
  · intro hs
    refine ⟨?_, ?_, ?_, trivial⟩
    · exact step_load q8 0 hs (wants_none rfl) rfl rfl tyE (fun _ => E8.out) hm8.lt hm8 (noSto_apart (by kernel_rfl))
    · exact step_alloc hs (wants_none rfl) rfl rfl (by omega) rfl allocE
    · exact step_store 1 hs (by kernel_rfl) (wants_none rfl) rfl rfl rfl (by kernel_rfl) (by kernel_rfl) (by kernel_rfl) (by kernel_rfl) (fun _ => rfl) (gives_op 0 rfl (by kernel_rfl) (fun _ => rfl)) tyE rfl
  intro L5 u5 W5 hall hJ hG
  obtain ⟨q10, e10, hq10, _, ht10⟩ := (show ∃ g, u5 1 = .pointer (some ⟨g, 0, none⟩) ∧ W4.heap.size ≤ g ∧ 0 < 5 ∧ W5.there g 0 5 from hG 1 (by simp))
  have hm10 : HasFs rE W5 q10 0 [y] := by
    obtain ⟨g, e, _, h⟩ := (show ∃ g, u5 1 = .pointer (some ⟨g, 0, none⟩) ∧ W4.heap.size ≤ g ∧ HasFs rE W5 g 0 [y] from hG 2 (by simp))
    rw [e10] at e; cases e; exact h
  have HD10_q7 := Lib.hid (show q7 ≠ q10 by have := there_lt ht7 (by omega); omega)
  have HD10_q8 := Lib.hid (show q8 ≠ q10 by have := there_lt ht8 (by omega); omega)
  have HD10_q9 := Lib.hid (show q9 ≠ q10 by have := there_lt ht9 (by omega); omega)
  have hq10 : w.heap.size ≤ q10 := by have := hbel0.size; omega
  have E10 := Lib.hid e10; clear e10
  have hb := hJ.all rfl
  have hbel := Below.call hbel hb
  have hm7 := hm7.later hb
  have hm8 := hm8.later hb
  have hm9 := hm9.later hb
  have ht7 := there_later ht7 hb
  have ht8 := there_later ht8 hb
  have ht9 := there_later ht9 hb
  have hv24 := (show IsFs rE (u5 0) [y] from hG 0 (by simp))
  have hbel0 := hbel
  clear hJ hG hall hb
  go_upto_region 6 with fail
  refine wp_region_turn (fun u => (.slice a n capa :: .slice b m capb :: .bool true :: undef :: undef :: undef :: .bool false :: u3 4 :: u3 5 :: u4 4 :: u5 1 :: .slice a n capa :: .slice b m capb :: .bool true :: .bool false :: undef :: u3 0 :: u3 1 :: u3 2 :: u3 3 :: u4 0 :: u4 1 :: u4 2 :: u4 3 :: u5 0 :: u 0 :: undef :: undef :: undef :: undef :: undef :: undef :: undef :: undef :: undef :: undef :: undef :: undef :: undef :: undef :: undef :: undef :: undef :: undef :: undef :: undef :: undef :: undef :: undef :: undef :: undef :: undef :: undef :: undef :: undef :: undef :: undef :: undef :: undef :: undef :: undef :: undef :: undef :: undef :: undef :: undef :: undef :: undef :: []).toArray) (Holds [.oth (fun v => v = .bool true)] W5) (Keep [.oth (fun v => v = .bool true)] W5) (fun _ => undef) ?_ (by rfl) Keep.start (holds_soft (by kernel_rfl)) ?_ ?_
  · intro u i v h
    rcases i with _ | i
    all_goals first | (simp [Act.put, putV]; done) | (exfalso; simp at h; omega)
  · intro hs
    refine ⟨?_, trivial⟩
    · exact step_pureO hs (wants_none rfl) rfl fun L u W hG hdep => ⟨_, run_move rfl, rfl⟩
  intro L6 u6 W6 hall hJ hG
  have hb := hJ.all rfl
  have hbel := Below.call hbel hb
  have hm7 := hm7.later hb
  have hm8 := hm8.later hb
  have hm9 := hm9.later hb
  have hm10 := hm10.later hb
  have ht7 := there_later ht7 hb
  have ht8 := there_later ht8 hb
  have ht9 := there_later ht9 hb
  have ht10 := there_later ht10 hb
  have HC25 := Lib.hid (show u6 0 = .bool true from hG 0 (by simp))
  have hbel0 := hbel
  clear hJ hG hall hb
  have hx : u6 0 = .bool true := HC25.out
  go_wp2_with fail
  rw [hx]
  clear hx
  go_upto_region 7 with fail
  refine wp_region_turn (fun u => (.slice a n capa :: .slice b m capb :: .bool true :: undef :: undef :: undef :: .bool false :: u3 4 :: u3 5 :: u4 4 :: u5 1 :: .slice a n capa :: .slice b m capb :: .bool true :: .bool false :: undef :: u3 0 :: u3 1 :: u3 2 :: u3 3 :: u4 0 :: u4 1 :: u4 2 :: u4 3 :: u5 0 :: .bool true :: u 0 :: undef :: undef :: undef :: undef :: undef :: undef :: undef :: undef :: undef :: undef :: undef :: undef :: undef :: undef :: undef :: undef :: undef :: undef :: undef :: undef :: undef :: undef :: undef :: undef :: undef :: undef :: undef :: undef :: undef :: undef :: undef :: undef :: undef :: undef :: undef :: undef :: undef :: undef :: undef :: undef :: undef :: []).toArray) (Holds [.val rE [x], .sto q10 rE [x]] W6) (Keep [.val rE [x], .sto q10 rE [x]] W6) (fun _ => undef) ?_ (by rfl) Keep.start (holds_soft (by kernel_rfl)) ?_ ?_
  · intro u i v h
    rcases i with _ | _ | i
    all_goals first | (simp [Act.put, putV]; done) | (exfalso; simp at h; omega)
  · intro hs
    refine ⟨?_, ?_, trivial⟩
    · exact step_load q7 0 hs (wants_none rfl) rfl rfl tyE (fun _ => E7.out) hm7.lt hm7 (fun k g R' ys hk => by rcases k with _ | _ | k <;> first | (cases hk; done) | (cases hk; exact .inr (Ne.symm HD10_q7.out)))
    · refine step_storeO q10 5 hs (wants_none rfl) rfl rfl (by kernel_rfl) (fun k R' ys hk => ?_) (fun _ => E10.out) (there_lt ht10 (by omega)) ht10 (gives_op 0 rfl (by kernel_rfl) (fun _ => rfl)) tyE rfl
      rcases k with _ | _ | k
      all_goals first | (exact absurd rfl hk) | (intro e; cases e; done)
  intro L7 u7 W7 hall hJ hG
  have hb : Below w.heap.size W6 W7 := hJ.below (by have := hbel.size; omega) (fun k b R xs hf => by rcases k with _ | _ | k <;> first | (cases hf; done) | (injection hf; omega))
  have hbel := hbel.trans hb
  have hm7 := hm7.blk (hJ.block _ (hm7.lt) (fun k R' ys hk => by rcases k with _ | _ | k <;> first | (cases hk; done) | (cases hk; exact absurd rfl (Ne.symm HD10_q7.out))))
  have hm8 := hm8.blk (hJ.block _ (hm8.lt) (fun k R' ys hk => by rcases k with _ | _ | k <;> first | (cases hk; done) | (cases hk; exact absurd rfl (Ne.symm HD10_q8.out))))
  have hm9 := hm9.blk (hJ.block _ (hm9.lt) (fun k R' ys hk => by rcases k with _ | _ | k <;> first | (cases hk; done) | (cases hk; exact absurd rfl (Ne.symm HD10_q9.out))))
  have ht7 := there_blk ht7 (hJ.block _ (there_lt ht7 (by omega)) (fun k R' ys hk => by rcases k with _ | _ | k <;> first | (cases hk; done) | (cases hk; exact absurd rfl (Ne.symm HD10_q7.out))))
  have ht8 := there_blk ht8 (hJ.block _ (there_lt ht8 (by omega)) (fun k R' ys hk => by rcases k with _ | _ | k <;> first | (cases hk; done) | (cases hk; exact absurd rfl (Ne.symm HD10_q8.out))))
  have ht9 := there_blk ht9 (hJ.block _ (there_lt ht9 (by omega)) (fun k R' ys hk => by rcases k with _ | _ | k <;> first | (cases hk; done) | (cases hk; exact absurd rfl (Ne.symm HD10_q9.out))))
  obtain ⟨_, hs7_1t, hs7_1⟩ := (show _ ∧ W7.there q10 0 5 ∧ HasFs rE W7 q10 0 [x] from hG 1 (by simp))
  have hv26 := (show IsFs rE (u7 0) [x] from hG 0 (by simp))
  have hbel0 := hbel
  clear hJ hG hall hb
  go_upto_region 8 with fail
  refine wp_region_mid (fun u => (.slice a n capa :: .slice b m capb :: .bool true :: undef :: undef :: undef :: u 41 :: u3 4 :: u3 5 :: u4 4 :: u5 1 :: .slice a n capa :: .slice b m capb :: .bool true :: .bool false :: undef :: u3 0 :: u3 1 :: u3 2 :: u3 3 :: u4 0 :: u4 1 :: u4 2 :: u4 3 :: u5 0 :: .bool true :: u7 0 :: u 0 :: u 1 :: u 2 :: u 3 :: u 4 :: u 5 :: u 6 :: u 7 :: u 8 :: u 9 :: u 10 :: u 11 :: u 12 :: u 13 :: u 14 :: u 15 :: u 16 :: u 17 :: u 18 :: u 19 :: u 20 :: u 21 :: u 22 :: u 23 :: u 24 :: u 25 :: u 26 :: u 27 :: u 28 :: u 29 :: u 30 :: u 31 :: u 32 :: u 33 :: u 34 :: u 35 :: u 36 :: u 37 :: u 38 :: u 39 :: u 40 :: []).toArray) (Holds [.val rE [x], .val rE [x], .oth (fun v => v = .bool true), .oth (fun v => v = .bool true), .val rE [x], .rd (leB 32 x.val), .oth (fun v => v = (.string (bs (leB 32 x.val)))), .val rE [x], .rd (leB 32 x.val), .oth (fun v => v = (.string (bs (leB 32 x.val)))), .oth (fun v => v = .bool true), .oth (fun v => v = .bool true), .oth (fun v => v = .bool true), .val rE [x], .val rE [y], .oth (fun v => v = .bool q), .val rE [x], .rd (leB 32 x.val), .oth (fun v => v = (.string (bs (leB 32 x.val)))), .val rE [y], .rd (leB 32 y.val), .oth (fun v => v = (.string (bs (leB 32 y.val)))), .oth (fun v => v = .bool q), .oth (fun v => v = .bool true), .oth (fun v => v = .bool true), .oth (fun v => v = .bool true), .val rE [x], .val rE [x], .rd (leB 32 x.val), .val rE [x], .oth (fun v => v = .bool true), .oth (fun v => v = .bool true), .oth (fun v => v = .bool true), .val rE [x], .rd (leB 32 x.val), .oth (fun v => v = .int .i64 32), .oth (fun v => v = .bool true), .oth (fun v => v = .bool true), .oth (fun v => v = .bool true), .oth (fun v => v = .bool true), .oth (fun v => v = .bool true), .oth (fun v => v = .bool true)] W7) (Keep [.val rE [x], .val rE [x], .oth (fun v => v = .bool true), .oth (fun v => v = .bool true), .val rE [x], .rd (leB 32 x.val), .oth (fun v => v = (.string (bs (leB 32 x.val)))), .val rE [x], .rd (leB 32 x.val), .oth (fun v => v = (.string (bs (leB 32 x.val)))), .oth (fun v => v = .bool true), .oth (fun v => v = .bool true), .oth (fun v => v = .bool true), .val rE [x], .val rE [y], .oth (fun v => v = .bool q), .val rE [x], .rd (leB 32 x.val), .oth (fun v => v = (.string (bs (leB 32 x.val)))), .val rE [y], .rd (leB 32 y.val), .oth (fun v => v = (.string (bs (leB 32 y.val)))), .oth (fun v => v = .bool q), .oth (fun v => v = .bool true), .oth (fun v => v = .bool true), .oth (fun v => v = .bool true), .val rE [x], .val rE [x], .rd (leB 32 x.val), .val rE [x], .oth (fun v => v = .bool true), .oth (fun v => v = .bool true), .oth (fun v => v = .bool true), .val rE [x], .rd (leB 32 x.val), .oth (fun v => v = .int .i64 32), .oth (fun v => v = .bool true), .oth (fun v => v = .bool true), .oth (fun v => v = .bool true), .oth (fun v => v = .bool true), .oth (fun v => v = .bool true), .oth (fun v => v = .bool true)] W7) (fun k => ([undef, undef, undef, undef, undef, undef, undef, undef, undef, undef, undef, undef, undef, undef, undef, undef, undef, undef, undef, undef, undef, undef, undef, undef, undef, undef, undef, undef, undef, undef, undef, undef, undef, undef, undef, undef, undef, undef, undef, undef, undef, .bool false] : List Value).getD k undef) (by kernel_rfl) (by kernel_rfl) ?_ (by rfl) Keep.drew (holds_soft (by kernel_rfl)) ?_ ?_
  · intro u i v h
    rcases i with _ | _ | _ | _ | _ | _ | _ | _ | _ | _ | _ | _ | _ | _ | _ | _ | _ | _ | _ | _ | _ | _ | _ | _ | _ | _ | _ | _ | _ | _ | _ | _ | _ | _ | _ | _ | _ | _ | _ | _ | _ | _ | i
    all_goals first | (simp [Act.put, putV]; done) | (exfalso; simp at h; omega)
  · intro hs
    refine ⟨?_, ?_, ?_, ?_, ?_, ?_, ?_, ?_, ?_, ?_, ?_, ?_, ?_, ?_, ?_, ?_, ?_, ?_, ?_, ?_, ?_, ?_, ?_, ?_, ?_, ?_, ?_, ?_, ?_, ?_, ?_, ?_, ?_, ?_, ?_, ?_, ?_, ?_, ?_, ?_, ?_, ?_, trivial⟩
    · exact step_load q9 0 hs (wants_none rfl) rfl rfl tyE (fun _ => E9.out) hm9.lt hm9 (noSto_apart (by kernel_rfl))
    · exact step_load q10 0 hs (wants_none rfl) rfl rfl tyE (fun _ => E10.out) hs7_1.lt hs7_1 (noSto_apart (by kernel_rfl))
    · refine step_callO hs (wants_none rfl) rfl fun L u W hJ hG hdep K hK => ?_
      have a0 := (show IsFs rE (u 0) [x] from hG 0 (hdep 0 (by kernel_rfl)))
      have a1 := (show IsFs rE (u 1) [x] from hG 1 (hdep 1 (by kernel_rfl)))
      go_simp
      go_at_call 15
      (with_reducible refine (cSame (b := true) (decide_eq_true rfl) a0 a1 _).mono ?_); rintro e w1 ⟨rfl, hb⟩
      have hk := hK.out _ _ rfl hb
      exact hk
    · exact step_pureO hs (wants_none rfl) rfl fun L u W hG hdep => ⟨_, run_move rfl, (show u 2 = .bool true from hG 2 (hdep 2 (by kernel_rfl)))⟩
    · exact step_load q9 0 hs (wants_on 3 rfl rfl (by kernel_rfl) (fun _ => rfl)) rfl rfl tyE (fun _ => E9.out) hm9.lt hm9 (noSto_apart (by kernel_rfl))
    · refine step_callB hs (wants_on 3 rfl rfl (by kernel_rfl) (fun _ => rfl)) rfl fun L u W hJ hG hdep K hK => ?_
      have a0 := (show IsFs rE (u 4) [x] from hG 4 (hdep 4 (by kernel_rfl)))
      go_simp
      go_at_call 16
      (with_reducible refine (cBytes a0 _).mono ?_); rintro e w1 ⟨g, n, cap, r, rfl, h1, h2, h3, h4, h5, hb⟩
      have hk := hK.out _ _ _ _ _ h1 h2 h3 h4 h5 hb
      exact hk
    · exact step_conv 5 hs (wants_on 3 rfl rfl (by kernel_rfl) (fun _ => rfl)) rfl rfl rfl (by kernel_rfl) (fun _ => rfl)
    · exact step_load q10 0 hs (wants_on 3 rfl rfl (by kernel_rfl) (fun _ => rfl)) rfl rfl tyE (fun _ => E10.out) hs7_1.lt hs7_1 (noSto_apart (by kernel_rfl))
    · refine step_callB hs (wants_on 3 rfl rfl (by kernel_rfl) (fun _ => rfl)) rfl fun L u W hJ hG hdep K hK => ?_
      have a0 := (show IsFs rE (u 7) [x] from hG 7 (hdep 7 (by kernel_rfl)))
      go_simp
      go_at_call 16
      (with_reducible refine (cBytes a0 _).mono ?_); rintro e w1 ⟨g, n, cap, r, rfl, h1, h2, h3, h4, h5, hb⟩
      have hk := hK.out _ _ _ _ _ h1 h2 h3 h4 h5 hb
      exact hk
    · exact step_conv 8 hs (wants_on 3 rfl rfl (by kernel_rfl) (fun _ => rfl)) rfl rfl rfl (by kernel_rfl) (fun _ => rfl)
    · exact step_pureO hs (wants_on 3 rfl rfl (by kernel_rfl) (fun _ => rfl)) rfl fun L u W hG hdep => ⟨_, run_eqlS rfl (show u 6 = (.string (bs (leB 32 x.val))) from hG 6 (hdep 6 (by kernel_rfl))) (show u 9 = (.string (bs (leB 32 x.val))) from hG 9 (hdep 9 (by kernel_rfl))), by simp⟩
    · exact step_pick true hs (wants_none rfl) rfl rfl (fun L u W hG hdep => (show u 3 = .bool true from hG 3 (hdep 3 (by kernel_rfl)))) (fun L u W hG hdep => (show u 10 = .bool true from hG 10 (hdep 10 (by kernel_rfl))))
    · exact step_pureO hs (wants_none rfl) rfl fun L u W hG hdep => ⟨_, run_move rfl, (show u 11 = .bool true from hG 11 (hdep 11 (by kernel_rfl)))⟩
    · exact step_load q7 0 hs (wants_on 12 rfl rfl (by kernel_rfl) (fun _ => rfl)) rfl rfl tyE (fun _ => E7.out) hm7.lt hm7 (noSto_apart (by kernel_rfl))
    · exact step_load q8 0 hs (wants_on 12 rfl rfl (by kernel_rfl) (fun _ => rfl)) rfl rfl tyE (fun _ => E8.out) hm8.lt hm8 (noSto_apart (by kernel_rfl))
    · refine step_callO hs (wants_on 12 rfl rfl (by kernel_rfl) (fun _ => rfl)) rfl fun L u W hJ hG hdep K hK => ?_
      have a0 := (show IsFs rE (u 13) [x] from hG 13 (hdep 13 (by kernel_rfl)))
      have a1 := (show IsFs rE (u 14) [y] from hG 14 (hdep 14 (by kernel_rfl)))
      go_simp
      go_at_call 15
      (with_reducible refine (cSame (b := q) (HQ.out) a0 a1 _).mono ?_); rintro e w1 ⟨rfl, hb⟩
      have hk := hK.out _ _ rfl hb
      exact hk
    · exact step_load q7 0 hs (wants_on 12 rfl rfl (by kernel_rfl) (fun _ => rfl)) rfl rfl tyE (fun _ => E7.out) hm7.lt hm7 (noSto_apart (by kernel_rfl))
    · refine step_callB hs (wants_on 12 rfl rfl (by kernel_rfl) (fun _ => rfl)) rfl fun L u W hJ hG hdep K hK => ?_
      have a0 := (show IsFs rE (u 16) [x] from hG 16 (hdep 16 (by kernel_rfl)))
      go_simp
      go_at_call 16
      (with_reducible refine (cBytes a0 _).mono ?_); rintro e w1 ⟨g, n, cap, r, rfl, h1, h2, h3, h4, h5, hb⟩
      have hk := hK.out _ _ _ _ _ h1 h2 h3 h4 h5 hb
      exact hk
    · exact step_conv 17 hs (wants_on 12 rfl rfl (by kernel_rfl) (fun _ => rfl)) rfl rfl rfl (by kernel_rfl) (fun _ => rfl)
    · exact step_load q8 0 hs (wants_on 12 rfl rfl (by kernel_rfl) (fun _ => rfl)) rfl rfl tyE (fun _ => E8.out) hm8.lt hm8 (noSto_apart (by kernel_rfl))
    · refine step_callB hs (wants_on 12 rfl rfl (by kernel_rfl) (fun _ => rfl)) rfl fun L u W hJ hG hdep K hK => ?_
      have a0 := (show IsFs rE (u 19) [y] from hG 19 (hdep 19 (by kernel_rfl)))
      go_simp
      go_at_call 16
      (with_reducible refine (cBytes a0 _).mono ?_); rintro e w1 ⟨g, n, cap, r, rfl, h1, h2, h3, h4, h5, hb⟩
      have hk := hK.out _ _ _ _ _ h1 h2 h3 h4 h5 hb
      exact hk
    · exact step_conv 20 hs (wants_on 12 rfl rfl (by kernel_rfl) (fun _ => rfl)) rfl rfl rfl (by kernel_rfl) (fun _ => rfl)
    · exact step_pureO hs (wants_on 12 rfl rfl (by kernel_rfl) (fun _ => rfl)) rfl fun L u W hG hdep => ⟨_, run_eqlS rfl (show u 18 = (.string (bs (leB 32 x.val))) from hG 18 (hdep 18 (by kernel_rfl))) (show u 21 = (.string (bs (leB 32 y.val))) from hG 21 (hdep 21 (by kernel_rfl))), by rw [leB_dec HQ.out]⟩
    · refine step_pureO hs (wants_on 12 rfl rfl (by kernel_rfl) (fun _ => rfl)) rfl fun L u W hG hdep => ⟨_, ?_, rfl⟩
      have e0 := (show u 15 = .bool q from hG 15 (hdep 15 (by kernel_rfl)))
      have e1 := (show u 22 = .bool q from hG 22 (hdep 22 (by kernel_rfl)))
      go_simp
      try simp [bne]
    · exact step_pick true hs (wants_none rfl) rfl rfl (fun L u W hG hdep => (show u 12 = .bool true from hG 12 (hdep 12 (by kernel_rfl)))) (fun L u W hG hdep => (show u 23 = .bool true from hG 23 (hdep 23 (by kernel_rfl))))
    · exact step_pureO hs (wants_none rfl) rfl fun L u W hG hdep => ⟨_, run_move rfl, (show u 24 = .bool true from hG 24 (hdep 24 (by kernel_rfl)))⟩
    · exact step_load q7 0 hs (wants_on 25 rfl rfl (by kernel_rfl) (fun _ => rfl)) rfl rfl tyE (fun _ => E7.out) hm7.lt hm7 (noSto_apart (by kernel_rfl))
    · exact step_load q7 0 hs (wants_on 25 rfl rfl (by kernel_rfl) (fun _ => rfl)) rfl rfl tyE (fun _ => E7.out) hm7.lt hm7 (noSto_apart (by kernel_rfl))
    · refine step_callB hs (wants_on 25 rfl rfl (by kernel_rfl) (fun _ => rfl)) rfl fun L u W hJ hG hdep K hK => ?_
      have a0 := (show IsFs rE (u 27) [x] from hG 27 (hdep 27 (by kernel_rfl)))
      go_simp
      go_at_call 16
      (with_reducible refine (cBytes a0 _).mono ?_); rintro e w1 ⟨g, n, cap, r, rfl, h1, h2, h3, h4, h5, hb⟩
      have hk := hK.out _ _ _ _ _ h1 h2 h3 h4 h5 hb
      exact hk
    · refine step_call hs (wants_on 25 rfl rfl (by kernel_rfl) (fun _ => rfl)) rfl fun L u W hJ hG hL hdep K hK => ?_
      obtain ⟨gR0, nR0, cR0, rR0, x0, _, hR0, hRn0, hRc0, hRm0⟩ := (show ∃ g n cap r, u 28 = .slice (some ⟨g, 0, none⟩) n cap ∧ W7.heap.size ≤ g ∧ Blk W g ((leB 32 x.val).map bV ++ r) 5 ∧ (leB 32 x.val).length = n ∧ n ≤ cap ∧ cap ≤ maxLen from hG 28 (hdep 28 (by kernel_rfl)))
      have hB0 := RdB.blk rR0 hR0 hRn0 hRc0 hRm0
      go_simp
      go_at_call 13
      (with_reducible refine (cOf' (feF_leB x) hB0).mono ?_); rintro e w1 ⟨r, rfl, hr, hb⟩
      have hk := hK.out _ _ hr hb
      simp only [x0] at hk
      exact hk
    · refine step_callO hs (wants_on 25 rfl rfl (by kernel_rfl) (fun _ => rfl)) rfl fun L u W hJ hG hdep K hK => ?_
      have a0 := (show IsFs rE (u 26) [x] from hG 26 (hdep 26 (by kernel_rfl)))
      have a1 := (show IsFs rE (u 29) [x] from hG 29 (hdep 29 (by kernel_rfl)))
      go_simp
      go_at_call 15
      (with_reducible refine (cSame (b := true) (decide_eq_true rfl) a0 a1 _).mono ?_); rintro e w1 ⟨rfl, hb⟩
      have hk := hK.out _ _ rfl hb
      exact hk
    · exact step_pick true hs (wants_none rfl) rfl rfl (fun L u W hG hdep => (show u 25 = .bool true from hG 25 (hdep 25 (by kernel_rfl)))) (fun L u W hG hdep => (show u 30 = .bool true from hG 30 (hdep 30 (by kernel_rfl))))
    · exact step_pureO hs (wants_none rfl) rfl fun L u W hG hdep => ⟨_, run_move rfl, (show u 31 = .bool true from hG 31 (hdep 31 (by kernel_rfl)))⟩
    · exact step_load q7 0 hs (wants_on 32 rfl rfl (by kernel_rfl) (fun _ => rfl)) rfl rfl tyE (fun _ => E7.out) hm7.lt hm7 (noSto_apart (by kernel_rfl))
    · refine step_callB hs (wants_on 32 rfl rfl (by kernel_rfl) (fun _ => rfl)) rfl fun L u W hJ hG hdep K hK => ?_
      have a0 := (show IsFs rE (u 33) [x] from hG 33 (hdep 33 (by kernel_rfl)))
      go_simp
      go_at_call 16
      (with_reducible refine (cBytes a0 _).mono ?_); rintro e w1 ⟨g, n, cap, r, rfl, h1, h2, h3, h4, h5, hb⟩
      have hk := hK.out _ _ _ _ _ h1 h2 h3 h4 h5 hb
      exact hk
    · exact step_len 34 (by rw [leB_len]; rfl) hs (wants_on 32 rfl rfl (by kernel_rfl) (fun _ => rfl)) rfl rfl rfl (by kernel_rfl) (fun _ => rfl)
    · refine step_pureO hs (wants_on 32 rfl rfl (by kernel_rfl) (fun _ => rfl)) rfl fun L u W hG hdep => ⟨_, ?_, rfl⟩
      have e0 := (show u 35 = .int .i64 32 from hG 35 (hdep 35 (by kernel_rfl)))
      go_simp
      try simp [bne]
    · exact step_pick true hs (wants_none rfl) rfl rfl (fun L u W hG hdep => (show u 32 = .bool true from hG 32 (hdep 32 (by kernel_rfl)))) (fun L u W hG hdep => (show u 36 = .bool true from hG 36 (hdep 36 (by kernel_rfl))))
    · exact step_pureO hs (wants_none rfl) rfl fun L u W hG hdep => ⟨_, run_move rfl, (show u 37 = .bool true from hG 37 (hdep 37 (by kernel_rfl)))⟩
    · refine step_callO hs (wants_on 38 rfl rfl (by kernel_rfl) (fun _ => rfl)) rfl fun L u W hJ hG hdep K hK => ?_
      go_simp
      go_at_call 12
      (with_reducible refine (law5awake_any _).mono ?_); rintro e w1 ⟨rfl, hb⟩
      have hk := hK.out _ _ rfl hb
      exact hk
    · exact step_pick true hs (wants_none rfl) rfl rfl (fun L u W hG hdep => (show u 38 = .bool true from hG 38 (hdep 38 (by kernel_rfl)))) (fun L u W hG hdep => (show u 39 = .bool true from hG 39 (hdep 39 (by kernel_rfl))))
    · exact step_pureO hs (wants_none rfl) rfl fun L u W hG hdep => ⟨_, run_assign rfl, (show u 40 = .bool true from hG 40 (hdep 40 (by kernel_rfl)))⟩
  intro L8 u8 W8 hall hJ hG
  have hb := hJ.all rfl
  have hbel := Below.call hbel hb
  have hm7 := hm7.later hb
  have hm8 := hm8.later hb
  have hm9 := hm9.later hb
  have hs7_1 := hs7_1.later hb
  have ht7 := there_later ht7 hb
  have ht8 := there_later ht8 hb
  have ht9 := there_later ht9 hb
  have hs7_1t := there_later hs7_1t hb
  obtain ⟨gB5, nB5, cB5, rB5, eB5, hgB5, hB5, hlB5, hcB5, hmB5⟩ := (show ∃ g n cap r, u8 5 = .slice (some ⟨g, 0, none⟩) n cap ∧ W7.heap.size ≤ g ∧ Blk W8 g ((leB 32 x.val).map bV ++ r) 5 ∧ (leB 32 x.val).length = n ∧ n ≤ cap ∧ cap ≤ maxLen from hG 5 (by simp))
  have hgB5 : w.heap.size ≤ gB5 := by have := hbel0.size; omega
  obtain ⟨gB8, nB8, cB8, rB8, eB8, hgB8, hB8, hlB8, hcB8, hmB8⟩ := (show ∃ g n cap r, u8 8 = .slice (some ⟨g, 0, none⟩) n cap ∧ W7.heap.size ≤ g ∧ Blk W8 g ((leB 32 x.val).map bV ++ r) 5 ∧ (leB 32 x.val).length = n ∧ n ≤ cap ∧ cap ≤ maxLen from hG 8 (by simp))
  have hgB8 : w.heap.size ≤ gB8 := by have := hbel0.size; omega
  obtain ⟨gB17, nB17, cB17, rB17, eB17, hgB17, hB17, hlB17, hcB17, hmB17⟩ := (show ∃ g n cap r, u8 17 = .slice (some ⟨g, 0, none⟩) n cap ∧ W7.heap.size ≤ g ∧ Blk W8 g ((leB 32 x.val).map bV ++ r) 5 ∧ (leB 32 x.val).length = n ∧ n ≤ cap ∧ cap ≤ maxLen from hG 17 (by simp))
  have hgB17 : w.heap.size ≤ gB17 := by have := hbel0.size; omega
  obtain ⟨gB20, nB20, cB20, rB20, eB20, hgB20, hB20, hlB20, hcB20, hmB20⟩ := (show ∃ g n cap r, u8 20 = .slice (some ⟨g, 0, none⟩) n cap ∧ W7.heap.size ≤ g ∧ Blk W8 g ((leB 32 y.val).map bV ++ r) 5 ∧ (leB 32 y.val).length = n ∧ n ≤ cap ∧ cap ≤ maxLen from hG 20 (by simp))
  have hgB20 : w.heap.size ≤ gB20 := by have := hbel0.size; omega
  obtain ⟨gB28, nB28, cB28, rB28, eB28, hgB28, hB28, hlB28, hcB28, hmB28⟩ := (show ∃ g n cap r, u8 28 = .slice (some ⟨g, 0, none⟩) n cap ∧ W7.heap.size ≤ g ∧ Blk W8 g ((leB 32 x.val).map bV ++ r) 5 ∧ (leB 32 x.val).length = n ∧ n ≤ cap ∧ cap ≤ maxLen from hG 28 (by simp))
  have hgB28 : w.heap.size ≤ gB28 := by have := hbel0.size; omega
  obtain ⟨gB34, nB34, cB34, rB34, eB34, hgB34, hB34, hlB34, hcB34, hmB34⟩ := (show ∃ g n cap r, u8 34 = .slice (some ⟨g, 0, none⟩) n cap ∧ W7.heap.size ≤ g ∧ Blk W8 g ((leB 32 x.val).map bV ++ r) 5 ∧ (leB 32 x.val).length = n ∧ n ≤ cap ∧ cap ≤ maxLen from hG 34 (by simp))
  have hgB34 : w.heap.size ≤ gB34 := by have := hbel0.size; omega
  have hv27 := (show IsFs rE (u8 0) [x] from hG 0 (by simp))
  have hv28 := (show IsFs rE (u8 1) [x] from hG 1 (by simp))
  have hv31 := (show IsFs rE (u8 4) [x] from hG 4 (by simp))
  have hv34 := (show IsFs rE (u8 7) [x] from hG 7 (by simp))
  have hv40 := (show IsFs rE (u8 13) [x] from hG 13 (by simp))
  have hv41 := (show IsFs rE (u8 14) [y] from hG 14 (by simp))
  have hv43 := (show IsFs rE (u8 16) [x] from hG 16 (by simp))
  have hv46 := (show IsFs rE (u8 19) [y] from hG 19 (by simp))
  have hv53 := (show IsFs rE (u8 26) [x] from hG 26 (by simp))
  have hv54 := (show IsFs rE (u8 27) [x] from hG 27 (by simp))
  have hv56 := (show IsFs rE (u8 29) [x] from hG 29 (by simp))
  have hv60 := (show IsFs rE (u8 33) [x] from hG 33 (by simp))
  have HC29 := Lib.hid (show u8 2 = .bool true from hG 2 (by simp))
  have HC30 := Lib.hid (show u8 3 = .bool true from hG 3 (by simp))
  have HC33 := Lib.hid (show u8 6 = (.string (bs (leB 32 x.val))) from hG 6 (by simp))
  have HC36 := Lib.hid (show u8 9 = (.string (bs (leB 32 x.val))) from hG 9 (by simp))
  have HC37 := Lib.hid (show u8 10 = .bool true from hG 10 (by simp))
  have HC38 := Lib.hid (show u8 11 = .bool true from hG 11 (by simp))
  have HC39 := Lib.hid (show u8 12 = .bool true from hG 12 (by simp))
  have HC42 := Lib.hid (show u8 15 = .bool q from hG 15 (by simp))
  have HC45 := Lib.hid (show u8 18 = (.string (bs (leB 32 x.val))) from hG 18 (by simp))
  have HC48 := Lib.hid (show u8 21 = (.string (bs (leB 32 y.val))) from hG 21 (by simp))
  have HC49 := Lib.hid (show u8 22 = .bool q from hG 22 (by simp))
  have HC50 := Lib.hid (show u8 23 = .bool true from hG 23 (by simp))
  have HC51 := Lib.hid (show u8 24 = .bool true from hG 24 (by simp))
  have HC52 := Lib.hid (show u8 25 = .bool true from hG 25 (by simp))
  have HC57 := Lib.hid (show u8 30 = .bool true from hG 30 (by simp))
  have HC58 := Lib.hid (show u8 31 = .bool true from hG 31 (by simp))
  have HC59 := Lib.hid (show u8 32 = .bool true from hG 32 (by simp))
  have HC62 := Lib.hid (show u8 35 = .int .i64 32 from hG 35 (by simp))
  have HC63 := Lib.hid (show u8 36 = .bool true from hG 36 (by simp))
  have HC64 := Lib.hid (show u8 37 = .bool true from hG 37 (by simp))
  have HC65 := Lib.hid (show u8 38 = .bool true from hG 38 (by simp))
  have HC66 := Lib.hid (show u8 39 = .bool true from hG 39 (by simp))
  have HC67 := Lib.hid (show u8 40 = .bool true from hG 40 (by simp))
  have HC6 := Lib.hid (show u8 41 = .bool true from hG 41 (by simp))
  have hbel0 := hbel
  clear hJ hG hall hb
  rw [HC6.out]
  go_wp2
  go_ret
  exact ⟨rfl, hbel⟩
set_option maxHeartbeats 4000000 in
theorem fieldPicks_no {a b : Option Addr} {n m capa capb : Nat} {la lb : List UInt8} {q : Bool} {x y : F} (hx : feF la = x) (hy : feF lb = y) (hq : decide (x = y) = q) (w : World) (ha : RdB w a n capa la) (hb' : RdB w b m capb lb) (hn : n ≤ 100) (hm : m ≤ 100) :
    Calls Try.prog 3 #[.slice a n capa, .slice b m capb, .bool false] w fun e w' => e = .returned (.bool true) ∧ Below w.heap.size w w' := by
  have HN := Lib.hid hn; have HM := Lib.hid hm; have HX := Lib.hid hx; have HY := Lib.hid hy; have HQ := Lib.hid hq
  clear hn hm hx hy hq
  go_enter Try.func3, Try.ntmps3
  go_upto_region 3 with ((go_at_call 11; go_must (refine (few_yes HN.out HM.out _).mono ?_; rintro e w1 ⟨rfl, hbel⟩)))
  have hbel0 := hbel
  clear HN HM
  refine wp_region_turn (fun u => (.slice a n capa :: .slice b m capb :: .bool false :: undef :: undef :: undef :: .bool false :: u 4 :: u 5 :: undef :: undef :: .slice a n capa :: .slice b m capb :: .bool true :: .bool false :: undef :: u 0 :: u 1 :: u 2 :: u 3 :: undef :: undef :: undef :: undef :: undef :: undef :: undef :: undef :: undef :: undef :: undef :: undef :: undef :: undef :: undef :: undef :: undef :: undef :: undef :: undef :: undef :: undef :: undef :: undef :: undef :: undef :: undef :: undef :: undef :: undef :: undef :: undef :: undef :: undef :: undef :: undef :: undef :: undef :: undef :: undef :: undef :: undef :: undef :: undef :: undef :: undef :: undef :: undef :: []).toArray) (Holds [.oth (fun v => v = .slice a n capa), .val rE [x], .oth (fun v => v = .slice b m capb), .val rE [y], .new 5, .new 5, .st 4 rE [x], .st 5 rE [y]] w1) (Keep [.oth (fun v => v = .slice a n capa), .val rE [x], .oth (fun v => v = .slice b m capb), .val rE [y], .new 5, .new 5, .st 4 rE [x], .st 5 rE [y]] w1) (fun _ => undef) ?_ (by rfl) Keep.start (holds_soft (by kernel_rfl)) ?_ ?_
  · intro u i v h
    rcases i with _ | _ | _ | _ | _ | _ | _ | _ | i
    all_goals first | (simp [Act.put, putV]; done) | (exfalso; simp at h; omega)
  · intro hs
    refine ⟨?_, ?_, ?_, ?_, ?_, ?_, ?_, ?_, trivial⟩
    · exact step_pureO hs (wants_none rfl) rfl fun L u W hG hdep => ⟨_, run_move rfl, rfl⟩
    · refine step_call hs (wants_none rfl) rfl fun L u W hJ hG hL hdep K hK => ?_
      have x0 := (show u 0 = .slice a n capa from hG 0 (hdep 0 (by kernel_rfl)))
      go_simp
      go_at_call 13
      (with_reducible refine (cOf' HX.out ((ha.below hbel).below (hJ.all rfl))).mono ?_); rintro e w1 ⟨r, rfl, hr, hb⟩
      have hk := hK.out _ _ hr hb
      simp only [x0] at hk
      exact hk
    · exact step_pureO hs (wants_none rfl) rfl fun L u W hG hdep => ⟨_, run_move rfl, rfl⟩
    · refine step_call hs (wants_none rfl) rfl fun L u W hJ hG hL hdep K hK => ?_
      have x0 := (show u 2 = .slice b m capb from hG 2 (hdep 2 (by kernel_rfl)))
      go_simp
      go_at_call 13
      (with_reducible refine (cOf' HY.out ((hb'.below hbel).below (hJ.all rfl))).mono ?_); rintro e w1 ⟨r, rfl, hr, hb⟩
      have hk := hK.out _ _ hr hb
      simp only [x0] at hk
      exact hk
    · exact step_alloc hs (wants_none rfl) rfl rfl (by omega) rfl allocE
    · exact step_alloc hs (wants_none rfl) rfl rfl (by omega) rfl allocE
    · exact step_store 4 hs (by kernel_rfl) (wants_none rfl) rfl rfl rfl (by kernel_rfl) (by kernel_rfl) (by kernel_rfl) (by kernel_rfl) (fun _ => rfl) (gives_op 1 rfl (by kernel_rfl) (fun _ => rfl)) tyE rfl
    · exact step_store 5 hs (by kernel_rfl) (wants_none rfl) rfl rfl rfl (by kernel_rfl) (by kernel_rfl) (by kernel_rfl) (by kernel_rfl) (fun _ => rfl) (gives_op 3 rfl (by kernel_rfl) (fun _ => rfl)) tyE rfl
  intro L3 u3 W3 hall hJ hG
  obtain ⟨q7, e7, hq7, _, ht7⟩ := (show ∃ g, u3 4 = .pointer (some ⟨g, 0, none⟩) ∧ w1.heap.size ≤ g ∧ 0 < 5 ∧ W3.there g 0 5 from hG 4 (by simp))
  have hm7 : HasFs rE W3 q7 0 [x] := by
    obtain ⟨g, e, _, h⟩ := (show ∃ g, u3 4 = .pointer (some ⟨g, 0, none⟩) ∧ w1.heap.size ≤ g ∧ HasFs rE W3 g 0 [x] from hG 6 (by simp))
    rw [e7] at e; cases e; exact h
  have hq7 : w.heap.size ≤ q7 := by have := hbel0.size; omega
  have E7 := Lib.hid e7; clear e7
  obtain ⟨q8, e8, hq8, _, ht8⟩ := (show ∃ g, u3 5 = .pointer (some ⟨g, 0, none⟩) ∧ w1.heap.size ≤ g ∧ 0 < 5 ∧ W3.there g 0 5 from hG 5 (by simp))
  have hm8 : HasFs rE W3 q8 0 [y] := by
    obtain ⟨g, e, _, h⟩ := (show ∃ g, u3 5 = .pointer (some ⟨g, 0, none⟩) ∧ w1.heap.size ≤ g ∧ HasFs rE W3 g 0 [y] from hG 7 (by simp))
    rw [e8] at e; cases e; exact h
  have hq8 : w.heap.size ≤ q8 := by have := hbel0.size; omega
  have E8 := Lib.hid e8; clear e8
  have hb := hJ.all rfl
  have hbel := Below.call hbel hb
  have HN7_8 := Lib.hid (show q7 ≠ q8 from fun e => hJ.apart 4 5 _ (by omega) (hall _ (by simp)) (hall _ (by simp)) rfl rfl (E7.out.trans (by rw [e])) E8.out)
  have hv17 := (show IsFs rE (u3 1) [x] from hG 1 (by simp))
  have hv19 := (show IsFs rE (u3 3) [y] from hG 3 (by simp))
  have HC16 := Lib.hid (show u3 0 = .slice a n capa from hG 0 (by simp))
  have HC18 := Lib.hid (show u3 2 = .slice b m capb from hG 2 (by simp))
  have hbel0 := hbel
  clear hJ hG hall hb
  go_upto_region 4 with fail
  refine wp_region_turn (fun u => (.slice a n capa :: .slice b m capb :: .bool false :: undef :: undef :: undef :: .bool false :: u3 4 :: u3 5 :: u 4 :: undef :: .slice a n capa :: .slice b m capb :: .bool true :: .bool false :: undef :: u3 0 :: u3 1 :: u3 2 :: u3 3 :: u 0 :: u 1 :: u 2 :: u 3 :: undef :: undef :: undef :: undef :: undef :: undef :: undef :: undef :: undef :: undef :: undef :: undef :: undef :: undef :: undef :: undef :: undef :: undef :: undef :: undef :: undef :: undef :: undef :: undef :: undef :: undef :: undef :: undef :: undef :: undef :: undef :: undef :: undef :: undef :: undef :: undef :: undef :: undef :: undef :: undef :: undef :: undef :: undef :: undef :: []).toArray) (Holds [.oth (fun v => v = .bool false), .val rE [x], .val rE [y], .val rE [y], .new 5, .st 4 rE [y]] W3) (Keep [.oth (fun v => v = .bool false), .val rE [x], .val rE [y], .val rE [y], .new 5, .st 4 rE [y]] W3) (fun _ => undef) ?_ (by rfl) Keep.start (holds_soft (by kernel_rfl)) ?_ ?_
  · intro u i v h
    rcases i with _ | _ | _ | _ | _ | _ | i
    all_goals first | (simp [Act.put, putV]; done) | (exfalso; simp at h; omega)
  · intro hs
    refine ⟨?_, ?_, ?_, ?_, ?_, ?_, trivial⟩
    · exact step_pureO hs (wants_none rfl) rfl fun L u W hG hdep => ⟨_, run_move rfl, rfl⟩
    · exact step_load q7 0 hs (wants_none rfl) rfl rfl tyE (fun _ => E7.out) hm7.lt hm7 (noSto_apart (by kernel_rfl))
    · exact step_load q8 0 hs (wants_none rfl) rfl rfl tyE (fun _ => E8.out) hm8.lt hm8 (noSto_apart (by kernel_rfl))
    · refine step_call hs (wants_none rfl) rfl fun L u W hJ hG hL hdep K hK => ?_
      have a0 := (show IsFs rE (u 1) [x] from hG 1 (hdep 1 (by kernel_rfl)))
      have a1 := (show IsFs rE (u 2) [y] from hG 2 (hdep 2 (by kernel_rfl)))
      have x0 := (show u 0 = .bool false from hG 0 (hdep 0 (by kernel_rfl)))
      go_simp
      go_at_call 14
      (with_reducible refine (cPick (b := false) rfl a0 a1 _).mono ?_); rintro e w1 ⟨r, rfl, hr, hb⟩
      have hk := hK.out _ _ hr hb
      simp only [x0] at hk
      exact hk
    · exact step_alloc hs (wants_none rfl) rfl rfl (by omega) rfl allocE
    · exact step_store 4 hs (by kernel_rfl) (wants_none rfl) rfl rfl rfl (by kernel_rfl) (by kernel_rfl) (by kernel_rfl) (by kernel_rfl) (fun _ => rfl) (gives_op 3 rfl (by kernel_rfl) (fun _ => rfl)) tyE rfl
  intro L4 u4 W4 hall hJ hG
  obtain ⟨q9, e9, hq9, _, ht9⟩ := (show ∃ g, u4 4 = .pointer (some ⟨g, 0, none⟩) ∧ W3.heap.size ≤ g ∧ 0 < 5 ∧ W4.there g 0 5 from hG 4 (by simp))
  have hm9 : HasFs rE W4 q9 0 [y] := by
    obtain ⟨g, e, _, h⟩ := (show ∃ g, u4 4 = .pointer (some ⟨g, 0, none⟩) ∧ W3.heap.size ≤ g ∧ HasFs rE W4 g 0 [y] from hG 5 (by simp))
    rw [e9] at e; cases e; exact h
  have HD9_q7 := Lib.hid (show q7 ≠ q9 by have := there_lt ht7 (by omega); omega)
  have HD9_q8 := Lib.hid (show q8 ≠ q9 by have := there_lt ht8 (by omega); omega)
  have hq9 : w.heap.size ≤ q9 := by have := hbel0.size; omega
  have E9 := Lib.hid e9; clear e9
  have hb := hJ.all rfl
  have hbel := Below.call hbel hb
  have hm7 := hm7.later hb
  have hm8 := hm8.later hb
  have ht7 := there_later ht7 hb
  have ht8 := there_later ht8 hb
  have hv21 := (show IsFs rE (u4 1) [x] from hG 1 (by simp))
  have hv22 := (show IsFs rE (u4 2) [y] from hG 2 (by simp))
  have hv23 := (show IsFs rE (u4 3) [y] from hG 3 (by simp))
  have HC20 := Lib.hid (show u4 0 = .bool false from hG 0 (by simp))
  have hbel0 := hbel
  clear hJ hG hall hb
  go_upto_region 5 with fail
  refine wp_region_turn (fun u => (.slice a n capa :: .slice b m capb :: .bool false :: undef :: undef :: undef :: .bool false :: u3 4 :: u3 5 :: u4 4 :: u 1 :: .slice a n capa :: .slice b m capb :: .bool true :: .bool false :: undef :: u3 0 :: u3 1 :: u3 2 :: u3 3 :: u4 0 :: u4 1 :: u4 2 :: u4 3 :: u 0 :: undef :: undef :: undef :: undef :: undef :: undef :: undef :: undef :: undef :: undef :: undef :: undef :: undef :: undef :: undef :: undef :: undef :: undef :: undef :: undef :: undef :: undef :: undef :: undef :: undef :: undef :: undef :: undef :: undef :: undef :: undef :: undef :: undef :: undef :: undef :: undef :: undef :: undef :: undef :: undef :: undef :: undef :: undef :: []).toArray) (Holds [.val rE [y], .new 5, .st 1 rE [y]] W4) (Keep [.val rE [y], .new 5, .st 1 rE [y]] W4) (fun _ => undef) ?_ (by rfl) Keep.start (holds_soft (by kernel_rfl)) ?_ ?_
  · intro u i v h
    rcases i with _ | _ | _ | i
    all_goals first | (simp [Act.put, putV]; done) | (exfalso; simp at h; omega)
  · intro hs
    refine ⟨?_, ?_, ?_, trivial⟩
    · exact step_load q8 0 hs (wants_none rfl) rfl rfl tyE (fun _ => E8.out) hm8.lt hm8 (noSto_apart (by kernel_rfl))
    · exact step_alloc hs (wants_none rfl) rfl rfl (by omega) rfl allocE
    · exact step_store 1 hs (by kernel_rfl) (wants_none rfl) rfl rfl rfl (by kernel_rfl) (by kernel_rfl) (by kernel_rfl) (by kernel_rfl) (fun _ => rfl) (gives_op 0 rfl (by kernel_rfl) (fun _ => rfl)) tyE rfl
  intro L5 u5 W5 hall hJ hG
  obtain ⟨q10, e10, hq10, _, ht10⟩ := (show ∃ g, u5 1 = .pointer (some ⟨g, 0, none⟩) ∧ W4.heap.size ≤ g ∧ 0 < 5 ∧ W5.there g 0 5 from hG 1 (by simp))
  have hm10 : HasFs rE W5 q10 0 [y] := by
    obtain ⟨g, e, _, h⟩ := (show ∃ g, u5 1 = .pointer (some ⟨g, 0, none⟩) ∧ W4.heap.size ≤ g ∧ HasFs rE W5 g 0 [y] from hG 2 (by simp))
    rw [e10] at e; cases e; exact h
  have HD10_q7 := Lib.hid (show q7 ≠ q10 by have := there_lt ht7 (by omega); omega)
  have HD10_q8 := Lib.hid (show q8 ≠ q10 by have := there_lt ht8 (by omega); omega)
  have HD10_q9 := Lib.hid (show q9 ≠ q10 by have := there_lt ht9 (by omega); omega)
  have hq10 : w.heap.size ≤ q10 := by have := hbel0.size; omega
  have E10 := Lib.hid e10; clear e10
  have hb := hJ.all rfl
  have hbel := Below.call hbel hb
  have hm7 := hm7.later hb
  have hm8 := hm8.later hb
  have hm9 := hm9.later hb
  have ht7 := there_later ht7 hb
  have ht8 := there_later ht8 hb
  have ht9 := there_later ht9 hb
  have hv24 := (show IsFs rE (u5 0) [y] from hG 0 (by simp))
  have hbel0 := hbel
  clear hJ hG hall hb
  go_upto_region 6 with fail
  refine wp_region_turn (fun u => (.slice a n capa :: .slice b m capb :: .bool false :: undef :: undef :: undef :: .bool false :: u3 4 :: u3 5 :: u4 4 :: u5 1 :: .slice a n capa :: .slice b m capb :: .bool true :: .bool false :: undef :: u3 0 :: u3 1 :: u3 2 :: u3 3 :: u4 0 :: u4 1 :: u4 2 :: u4 3 :: u5 0 :: u 0 :: undef :: undef :: undef :: undef :: undef :: undef :: undef :: undef :: undef :: undef :: undef :: undef :: undef :: undef :: undef :: undef :: undef :: undef :: undef :: undef :: undef :: undef :: undef :: undef :: undef :: undef :: undef :: undef :: undef :: undef :: undef :: undef :: undef :: undef :: undef :: undef :: undef :: undef :: undef :: undef :: undef :: undef :: []).toArray) (Holds [.oth (fun v => v = .bool false)] W5) (Keep [.oth (fun v => v = .bool false)] W5) (fun _ => undef) ?_ (by rfl) Keep.start (holds_soft (by kernel_rfl)) ?_ ?_
  · intro u i v h
    rcases i with _ | i
    all_goals first | (simp [Act.put, putV]; done) | (exfalso; simp at h; omega)
  · intro hs
    refine ⟨?_, trivial⟩
    · exact step_pureO hs (wants_none rfl) rfl fun L u W hG hdep => ⟨_, run_move rfl, rfl⟩
  intro L6 u6 W6 hall hJ hG
  have hb := hJ.all rfl
  have hbel := Below.call hbel hb
  have hm7 := hm7.later hb
  have hm8 := hm8.later hb
  have hm9 := hm9.later hb
  have hm10 := hm10.later hb
  have ht7 := there_later ht7 hb
  have ht8 := there_later ht8 hb
  have ht9 := there_later ht9 hb
  have ht10 := there_later ht10 hb
  have HC25 := Lib.hid (show u6 0 = .bool false from hG 0 (by simp))
  have hbel0 := hbel
  clear hJ hG hall hb
  have hx : u6 0 = .bool false := HC25.out
  go_wp2_with fail
  rw [hx]
  clear hx
  go_upto_region 8 with fail
  refine wp_region_mid (fun u => (.slice a n capa :: .slice b m capb :: .bool false :: undef :: undef :: undef :: u 41 :: u3 4 :: u3 5 :: u4 4 :: u5 1 :: .slice a n capa :: .slice b m capb :: .bool true :: .bool false :: undef :: u3 0 :: u3 1 :: u3 2 :: u3 3 :: u4 0 :: u4 1 :: u4 2 :: u4 3 :: u5 0 :: .bool false :: undef :: u 0 :: u 1 :: u 2 :: u 3 :: u 4 :: u 5 :: u 6 :: u 7 :: u 8 :: u 9 :: u 10 :: u 11 :: u 12 :: u 13 :: u 14 :: u 15 :: u 16 :: u 17 :: u 18 :: u 19 :: u 20 :: u 21 :: u 22 :: u 23 :: u 24 :: u 25 :: u 26 :: u 27 :: u 28 :: u 29 :: u 30 :: u 31 :: u 32 :: u 33 :: u 34 :: u 35 :: u 36 :: u 37 :: u 38 :: u 39 :: u 40 :: []).toArray) (Holds [.val rE [y], .val rE [y], .oth (fun v => v = .bool true), .oth (fun v => v = .bool true), .val rE [y], .rd (leB 32 y.val), .oth (fun v => v = (.string (bs (leB 32 y.val)))), .val rE [y], .rd (leB 32 y.val), .oth (fun v => v = (.string (bs (leB 32 y.val)))), .oth (fun v => v = .bool true), .oth (fun v => v = .bool true), .oth (fun v => v = .bool true), .val rE [x], .val rE [y], .oth (fun v => v = .bool q), .val rE [x], .rd (leB 32 x.val), .oth (fun v => v = (.string (bs (leB 32 x.val)))), .val rE [y], .rd (leB 32 y.val), .oth (fun v => v = (.string (bs (leB 32 y.val)))), .oth (fun v => v = .bool q), .oth (fun v => v = .bool true), .oth (fun v => v = .bool true), .oth (fun v => v = .bool true), .val rE [x], .val rE [x], .rd (leB 32 x.val), .val rE [x], .oth (fun v => v = .bool true), .oth (fun v => v = .bool true), .oth (fun v => v = .bool true), .val rE [x], .rd (leB 32 x.val), .oth (fun v => v = .int .i64 32), .oth (fun v => v = .bool true), .oth (fun v => v = .bool true), .oth (fun v => v = .bool true), .oth (fun v => v = .bool true), .oth (fun v => v = .bool true), .oth (fun v => v = .bool true)] W6) (Keep [.val rE [y], .val rE [y], .oth (fun v => v = .bool true), .oth (fun v => v = .bool true), .val rE [y], .rd (leB 32 y.val), .oth (fun v => v = (.string (bs (leB 32 y.val)))), .val rE [y], .rd (leB 32 y.val), .oth (fun v => v = (.string (bs (leB 32 y.val)))), .oth (fun v => v = .bool true), .oth (fun v => v = .bool true), .oth (fun v => v = .bool true), .val rE [x], .val rE [y], .oth (fun v => v = .bool q), .val rE [x], .rd (leB 32 x.val), .oth (fun v => v = (.string (bs (leB 32 x.val)))), .val rE [y], .rd (leB 32 y.val), .oth (fun v => v = (.string (bs (leB 32 y.val)))), .oth (fun v => v = .bool q), .oth (fun v => v = .bool true), .oth (fun v => v = .bool true), .oth (fun v => v = .bool true), .val rE [x], .val rE [x], .rd (leB 32 x.val), .val rE [x], .oth (fun v => v = .bool true), .oth (fun v => v = .bool true), .oth (fun v => v = .bool true), .val rE [x], .rd (leB 32 x.val), .oth (fun v => v = .int .i64 32), .oth (fun v => v = .bool true), .oth (fun v => v = .bool true), .oth (fun v => v = .bool true), .oth (fun v => v = .bool true), .oth (fun v => v = .bool true), .oth (fun v => v = .bool true)] W6) (fun k => ([undef, undef, undef, undef, undef, undef, undef, undef, undef, undef, undef, undef, undef, undef, undef, undef, undef, undef, undef, undef, undef, undef, undef, undef, undef, undef, undef, undef, undef, undef, undef, undef, undef, undef, undef, undef, undef, undef, undef, undef, undef, .bool false] : List Value).getD k undef) (by kernel_rfl) (by kernel_rfl) ?_ (by rfl) Keep.drew (holds_soft (by kernel_rfl)) ?_ ?_
  · intro u i v h
    rcases i with _ | _ | _ | _ | _ | _ | _ | _ | _ | _ | _ | _ | _ | _ | _ | _ | _ | _ | _ | _ | _ | _ | _ | _ | _ | _ | _ | _ | _ | _ | _ | _ | _ | _ | _ | _ | _ | _ | _ | _ | _ | _ | i
    all_goals first | (simp [Act.put, putV]; done) | (exfalso; simp at h; omega)
  · intro hs
    refine ⟨?_, ?_, ?_, ?_, ?_, ?_, ?_, ?_, ?_, ?_, ?_, ?_, ?_, ?_, ?_, ?_, ?_, ?_, ?_, ?_, ?_, ?_, ?_, ?_, ?_, ?_, ?_, ?_, ?_, ?_, ?_, ?_, ?_, ?_, ?_, ?_, ?_, ?_, ?_, ?_, ?_, ?_, trivial⟩
    · exact step_load q9 0 hs (wants_none rfl) rfl rfl tyE (fun _ => E9.out) hm9.lt hm9 (noSto_apart (by kernel_rfl))
    · exact step_load q10 0 hs (wants_none rfl) rfl rfl tyE (fun _ => E10.out) hm10.lt hm10 (noSto_apart (by kernel_rfl))
    · refine step_callO hs (wants_none rfl) rfl fun L u W hJ hG hdep K hK => ?_
      have a0 := (show IsFs rE (u 0) [y] from hG 0 (hdep 0 (by kernel_rfl)))
      have a1 := (show IsFs rE (u 1) [y] from hG 1 (hdep 1 (by kernel_rfl)))
      go_simp
      go_at_call 15
      (with_reducible refine (cSame (b := true) (decide_eq_true rfl) a0 a1 _).mono ?_); rintro e w1 ⟨rfl, hb⟩
      have hk := hK.out _ _ rfl hb
      exact hk
    · exact step_pureO hs (wants_none rfl) rfl fun L u W hG hdep => ⟨_, run_move rfl, (show u 2 = .bool true from hG 2 (hdep 2 (by kernel_rfl)))⟩
    · exact step_load q9 0 hs (wants_on 3 rfl rfl (by kernel_rfl) (fun _ => rfl)) rfl rfl tyE (fun _ => E9.out) hm9.lt hm9 (noSto_apart (by kernel_rfl))
    · refine step_callB hs (wants_on 3 rfl rfl (by kernel_rfl) (fun _ => rfl)) rfl fun L u W hJ hG hdep K hK => ?_
      have a0 := (show IsFs rE (u 4) [y] from hG 4 (hdep 4 (by kernel_rfl)))
      go_simp
      go_at_call 16
      (with_reducible refine (cBytes a0 _).mono ?_); rintro e w1 ⟨g, n, cap, r, rfl, h1, h2, h3, h4, h5, hb⟩
      have hk := hK.out _ _ _ _ _ h1 h2 h3 h4 h5 hb
      exact hk
    · exact step_conv 5 hs (wants_on 3 rfl rfl (by kernel_rfl) (fun _ => rfl)) rfl rfl rfl (by kernel_rfl) (fun _ => rfl)
    · exact step_load q10 0 hs (wants_on 3 rfl rfl (by kernel_rfl) (fun _ => rfl)) rfl rfl tyE (fun _ => E10.out) hm10.lt hm10 (noSto_apart (by kernel_rfl))
    · refine step_callB hs (wants_on 3 rfl rfl (by kernel_rfl) (fun _ => rfl)) rfl fun L u W hJ hG hdep K hK => ?_
      have a0 := (show IsFs rE (u 7) [y] from hG 7 (hdep 7 (by kernel_rfl)))
      go_simp
      go_at_call 16
      (with_reducible refine (cBytes a0 _).mono ?_); rintro e w1 ⟨g, n, cap, r, rfl, h1, h2, h3, h4, h5, hb⟩
      have hk := hK.out _ _ _ _ _ h1 h2 h3 h4 h5 hb
      exact hk
    · exact step_conv 8 hs (wants_on 3 rfl rfl (by kernel_rfl) (fun _ => rfl)) rfl rfl rfl (by kernel_rfl) (fun _ => rfl)
    · exact step_pureO hs (wants_on 3 rfl rfl (by kernel_rfl) (fun _ => rfl)) rfl fun L u W hG hdep => ⟨_, run_eqlS rfl (show u 6 = (.string (bs (leB 32 y.val))) from hG 6 (hdep 6 (by kernel_rfl))) (show u 9 = (.string (bs (leB 32 y.val))) from hG 9 (hdep 9 (by kernel_rfl))), by simp⟩
    · exact step_pick true hs (wants_none rfl) rfl rfl (fun L u W hG hdep => (show u 3 = .bool true from hG 3 (hdep 3 (by kernel_rfl)))) (fun L u W hG hdep => (show u 10 = .bool true from hG 10 (hdep 10 (by kernel_rfl))))
    · exact step_pureO hs (wants_none rfl) rfl fun L u W hG hdep => ⟨_, run_move rfl, (show u 11 = .bool true from hG 11 (hdep 11 (by kernel_rfl)))⟩
    · exact step_load q7 0 hs (wants_on 12 rfl rfl (by kernel_rfl) (fun _ => rfl)) rfl rfl tyE (fun _ => E7.out) hm7.lt hm7 (noSto_apart (by kernel_rfl))
    · exact step_load q8 0 hs (wants_on 12 rfl rfl (by kernel_rfl) (fun _ => rfl)) rfl rfl tyE (fun _ => E8.out) hm8.lt hm8 (noSto_apart (by kernel_rfl))
    · refine step_callO hs (wants_on 12 rfl rfl (by kernel_rfl) (fun _ => rfl)) rfl fun L u W hJ hG hdep K hK => ?_
      have a0 := (show IsFs rE (u 13) [x] from hG 13 (hdep 13 (by kernel_rfl)))
      have a1 := (show IsFs rE (u 14) [y] from hG 14 (hdep 14 (by kernel_rfl)))
      go_simp
      go_at_call 15
      (with_reducible refine (cSame (b := q) (HQ.out) a0 a1 _).mono ?_); rintro e w1 ⟨rfl, hb⟩
      have hk := hK.out _ _ rfl hb
      exact hk
    · exact step_load q7 0 hs (wants_on 12 rfl rfl (by kernel_rfl) (fun _ => rfl)) rfl rfl tyE (fun _ => E7.out) hm7.lt hm7 (noSto_apart (by kernel_rfl))
    · refine step_callB hs (wants_on 12 rfl rfl (by kernel_rfl) (fun _ => rfl)) rfl fun L u W hJ hG hdep K hK => ?_
      have a0 := (show IsFs rE (u 16) [x] from hG 16 (hdep 16 (by kernel_rfl)))
      go_simp
      go_at_call 16
      (with_reducible refine (cBytes a0 _).mono ?_); rintro e w1 ⟨g, n, cap, r, rfl, h1, h2, h3, h4, h5, hb⟩
      have hk := hK.out _ _ _ _ _ h1 h2 h3 h4 h5 hb
      exact hk
    · exact step_conv 17 hs (wants_on 12 rfl rfl (by kernel_rfl) (fun _ => rfl)) rfl rfl rfl (by kernel_rfl) (fun _ => rfl)
    · exact step_load q8 0 hs (wants_on 12 rfl rfl (by kernel_rfl) (fun _ => rfl)) rfl rfl tyE (fun _ => E8.out) hm8.lt hm8 (noSto_apart (by kernel_rfl))
    · refine step_callB hs (wants_on 12 rfl rfl (by kernel_rfl) (fun _ => rfl)) rfl fun L u W hJ hG hdep K hK => ?_
      have a0 := (show IsFs rE (u 19) [y] from hG 19 (hdep 19 (by kernel_rfl)))
      go_simp
      go_at_call 16
      (with_reducible refine (cBytes a0 _).mono ?_); rintro e w1 ⟨g, n, cap, r, rfl, h1, h2, h3, h4, h5, hb⟩
      have hk := hK.out _ _ _ _ _ h1 h2 h3 h4 h5 hb
      exact hk
    · exact step_conv 20 hs (wants_on 12 rfl rfl (by kernel_rfl) (fun _ => rfl)) rfl rfl rfl (by kernel_rfl) (fun _ => rfl)
    · exact step_pureO hs (wants_on 12 rfl rfl (by kernel_rfl) (fun _ => rfl)) rfl fun L u W hG hdep => ⟨_, run_eqlS rfl (show u 18 = (.string (bs (leB 32 x.val))) from hG 18 (hdep 18 (by kernel_rfl))) (show u 21 = (.string (bs (leB 32 y.val))) from hG 21 (hdep 21 (by kernel_rfl))), by rw [leB_dec HQ.out]⟩
    · refine step_pureO hs (wants_on 12 rfl rfl (by kernel_rfl) (fun _ => rfl)) rfl fun L u W hG hdep => ⟨_, ?_, rfl⟩
      have e0 := (show u 15 = .bool q from hG 15 (hdep 15 (by kernel_rfl)))
      have e1 := (show u 22 = .bool q from hG 22 (hdep 22 (by kernel_rfl)))
      go_simp
      try simp [bne]
    · exact step_pick true hs (wants_none rfl) rfl rfl (fun L u W hG hdep => (show u 12 = .bool true from hG 12 (hdep 12 (by kernel_rfl)))) (fun L u W hG hdep => (show u 23 = .bool true from hG 23 (hdep 23 (by kernel_rfl))))
    · exact step_pureO hs (wants_none rfl) rfl fun L u W hG hdep => ⟨_, run_move rfl, (show u 24 = .bool true from hG 24 (hdep 24 (by kernel_rfl)))⟩
    · exact step_load q7 0 hs (wants_on 25 rfl rfl (by kernel_rfl) (fun _ => rfl)) rfl rfl tyE (fun _ => E7.out) hm7.lt hm7 (noSto_apart (by kernel_rfl))
    · exact step_load q7 0 hs (wants_on 25 rfl rfl (by kernel_rfl) (fun _ => rfl)) rfl rfl tyE (fun _ => E7.out) hm7.lt hm7 (noSto_apart (by kernel_rfl))
    · refine step_callB hs (wants_on 25 rfl rfl (by kernel_rfl) (fun _ => rfl)) rfl fun L u W hJ hG hdep K hK => ?_
      have a0 := (show IsFs rE (u 27) [x] from hG 27 (hdep 27 (by kernel_rfl)))
      go_simp
      go_at_call 16
      (with_reducible refine (cBytes a0 _).mono ?_); rintro e w1 ⟨g, n, cap, r, rfl, h1, h2, h3, h4, h5, hb⟩
      have hk := hK.out _ _ _ _ _ h1 h2 h3 h4 h5 hb
      exact hk
    · refine step_call hs (wants_on 25 rfl rfl (by kernel_rfl) (fun _ => rfl)) rfl fun L u W hJ hG hL hdep K hK => ?_
      obtain ⟨gR0, nR0, cR0, rR0, x0, _, hR0, hRn0, hRc0, hRm0⟩ := (show ∃ g n cap r, u 28 = .slice (some ⟨g, 0, none⟩) n cap ∧ W6.heap.size ≤ g ∧ Blk W g ((leB 32 x.val).map bV ++ r) 5 ∧ (leB 32 x.val).length = n ∧ n ≤ cap ∧ cap ≤ maxLen from hG 28 (hdep 28 (by kernel_rfl)))
      have hB0 := RdB.blk rR0 hR0 hRn0 hRc0 hRm0
      go_simp
      go_at_call 13
      (with_reducible refine (cOf' (feF_leB x) hB0).mono ?_); rintro e w1 ⟨r, rfl, hr, hb⟩
      have hk := hK.out _ _ hr hb
      simp only [x0] at hk
      exact hk
    · refine step_callO hs (wants_on 25 rfl rfl (by kernel_rfl) (fun _ => rfl)) rfl fun L u W hJ hG hdep K hK => ?_
      have a0 := (show IsFs rE (u 26) [x] from hG 26 (hdep 26 (by kernel_rfl)))
      have a1 := (show IsFs rE (u 29) [x] from hG 29 (hdep 29 (by kernel_rfl)))
      go_simp
      go_at_call 15
      (with_reducible refine (cSame (b := true) (decide_eq_true rfl) a0 a1 _).mono ?_); rintro e w1 ⟨rfl, hb⟩
      have hk := hK.out _ _ rfl hb
      exact hk
    · exact step_pick true hs (wants_none rfl) rfl rfl (fun L u W hG hdep => (show u 25 = .bool true from hG 25 (hdep 25 (by kernel_rfl)))) (fun L u W hG hdep => (show u 30 = .bool true from hG 30 (hdep 30 (by kernel_rfl))))
    · exact step_pureO hs (wants_none rfl) rfl fun L u W hG hdep => ⟨_, run_move rfl, (show u 31 = .bool true from hG 31 (hdep 31 (by kernel_rfl)))⟩
    · exact step_load q7 0 hs (wants_on 32 rfl rfl (by kernel_rfl) (fun _ => rfl)) rfl rfl tyE (fun _ => E7.out) hm7.lt hm7 (noSto_apart (by kernel_rfl))
    · refine step_callB hs (wants_on 32 rfl rfl (by kernel_rfl) (fun _ => rfl)) rfl fun L u W hJ hG hdep K hK => ?_
      have a0 := (show IsFs rE (u 33) [x] from hG 33 (hdep 33 (by kernel_rfl)))
      go_simp
      go_at_call 16
      (with_reducible refine (cBytes a0 _).mono ?_); rintro e w1 ⟨g, n, cap, r, rfl, h1, h2, h3, h4, h5, hb⟩
      have hk := hK.out _ _ _ _ _ h1 h2 h3 h4 h5 hb
      exact hk
    · exact step_len 34 (by rw [leB_len]; rfl) hs (wants_on 32 rfl rfl (by kernel_rfl) (fun _ => rfl)) rfl rfl rfl (by kernel_rfl) (fun _ => rfl)
    · refine step_pureO hs (wants_on 32 rfl rfl (by kernel_rfl) (fun _ => rfl)) rfl fun L u W hG hdep => ⟨_, ?_, rfl⟩
      have e0 := (show u 35 = .int .i64 32 from hG 35 (hdep 35 (by kernel_rfl)))
      go_simp
      try simp [bne]
    · exact step_pick true hs (wants_none rfl) rfl rfl (fun L u W hG hdep => (show u 32 = .bool true from hG 32 (hdep 32 (by kernel_rfl)))) (fun L u W hG hdep => (show u 36 = .bool true from hG 36 (hdep 36 (by kernel_rfl))))
    · exact step_pureO hs (wants_none rfl) rfl fun L u W hG hdep => ⟨_, run_move rfl, (show u 37 = .bool true from hG 37 (hdep 37 (by kernel_rfl)))⟩
    · refine step_callO hs (wants_on 38 rfl rfl (by kernel_rfl) (fun _ => rfl)) rfl fun L u W hJ hG hdep K hK => ?_
      go_simp
      go_at_call 12
      (with_reducible refine (law5awake_any _).mono ?_); rintro e w1 ⟨rfl, hb⟩
      have hk := hK.out _ _ rfl hb
      exact hk
    · exact step_pick true hs (wants_none rfl) rfl rfl (fun L u W hG hdep => (show u 38 = .bool true from hG 38 (hdep 38 (by kernel_rfl)))) (fun L u W hG hdep => (show u 39 = .bool true from hG 39 (hdep 39 (by kernel_rfl))))
    · exact step_pureO hs (wants_none rfl) rfl fun L u W hG hdep => ⟨_, run_assign rfl, (show u 40 = .bool true from hG 40 (hdep 40 (by kernel_rfl)))⟩
  intro L8 u8 W8 hall hJ hG
  have hb := hJ.all rfl
  have hbel := Below.call hbel hb
  have hm7 := hm7.later hb
  have hm8 := hm8.later hb
  have hm9 := hm9.later hb
  have hm10 := hm10.later hb
  have ht7 := there_later ht7 hb
  have ht8 := there_later ht8 hb
  have ht9 := there_later ht9 hb
  have ht10 := there_later ht10 hb
  obtain ⟨gB5, nB5, cB5, rB5, eB5, hgB5, hB5, hlB5, hcB5, hmB5⟩ := (show ∃ g n cap r, u8 5 = .slice (some ⟨g, 0, none⟩) n cap ∧ W6.heap.size ≤ g ∧ Blk W8 g ((leB 32 y.val).map bV ++ r) 5 ∧ (leB 32 y.val).length = n ∧ n ≤ cap ∧ cap ≤ maxLen from hG 5 (by simp))
  have hgB5 : w.heap.size ≤ gB5 := by have := hbel0.size; omega
  obtain ⟨gB8, nB8, cB8, rB8, eB8, hgB8, hB8, hlB8, hcB8, hmB8⟩ := (show ∃ g n cap r, u8 8 = .slice (some ⟨g, 0, none⟩) n cap ∧ W6.heap.size ≤ g ∧ Blk W8 g ((leB 32 y.val).map bV ++ r) 5 ∧ (leB 32 y.val).length = n ∧ n ≤ cap ∧ cap ≤ maxLen from hG 8 (by simp))
  have hgB8 : w.heap.size ≤ gB8 := by have := hbel0.size; omega
  obtain ⟨gB17, nB17, cB17, rB17, eB17, hgB17, hB17, hlB17, hcB17, hmB17⟩ := (show ∃ g n cap r, u8 17 = .slice (some ⟨g, 0, none⟩) n cap ∧ W6.heap.size ≤ g ∧ Blk W8 g ((leB 32 x.val).map bV ++ r) 5 ∧ (leB 32 x.val).length = n ∧ n ≤ cap ∧ cap ≤ maxLen from hG 17 (by simp))
  have hgB17 : w.heap.size ≤ gB17 := by have := hbel0.size; omega
  obtain ⟨gB20, nB20, cB20, rB20, eB20, hgB20, hB20, hlB20, hcB20, hmB20⟩ := (show ∃ g n cap r, u8 20 = .slice (some ⟨g, 0, none⟩) n cap ∧ W6.heap.size ≤ g ∧ Blk W8 g ((leB 32 y.val).map bV ++ r) 5 ∧ (leB 32 y.val).length = n ∧ n ≤ cap ∧ cap ≤ maxLen from hG 20 (by simp))
  have hgB20 : w.heap.size ≤ gB20 := by have := hbel0.size; omega
  obtain ⟨gB28, nB28, cB28, rB28, eB28, hgB28, hB28, hlB28, hcB28, hmB28⟩ := (show ∃ g n cap r, u8 28 = .slice (some ⟨g, 0, none⟩) n cap ∧ W6.heap.size ≤ g ∧ Blk W8 g ((leB 32 x.val).map bV ++ r) 5 ∧ (leB 32 x.val).length = n ∧ n ≤ cap ∧ cap ≤ maxLen from hG 28 (by simp))
  have hgB28 : w.heap.size ≤ gB28 := by have := hbel0.size; omega
  obtain ⟨gB34, nB34, cB34, rB34, eB34, hgB34, hB34, hlB34, hcB34, hmB34⟩ := (show ∃ g n cap r, u8 34 = .slice (some ⟨g, 0, none⟩) n cap ∧ W6.heap.size ≤ g ∧ Blk W8 g ((leB 32 x.val).map bV ++ r) 5 ∧ (leB 32 x.val).length = n ∧ n ≤ cap ∧ cap ≤ maxLen from hG 34 (by simp))
  have hgB34 : w.heap.size ≤ gB34 := by have := hbel0.size; omega
  have hv27 := (show IsFs rE (u8 0) [y] from hG 0 (by simp))
  have hv28 := (show IsFs rE (u8 1) [y] from hG 1 (by simp))
  have hv31 := (show IsFs rE (u8 4) [y] from hG 4 (by simp))
  have hv34 := (show IsFs rE (u8 7) [y] from hG 7 (by simp))
  have hv40 := (show IsFs rE (u8 13) [x] from hG 13 (by simp))
  have hv41 := (show IsFs rE (u8 14) [y] from hG 14 (by simp))
  have hv43 := (show IsFs rE (u8 16) [x] from hG 16 (by simp))
  have hv46 := (show IsFs rE (u8 19) [y] from hG 19 (by simp))
  have hv53 := (show IsFs rE (u8 26) [x] from hG 26 (by simp))
  have hv54 := (show IsFs rE (u8 27) [x] from hG 27 (by simp))
  have hv56 := (show IsFs rE (u8 29) [x] from hG 29 (by simp))
  have hv60 := (show IsFs rE (u8 33) [x] from hG 33 (by simp))
  have HC29 := Lib.hid (show u8 2 = .bool true from hG 2 (by simp))
  have HC30 := Lib.hid (show u8 3 = .bool true from hG 3 (by simp))
  have HC33 := Lib.hid (show u8 6 = (.string (bs (leB 32 y.val))) from hG 6 (by simp))
  have HC36 := Lib.hid (show u8 9 = (.string (bs (leB 32 y.val))) from hG 9 (by simp))
  have HC37 := Lib.hid (show u8 10 = .bool true from hG 10 (by simp))
  have HC38 := Lib.hid (show u8 11 = .bool true from hG 11 (by simp))
  have HC39 := Lib.hid (show u8 12 = .bool true from hG 12 (by simp))
  have HC42 := Lib.hid (show u8 15 = .bool q from hG 15 (by simp))
  have HC45 := Lib.hid (show u8 18 = (.string (bs (leB 32 x.val))) from hG 18 (by simp))
  have HC48 := Lib.hid (show u8 21 = (.string (bs (leB 32 y.val))) from hG 21 (by simp))
  have HC49 := Lib.hid (show u8 22 = .bool q from hG 22 (by simp))
  have HC50 := Lib.hid (show u8 23 = .bool true from hG 23 (by simp))
  have HC51 := Lib.hid (show u8 24 = .bool true from hG 24 (by simp))
  have HC52 := Lib.hid (show u8 25 = .bool true from hG 25 (by simp))
  have HC57 := Lib.hid (show u8 30 = .bool true from hG 30 (by simp))
  have HC58 := Lib.hid (show u8 31 = .bool true from hG 31 (by simp))
  have HC59 := Lib.hid (show u8 32 = .bool true from hG 32 (by simp))
  have HC62 := Lib.hid (show u8 35 = .int .i64 32 from hG 35 (by simp))
  have HC63 := Lib.hid (show u8 36 = .bool true from hG 36 (by simp))
  have HC64 := Lib.hid (show u8 37 = .bool true from hG 37 (by simp))
  have HC65 := Lib.hid (show u8 38 = .bool true from hG 38 (by simp))
  have HC66 := Lib.hid (show u8 39 = .bool true from hG 39 (by simp))
  have HC67 := Lib.hid (show u8 40 = .bool true from hG 40 (by simp))
  have HC6 := Lib.hid (show u8 41 = .bool true from hG 41 (by simp))
  have hbel0 := hbel
  clear hJ hG hall hb
  rw [HC6.out]
  go_wp2
  go_ret
  exact ⟨rfl, hbel⟩
end Go.Proofs.Ytfjaplggohflbaa
