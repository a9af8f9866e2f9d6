/- Of chapter 7: a number is the document's; ScalarAsks for few bytes. -/
import Derived.Test.YtbgfokdchpcifaaSrt
import Derived.Test.YtbgfokdchpcifaaLsc
namespace Go.Proofs.Ytbgfokdchpcifaa
open Go Go.RowKit

set_option maxHeartbeats 4000000 in
theorem cIsS {v v' : Value} {x y : F} {b : Bool} (hq : decide (x = y) = b) (h0 : IsFs rS v [x]) (h1 : IsFs rC v' [y]) (w : World) :
    Calls Try.prog 18 #[v, v'] w fun e w' => e = .returned (.bool b) ∧ Below w.heap.size w w' := by
  have HQ := Lib.hid (show decide (leB 32 x.val = leB 32 y.val) = b by
    rw [← hq, decide_eq_decide]
    exact ⟨leB_inj_S (of_isS h0).1 (of_isC h1).1, fun h => by rw [h]⟩)
  clear hq
  go_enter Try.func18, Try.ntmps18
  have hbel : Below w.heap.size w w := Below.refl _ _
  have hbel0 := hbel
  go_upto_region 0 with fail
  refine wp_region_turn (fun u => #[v, v', u 0, u 1, u 2, undef, undef, undef, undef, undef, undef, undef]) (Holds [.box rS [x], .box rC [y], .oth (fun v => v = .bool false)] w) (Keep [.box rS [x], .box rC [y], .oth (fun v => v = .bool false)] w) (fun _ => undef) ?_ (by rfl) Keep.start (holds_soft (by kernel_rfl)) ?_ ?_
  · intro u i v h
    rcases i with _ | _ | _ | i
    all_goals first | (simp [Act.put, putV]; done) | (exfalso; simp at h; omega)
  · intro hs
    refine ⟨?_, ?_, ?_, trivial⟩
    · exact step_box hs (wants_none rfl) rfl rfl (gives_c h0 (fun _ => rfl))
    · exact step_box hs (wants_none rfl) rfl rfl (gives_c h1 (fun _ => rfl))
    · exact step_pureO hs (wants_none rfl) rfl fun L u W hG hdep => ⟨_, run_assign rfl, rfl⟩
  intro L0 u0 W0 hall hJ hG
  obtain ⟨q2, e2, ⟨hq2, _⟩, ht2, hm2⟩ := (show ∃ g, u0 0 = .pointer (some ⟨g, 0, none⟩) ∧ (w.heap.size ≤ g ∧ g < W0.heap.size) ∧ W0.there g 0 4 ∧ HasFs rS W0 g 0 [x] from hG 0 (by simp))
  have hq2 : w.heap.size ≤ q2 := by have := hbel0.size; omega
  have E2 := Lib.hid e2; clear e2
  obtain ⟨q3, e3, ⟨hq3, _⟩, ht3, hm3⟩ := (show ∃ g, u0 1 = .pointer (some ⟨g, 0, none⟩) ∧ (w.heap.size ≤ g ∧ g < W0.heap.size) ∧ W0.there g 0 32 ∧ HasFs rC W0 g 0 [y] from hG 1 (by simp))
  have hq3 : w.heap.size ≤ q3 := by have := hbel0.size; omega
  have E3 := Lib.hid e3; clear e3
  have hb := hJ.all rfl
  have hbel := Below.call hbel hb
  have HN2_3 := Lib.hid (show q2 ≠ q3 from fun e => hJ.apart 0 1 _ (by omega) (hall _ (by simp)) (hall _ (by simp)) rfl rfl (E2.out.trans (by rw [e])) E3.out)
  have HC4 := Lib.hid (show u0 2 = .bool false from hG 2 (by simp))
  have hbel0 := hbel
  clear hJ hG hall hb
  go_upto_region 1 with fail
  refine wp_region_mid (fun u => #[v, v', u0 0, u0 1, u 7, u 0, u 1, u 2, u 3, u 4, u 5, u 6]) (Holds [.val rS [x], .rd (leB 32 x.val), .oth (fun v => v = (.string (bs (leB 32 x.val)))), .val rC [y], .rd (leB 32 y.val), .oth (fun v => v = (.string (bs (leB 32 y.val)))), .oth (fun v => v = .bool b), .oth (fun v => v = .bool b)] W0) (Keep [.val rS [x], .rd (leB 32 x.val), .oth (fun v => v = (.string (bs (leB 32 x.val)))), .val rC [y], .rd (leB 32 y.val), .oth (fun v => v = (.string (bs (leB 32 y.val)))), .oth (fun v => v = .bool b), .oth (fun v => v = .bool b)] W0) (fun k => ([undef, undef, undef, undef, undef, undef, undef, u0 2] : List Value).getD k undef) (by kernel_rfl) (by kernel_rfl) ?_ (by rfl) Keep.drew (holds_soft (by kernel_rfl)) ?_ ?_
  · intro u i v h
    rcases i with _ | _ | _ | _ | _ | _ | _ | _ | i
    all_goals first | (simp [Act.put, putV]; done) | (exfalso; simp at h; omega)
  · intro hs
    refine ⟨?_, ?_, ?_, ?_, ?_, ?_, ?_, ?_, trivial⟩
    · exact step_load q2 0 hs (wants_none rfl) rfl rfl tyS (fun _ => E2.out) hm2.lt hm2 (noSto_apart (by kernel_rfl))
    · refine step_callB hs (wants_none rfl) rfl fun L u W hJ hG hdep K hK => ?_
      have a0 := (show IsFs rS (u 0) [x] from hG 0 (hdep 0 (by kernel_rfl)))
      go_simp
      go_at_call 10
      (with_reducible refine (cScBytes a0 _).mono ?_); rintro e w1 ⟨g, n, cap, r, rfl, h1, h2, h3, h4, h5, hb⟩
      have hk := hK.out _ _ _ _ _ h1 h2 h3 h4 h5 hb
      exact hk
    · exact step_conv 1 hs (wants_none rfl) rfl rfl rfl (by kernel_rfl) (fun _ => rfl)
    · exact step_load q3 0 hs (wants_none rfl) rfl rfl tySc (fun _ => E3.out) hm3.lt hm3 (noSto_apart (by kernel_rfl))
    · refine step_callB hs (wants_none rfl) rfl fun L u W hJ hG hdep K hK => ?_
      have a0 := (show IsFs rC (u 3) [y] from hG 3 (hdep 3 (by kernel_rfl)))
      go_simp
      go_at_call 35
      (with_reducible refine (kScBytes a0 _).mono ?_); rintro e w1 ⟨g, n, cap, r, rfl, h1, h2, h3, h4, h5, hb⟩
      have hk := hK.out _ _ _ _ _ h1 h2 h3 h4 h5 hb
      exact hk
    · exact step_conv 4 hs (wants_none rfl) rfl rfl rfl (by kernel_rfl) (fun _ => rfl)
    · exact step_pureO hs (wants_none rfl) rfl fun L u W hG hdep => ⟨_, run_eqlS rfl (show u 2 = (.string (bs (leB 32 x.val))) from hG 2 (hdep 2 (by kernel_rfl))) (show u 5 = (.string (bs (leB 32 y.val))) from hG 5 (hdep 5 (by kernel_rfl))), by rw [HQ.out]⟩
    · exact step_pureO hs (wants_none rfl) rfl fun L u W hG hdep => ⟨_, run_assign rfl, (show u 6 = .bool b from hG 6 (hdep 6 (by kernel_rfl)))⟩
  intro L1 u1 W1 hall hJ hG
  have hb := hJ.all rfl
  have hbel := Below.call hbel hb
  have hm2 := hm2.later hb
  have hm3 := hm3.later hb
  have ht2 := there_later ht2 hb
  have ht3 := there_later ht3 hb
  have HC11 := Lib.hid (show u1 6 = .bool b from hG 6 (by simp))
  have HC4 := Lib.hid (show u1 7 = .bool b from hG 7 (by simp))
  have hbel0 := hbel
  clear hJ hG hall hb
  rw [HC4.out]
  go_wp2
  go_ret
  exact ⟨rfl, hbel⟩
set_option maxRecDepth 100000 in
set_option maxHeartbeats 8000000 in
theorem scalarAsks_few {a b : Option Addr} {n m capa capb : Nat} {k z : Int} {la lb : List UInt8} {q : Bool} {x y s : F} {c : Int} (hx : wS la = x) (hy : wS lb = y) (hs : ssV la = s) (hc : ssC la = c) (hq : decide (x = y) = q) (hz : bitI x k = z) (w : World) (ha : RdB w a n capa la) (hb' : RdB w b m capb lb) (hn : n ≤ 100) (hm : m ≤ 100) :
    Calls Try.prog 4 #[.slice a n capa, .slice b m capb, .int .i64 k] w fun e w' => e = .returned (.bool true) ∧ Below w.heap.size w w' := by
  have HX := Lib.hid hx; have HY := Lib.hid hy; have HQ := Lib.hid hq; have HS := Lib.hid hs; have HC := Lib.hid hc; have HZ := Lib.hid hz
  have d1 : decide ((100 : Int) < (n : Int)) = false := by simp; omega
  have d2 : decide ((100 : Int) < (m : Int)) = false := by simp; omega
  clear hn hm hx hy hq hs hc hz
  go_enter Try.func4, Try.ntmps4
  have hbel : Below w.heap.size w w := Below.refl _ _
  have hbel0 := hbel
  go_upto_region 3 with fail
  clear d1 d2
  refine wp_region_turn (fun u => (.slice a n capa :: .slice b m capb :: .int .i64 k :: undef :: undef :: undef :: .bool false :: u 4 :: u 5 :: undef :: undef :: undef :: undef :: undef :: undef :: .slice a n capa :: .int .i64 (n : Nat) :: .bool false :: .bool false :: .slice b m capb :: .int .i64 (m : Nat) :: .bool false :: .bool false :: undef :: u 0 :: u 1 :: u 2 :: u 3 :: undef :: undef :: undef :: undef :: undef :: undef :: undef :: undef :: undef :: undef :: undef :: undef :: undef :: undef :: undef :: undef :: undef :: undef :: undef :: undef :: undef :: undef :: undef :: undef :: undef :: undef :: undef :: undef :: undef :: undef :: undef :: undef :: undef :: undef :: undef :: undef :: undef :: undef :: undef :: undef :: undef :: undef :: undef :: undef :: undef :: undef :: undef :: undef :: undef :: undef :: undef :: undef :: undef :: undef :: undef :: undef :: undef :: undef :: undef :: undef :: undef :: undef :: undef :: undef :: undef :: undef :: undef :: undef :: undef :: undef :: undef :: undef :: undef :: []).toArray) (Holds [.oth (fun v => v = .slice a n capa), .val rS [x], .oth (fun v => v = .slice b m capb), .val rS [y], .new 4, .new 4, .st 4 rS [x], .st 5 rS [y]] w) (Keep [.oth (fun v => v = .slice a n capa), .val rS [x], .oth (fun v => v = .slice b m capb), .val rS [y], .new 4, .new 4, .st 4 rS [x], .st 5 rS [y]] w) (fun _ => undef) ?_ (by rfl) Keep.start (holds_soft (by kernel_rfl)) ?_ ?_
  · intro u i v h
    rcases i with _ | _ | _ | _ | _ | _ | _ | _ | i
    all_goals first | (simp [Act.put, putV]; done) | (exfalso; simp at h; omega)
  · intro hs
    refine ⟨?_, ?_, ?_, ?_, ?_, ?_, ?_, ?_, trivial⟩
    · exact step_pureO hs (wants_none rfl) rfl fun L u W hG hdep => ⟨_, run_move rfl, rfl⟩
    · refine step_call hs (wants_none rfl) rfl fun L u W hJ hG hL hdep K hK => ?_
      have x0 := (show u 0 = .slice a n capa from hG 0 (hdep 0 (by kernel_rfl)))
      have hRB0 := (ha.below hbel).below (hJ.all rfl)
      go_simp
      go_at_call 9
      (with_reducible refine (cWide HX.out hRB0).mono ?_); rintro e w1 ⟨r, rfl, hr, hb⟩
      have hk := hK.out _ _ hr hb
      simp only [x0] at hk
      exact hk
    · exact step_pureO hs (wants_none rfl) rfl fun L u W hG hdep => ⟨_, run_move rfl, rfl⟩
    · refine step_call hs (wants_none rfl) rfl fun L u W hJ hG hL hdep K hK => ?_
      have x0 := (show u 2 = .slice b m capb from hG 2 (hdep 2 (by kernel_rfl)))
      have hRB0 := (hb'.below hbel).below (hJ.all rfl)
      go_simp
      go_at_call 9
      (with_reducible refine (cWide HY.out hRB0).mono ?_); rintro e w1 ⟨r, rfl, hr, hb⟩
      have hk := hK.out _ _ hr hb
      simp only [x0] at hk
      exact hk
    · exact step_alloc hs (wants_none rfl) rfl rfl (by omega) rfl allocS
    · exact step_alloc hs (wants_none rfl) rfl rfl (by omega) rfl allocS
    · exact step_store 4 hs (by kernel_rfl) (wants_none rfl) rfl rfl rfl (by kernel_rfl) (by kernel_rfl) (by kernel_rfl) (by kernel_rfl) (fun _ => rfl) (gives_op 1 rfl (by kernel_rfl) (fun _ => rfl)) tyS rfl
    · exact step_store 5 hs (by kernel_rfl) (wants_none rfl) rfl rfl rfl (by kernel_rfl) (by kernel_rfl) (by kernel_rfl) (by kernel_rfl) (fun _ => rfl) (gives_op 3 rfl (by kernel_rfl) (fun _ => rfl)) tyS rfl
  intro L3 u3 W3 hall hJ hG
  obtain ⟨q7, e7, hq7, _, ht7⟩ := (show ∃ g, u3 4 = .pointer (some ⟨g, 0, none⟩) ∧ w.heap.size ≤ g ∧ 0 < 4 ∧ W3.there g 0 4 from hG 4 (by simp))
  have hm7 : HasFs rS W3 q7 0 [x] := by
    obtain ⟨g, e, _, h⟩ := (show ∃ g, u3 4 = .pointer (some ⟨g, 0, none⟩) ∧ w.heap.size ≤ g ∧ HasFs rS W3 g 0 [x] from hG 6 (by simp))
    rw [e7] at e; cases e; exact h
  have hq7 : w.heap.size ≤ q7 := by have := hbel0.size; omega
  have E7 := Lib.hid e7; clear e7
  obtain ⟨q8, e8, hq8, _, ht8⟩ := (show ∃ g, u3 5 = .pointer (some ⟨g, 0, none⟩) ∧ w.heap.size ≤ g ∧ 0 < 4 ∧ W3.there g 0 4 from hG 5 (by simp))
  have hm8 : HasFs rS W3 q8 0 [y] := by
    obtain ⟨g, e, _, h⟩ := (show ∃ g, u3 5 = .pointer (some ⟨g, 0, none⟩) ∧ w.heap.size ≤ g ∧ HasFs rS W3 g 0 [y] from hG 7 (by simp))
    rw [e8] at e; cases e; exact h
  have hq8 : w.heap.size ≤ q8 := by have := hbel0.size; omega
  have E8 := Lib.hid e8; clear e8
  have hb := hJ.all rfl
  have hbel := Below.call hbel hb
  have HN7_8 := Lib.hid (show q7 ≠ q8 from fun e => hJ.apart 4 5 _ (by omega) (hall _ (by simp)) (hall _ (by simp)) rfl rfl (E7.out.trans (by rw [e])) E8.out)
  have hbel0 := hbel
  clear hJ hG hall hb
  go_upto_region 4 with fail
  refine wp_region_turn (fun u => (.slice a n capa :: .slice b m capb :: .int .i64 k :: undef :: undef :: undef :: .bool false :: u3 4 :: u3 5 :: u 4 :: u 5 :: undef :: undef :: undef :: undef :: .slice a n capa :: .int .i64 (n : Nat) :: .bool false :: .bool false :: .slice b m capb :: .int .i64 (m : Nat) :: .bool false :: .bool false :: undef :: u3 0 :: u3 1 :: u3 2 :: u3 3 :: u 0 :: u 1 :: u 2 :: u 3 :: undef :: undef :: undef :: undef :: undef :: undef :: undef :: undef :: undef :: undef :: undef :: undef :: undef :: undef :: undef :: undef :: undef :: undef :: undef :: undef :: undef :: undef :: undef :: undef :: undef :: undef :: undef :: undef :: undef :: undef :: undef :: undef :: undef :: undef :: undef :: undef :: undef :: undef :: undef :: undef :: undef :: undef :: undef :: undef :: undef :: undef :: undef :: undef :: undef :: undef :: undef :: undef :: undef :: undef :: undef :: undef :: undef :: undef :: undef :: undef :: undef :: undef :: undef :: undef :: undef :: undef :: undef :: undef :: undef :: []).toArray) (Holds [.oth (fun v => v = .slice a n capa), .val rC [x], .oth (fun v => v = .slice b m capb), .val rC [y], .new 32, .new 32, .st 4 rC [x], .st 5 rC [y]] W3) (Keep [.oth (fun v => v = .slice a n capa), .val rC [x], .oth (fun v => v = .slice b m capb), .val rC [y], .new 32, .new 32, .st 4 rC [x], .st 5 rC [y]] W3) (fun _ => undef) ?_ (by rfl) Keep.start (holds_soft (by kernel_rfl)) ?_ ?_
  · intro u i v h
    rcases i with _ | _ | _ | _ | _ | _ | _ | _ | i
    all_goals first | (simp [Act.put, putV]; done) | (exfalso; simp at h; omega)
  · intro hs
    refine ⟨?_, ?_, ?_, ?_, ?_, ?_, ?_, ?_, trivial⟩
    · exact step_pureO hs (wants_none rfl) rfl fun L u W hG hdep => ⟨_, run_move rfl, rfl⟩
    · refine step_call hs (wants_none rfl) rfl fun L u W hJ hG hL hdep K hK => ?_
      have x0 := (show u 0 = .slice a n capa from hG 0 (hdep 0 (by kernel_rfl)))
      have hRB0 := (ha.below hbel).below (hJ.all rfl)
      go_simp
      go_at_call 16
      (with_reducible refine (kWide HX.out hRB0).mono ?_); rintro e w1 ⟨r, rfl, hr, hb⟩
      have hk := hK.out _ _ hr hb
      simp only [x0] at hk
      exact hk
    · exact step_pureO hs (wants_none rfl) rfl fun L u W hG hdep => ⟨_, run_move rfl, rfl⟩
    · refine step_call hs (wants_none rfl) rfl fun L u W hJ hG hL hdep K hK => ?_
      have x0 := (show u 2 = .slice b m capb from hG 2 (hdep 2 (by kernel_rfl)))
      have hRB0 := (hb'.below hbel).below (hJ.all rfl)
      go_simp
      go_at_call 16
      (with_reducible refine (kWide HY.out hRB0).mono ?_); rintro e w1 ⟨r, rfl, hr, hb⟩
      have hk := hK.out _ _ hr hb
      simp only [x0] at hk
      exact hk
    · exact step_alloc hs (wants_none rfl) rfl rfl (by omega) rfl allocSc
    · exact step_alloc hs (wants_none rfl) rfl rfl (by omega) rfl allocSc
    · exact step_store 4 hs (by kernel_rfl) (wants_none rfl) rfl rfl rfl (by kernel_rfl) (by kernel_rfl) (by kernel_rfl) (by kernel_rfl) (fun _ => rfl) (gives_op 1 rfl (by kernel_rfl) (fun _ => rfl)) tySc rfl
    · exact step_store 5 hs (by kernel_rfl) (wants_none rfl) rfl rfl rfl (by kernel_rfl) (by kernel_rfl) (by kernel_rfl) (by kernel_rfl) (fun _ => rfl) (gives_op 3 rfl (by kernel_rfl) (fun _ => rfl)) tySc rfl
  intro L4 u4 W4 hall hJ hG
  obtain ⟨q9, e9, hq9, _, ht9⟩ := (show ∃ g, u4 4 = .pointer (some ⟨g, 0, none⟩) ∧ W3.heap.size ≤ g ∧ 0 < 32 ∧ W4.there g 0 32 from hG 4 (by simp))
  have hm9 : HasFs rC W4 q9 0 [x] := by
    obtain ⟨g, e, _, h⟩ := (show ∃ g, u4 4 = .pointer (some ⟨g, 0, none⟩) ∧ W3.heap.size ≤ g ∧ HasFs rC W4 g 0 [x] from hG 6 (by simp))
    rw [e9] at e; cases e; exact h
  have HD9_q7 := Lib.hid (show q7 ≠ q9 by have := there_lt ht7 (by omega); omega)
  have HD9_q8 := Lib.hid (show q8 ≠ q9 by have := there_lt ht8 (by omega); omega)
  have hq9 : w.heap.size ≤ q9 := by have := hbel0.size; omega
  have E9 := Lib.hid e9; clear e9
  obtain ⟨q10, e10, hq10, _, ht10⟩ := (show ∃ g, u4 5 = .pointer (some ⟨g, 0, none⟩) ∧ W3.heap.size ≤ g ∧ 0 < 32 ∧ W4.there g 0 32 from hG 5 (by simp))
  have hm10 : HasFs rC W4 q10 0 [y] := by
    obtain ⟨g, e, _, h⟩ := (show ∃ g, u4 5 = .pointer (some ⟨g, 0, none⟩) ∧ W3.heap.size ≤ g ∧ HasFs rC W4 g 0 [y] from hG 7 (by simp))
    rw [e10] at e; cases e; exact h
  have HD10_q7 := Lib.hid (show q7 ≠ q10 by have := there_lt ht7 (by omega); omega)
  have HD10_q8 := Lib.hid (show q8 ≠ q10 by have := there_lt ht8 (by omega); omega)
  have hq10 : w.heap.size ≤ q10 := by have := hbel0.size; omega
  have E10 := Lib.hid e10; clear e10
  have hb := hJ.all rfl
  have hbel := Below.call hbel hb
  have hm7 := hm7.later hb
  have hm8 := hm8.later hb
  have ht7 := there_later ht7 hb
  have ht8 := there_later ht8 hb
  have HN9_10 := Lib.hid (show q9 ≠ q10 from fun e => hJ.apart 4 5 _ (by omega) (hall _ (by simp)) (hall _ (by simp)) rfl rfl (E9.out.trans (by rw [e])) E10.out)
  have hbel0 := hbel
  clear hJ hG hall hb
  go_upto_region 5 with fail
  refine wp_region_turn (fun u => (.slice a n capa :: .slice b m capb :: .int .i64 k :: undef :: undef :: undef :: .bool false :: u3 4 :: u3 5 :: u4 4 :: u4 5 :: u 5 :: u 7 :: undef :: undef :: .slice a n capa :: .int .i64 (n : Nat) :: .bool false :: .bool false :: .slice b m capb :: .int .i64 (m : Nat) :: .bool false :: .bool false :: undef :: u3 0 :: u3 1 :: u3 2 :: u3 3 :: u4 0 :: u4 1 :: u4 2 :: u4 3 :: u 2 :: u 0 :: u 1 :: u 3 :: u 4 :: undef :: undef :: undef :: undef :: undef :: undef :: undef :: undef :: undef :: undef :: undef :: undef :: undef :: undef :: undef :: undef :: undef :: undef :: undef :: undef :: undef :: undef :: undef :: undef :: undef :: undef :: undef :: undef :: undef :: undef :: undef :: undef :: undef :: undef :: undef :: undef :: undef :: undef :: undef :: undef :: undef :: undef :: undef :: undef :: undef :: undef :: undef :: undef :: undef :: undef :: undef :: undef :: undef :: undef :: undef :: undef :: undef :: undef :: undef :: undef :: undef :: undef :: undef :: undef :: []).toArray) (Holds [.oth (fun v => v = .slice a n capa), .oth (fun v => IsTV rS v [s] (.int .i64 c)), .oth (fun v => IsTV rS v [s] (.int .i64 c)), .val rS [s], .oth (fun v => v = .int .i64 c), .new 4, .st 5 rS [s], .oth (fun v => v = .int .i64 c)] W4) (Keep [.oth (fun v => v = .slice a n capa), .oth (fun v => IsTV rS v [s] (.int .i64 c)), .oth (fun v => IsTV rS v [s] (.int .i64 c)), .val rS [s], .oth (fun v => v = .int .i64 c), .new 4, .st 5 rS [s], .oth (fun v => v = .int .i64 c)] W4) (fun _ => undef) ?_ (by rfl) Keep.start (holds_soft (by kernel_rfl)) ?_ ?_
  · intro u i v h
    rcases i with _ | _ | _ | _ | _ | _ | _ | _ | i
    all_goals first | (simp [Act.put, putV]; done) | (exfalso; simp at h; omega)
  · intro hs
    refine ⟨?_, ?_, ?_, ?_, ?_, ?_, ?_, ?_, trivial⟩
    · exact step_pureO hs (wants_none rfl) rfl fun L u W hG hdep => ⟨_, run_move rfl, rfl⟩
    · refine step_callO hs (wants_none rfl) rfl fun L u W hJ hG hdep K hK => ?_
      have x0 := (show u 0 = .slice a n capa from hG 0 (hdep 0 (by kernel_rfl)))
      have hRB0 := (ha.below hbel).below (hJ.all rfl)
      go_simp
      go_at_call 11
      (with_reducible refine (cScStrict HS.out HC.out hRB0).mono ?_); rintro e w1 ⟨r, rfl, hr, hb⟩
      have hk := hK.out _ _ ⟨r, rfl, hr⟩ hb
      simp only [x0] at hk
      exact hk
    · exact step_pureO hs (wants_none rfl) rfl fun L u W hG hdep => ⟨_, run_move rfl, (show IsTV rS (u 1) [s] (.int .i64 c) from hG 1 (hdep 1 (by kernel_rfl)))⟩
    · exact step_pure hs (wants_none rfl) rfl fun L u W hG hdep => run_extractV0 rfl (show IsTV rS (u 2) [s] (.int .i64 c) from hG 2 (hdep 2 (by kernel_rfl)))
    · exact step_pureO hs (wants_none rfl) rfl fun L u W hG hdep => run_extractV1 rfl (show IsTV rS (u 2) [s] (.int .i64 c) from hG 2 (hdep 2 (by kernel_rfl)))
    · exact step_alloc hs (wants_none rfl) rfl rfl (by omega) rfl allocS
    · exact step_store 5 hs (by kernel_rfl) (wants_none rfl) rfl rfl rfl (by kernel_rfl) (by kernel_rfl) (by kernel_rfl) (by kernel_rfl) (fun _ => rfl) (gives_op 3 rfl (by kernel_rfl) (fun _ => rfl)) tyS rfl
    · exact step_pureO hs (wants_none rfl) rfl fun L u W hG hdep => ⟨_, run_assign rfl, (show u 4 = .int .i64 c from hG 4 (hdep 4 (by kernel_rfl)))⟩
  intro L5 u5 W5 hall hJ hG
  obtain ⟨q11, e11, hq11, _, ht11⟩ := (show ∃ g, u5 5 = .pointer (some ⟨g, 0, none⟩) ∧ W4.heap.size ≤ g ∧ 0 < 4 ∧ W5.there g 0 4 from hG 5 (by simp))
  have hm11 : HasFs rS W5 q11 0 [s] := by
    obtain ⟨g, e, _, h⟩ := (show ∃ g, u5 5 = .pointer (some ⟨g, 0, none⟩) ∧ W4.heap.size ≤ g ∧ HasFs rS W5 g 0 [s] from hG 6 (by simp))
    rw [e11] at e; cases e; exact h
  have HD11_q7 := Lib.hid (show q7 ≠ q11 by have := there_lt ht7 (by omega); omega)
  have HD11_q8 := Lib.hid (show q8 ≠ q11 by have := there_lt ht8 (by omega); omega)
  have HD11_q9 := Lib.hid (show q9 ≠ q11 by have := there_lt ht9 (by omega); omega)
  have HD11_q10 := Lib.hid (show q10 ≠ q11 by have := there_lt ht10 (by omega); omega)
  have hq11 : w.heap.size ≤ q11 := by have := hbel0.size; omega
  have E11 := Lib.hid e11; clear e11
  have hb := hJ.all rfl
  have hbel := Below.call hbel hb
  have hm7 := hm7.later hb
  have hm8 := hm8.later hb
  have hm9 := hm9.later hb
  have hm10 := hm10.later hb
  have ht7 := there_later ht7 hb
  have ht8 := there_later ht8 hb
  have ht9 := there_later ht9 hb
  have ht10 := there_later ht10 hb
  have HC12 := Lib.hid (show u5 7 = .int .i64 c from hG 7 (by simp))
  have hbel0 := hbel
  clear hJ hG hall hb
  go_upto_region 6 with fail
  refine wp_region_turn (fun u => (.slice a n capa :: .slice b m capb :: .int .i64 k :: undef :: undef :: undef :: .bool false :: u3 4 :: u3 5 :: u4 4 :: u4 5 :: u5 5 :: u5 7 :: u 5 :: u 7 :: .slice a n capa :: .int .i64 (n : Nat) :: .bool false :: .bool false :: .slice b m capb :: .int .i64 (m : Nat) :: .bool false :: .bool false :: undef :: u3 0 :: u3 1 :: u3 2 :: u3 3 :: u4 0 :: u4 1 :: u4 2 :: u4 3 :: u5 2 :: u5 0 :: u5 1 :: u5 3 :: u5 4 :: u 2 :: u 0 :: u 1 :: u 3 :: u 4 :: undef :: undef :: undef :: undef :: undef :: undef :: undef :: undef :: undef :: undef :: undef :: undef :: undef :: undef :: undef :: undef :: undef :: undef :: undef :: undef :: undef :: undef :: undef :: undef :: undef :: undef :: undef :: undef :: undef :: undef :: undef :: undef :: undef :: undef :: undef :: undef :: undef :: undef :: undef :: undef :: undef :: undef :: undef :: undef :: undef :: undef :: undef :: undef :: undef :: undef :: undef :: undef :: undef :: undef :: undef :: undef :: undef :: undef :: undef :: []).toArray) (Holds [.oth (fun v => v = .slice a n capa), .oth (fun v => IsTV rC v [s] (.int .i64 c)), .oth (fun v => IsTV rC v [s] (.int .i64 c)), .val rC [s], .oth (fun v => v = .int .i64 c), .new 32, .st 5 rC [s], .oth (fun v => v = .int .i64 c)] W5) (Keep [.oth (fun v => v = .slice a n capa), .oth (fun v => IsTV rC v [s] (.int .i64 c)), .oth (fun v => IsTV rC v [s] (.int .i64 c)), .val rC [s], .oth (fun v => v = .int .i64 c), .new 32, .st 5 rC [s], .oth (fun v => v = .int .i64 c)] W5) (fun _ => undef) ?_ (by rfl) Keep.start (holds_soft (by kernel_rfl)) ?_ ?_
  · intro u i v h
    rcases i with _ | _ | _ | _ | _ | _ | _ | _ | i
    all_goals first | (simp [Act.put, putV]; done) | (exfalso; simp at h; omega)
  · intro hs
    refine ⟨?_, ?_, ?_, ?_, ?_, ?_, ?_, ?_, trivial⟩
    · exact step_pureO hs (wants_none rfl) rfl fun L u W hG hdep => ⟨_, run_move rfl, rfl⟩
    · refine step_callO hs (wants_none rfl) rfl fun L u W hJ hG hdep K hK => ?_
      have x0 := (show u 0 = .slice a n capa from hG 0 (hdep 0 (by kernel_rfl)))
      have hRB0 := (ha.below hbel).below (hJ.all rfl)
      go_simp
      go_at_call 17
      (with_reducible refine (kScStrict HS.out HC.out hRB0).mono ?_); rintro e w1 ⟨r, rfl, hr, hb⟩
      have hk := hK.out _ _ ⟨r, rfl, hr⟩ hb
      simp only [x0] at hk
      exact hk
    · exact step_pureO hs (wants_none rfl) rfl fun L u W hG hdep => ⟨_, run_move rfl, (show IsTV rC (u 1) [s] (.int .i64 c) from hG 1 (hdep 1 (by kernel_rfl)))⟩
    · exact step_pure hs (wants_none rfl) rfl fun L u W hG hdep => run_extractV0 rfl (show IsTV rC (u 2) [s] (.int .i64 c) from hG 2 (hdep 2 (by kernel_rfl)))
    · exact step_pureO hs (wants_none rfl) rfl fun L u W hG hdep => run_extractV1 rfl (show IsTV rC (u 2) [s] (.int .i64 c) from hG 2 (hdep 2 (by kernel_rfl)))
    · exact step_alloc hs (wants_none rfl) rfl rfl (by omega) rfl allocSc
    · exact step_store 5 hs (by kernel_rfl) (wants_none rfl) rfl rfl rfl (by kernel_rfl) (by kernel_rfl) (by kernel_rfl) (by kernel_rfl) (fun _ => rfl) (gives_op 3 rfl (by kernel_rfl) (fun _ => rfl)) tySc rfl
    · exact step_pureO hs (wants_none rfl) rfl fun L u W hG hdep => ⟨_, run_assign rfl, (show u 4 = .int .i64 c from hG 4 (hdep 4 (by kernel_rfl)))⟩
  intro L6 u6 W6 hall hJ hG
  obtain ⟨q13, e13, hq13, _, ht13⟩ := (show ∃ g, u6 5 = .pointer (some ⟨g, 0, none⟩) ∧ W5.heap.size ≤ g ∧ 0 < 32 ∧ W6.there g 0 32 from hG 5 (by simp))
  have hm13 : HasFs rC W6 q13 0 [s] := by
    obtain ⟨g, e, _, h⟩ := (show ∃ g, u6 5 = .pointer (some ⟨g, 0, none⟩) ∧ W5.heap.size ≤ g ∧ HasFs rC W6 g 0 [s] from hG 6 (by simp))
    rw [e13] at e; cases e; exact h
  have HD13_q7 := Lib.hid (show q7 ≠ q13 by have := there_lt ht7 (by omega); omega)
  have HD13_q8 := Lib.hid (show q8 ≠ q13 by have := there_lt ht8 (by omega); omega)
  have HD13_q9 := Lib.hid (show q9 ≠ q13 by have := there_lt ht9 (by omega); omega)
  have HD13_q10 := Lib.hid (show q10 ≠ q13 by have := there_lt ht10 (by omega); omega)
  have HD13_q11 := Lib.hid (show q11 ≠ q13 by have := there_lt ht11 (by omega); omega)
  have hq13 : w.heap.size ≤ q13 := by have := hbel0.size; omega
  have E13 := Lib.hid e13; clear e13
  have hb := hJ.all rfl
  have hbel := Below.call hbel hb
  have hm7 := hm7.later hb
  have hm8 := hm8.later hb
  have hm9 := hm9.later hb
  have hm10 := hm10.later hb
  have hm11 := hm11.later hb
  have ht7 := there_later ht7 hb
  have ht8 := there_later ht8 hb
  have ht9 := there_later ht9 hb
  have ht10 := there_later ht10 hb
  have ht11 := there_later ht11 hb
  have HC14 := Lib.hid (show u6 7 = .int .i64 c from hG 7 (by simp))
  have hbel0 := hbel
  clear hJ hG hall hb
  go_upto_region 7 with fail
  refine wp_region_mid (fun u => (.slice a n capa :: .slice b m capb :: .int .i64 k :: undef :: undef :: undef :: u 59 :: u3 4 :: u3 5 :: u4 4 :: u4 5 :: u5 5 :: u5 7 :: u6 5 :: u6 7 :: .slice a n capa :: .int .i64 (n : Nat) :: .bool false :: .bool false :: .slice b m capb :: .int .i64 (m : Nat) :: .bool false :: .bool false :: undef :: u3 0 :: u3 1 :: u3 2 :: u3 3 :: u4 0 :: u4 1 :: u4 2 :: u4 3 :: u5 2 :: u5 0 :: u5 1 :: u5 3 :: u5 4 :: u6 2 :: u6 0 :: u6 1 :: u6 3 :: u6 4 :: u 0 :: u 1 :: u 2 :: u 3 :: u 4 :: u 5 :: u 6 :: u 7 :: u 8 :: u 9 :: u 10 :: u 11 :: u 12 :: u 13 :: u 14 :: u 15 :: u 16 :: u 17 :: u 18 :: u 19 :: u 20 :: u 21 :: u 22 :: u 23 :: u 24 :: u 25 :: u 26 :: u 27 :: u 28 :: u 29 :: u 30 :: u 31 :: u 32 :: u 33 :: u 34 :: u 35 :: u 36 :: u 37 :: u 38 :: u 39 :: u 40 :: u 41 :: u 42 :: u 43 :: u 44 :: u 45 :: u 46 :: u 47 :: u 48 :: u 49 :: u 50 :: u 51 :: u 52 :: u 53 :: u 54 :: u 55 :: u 56 :: u 57 :: u 58 :: []).toArray) (Holds [.val rS [x], .val rC [x], .oth (fun v => v = .bool true), .oth (fun v => v = .bool true), .val rS [s], .val rC [s], .oth (fun v => v = .bool true), .oth (fun v => v = .bool true), .oth (fun v => v = .bool true), .oth (fun v => v = .int .i64 c), .oth (fun v => v = .int .i64 c), .oth (fun v => v = .bool true), .oth (fun v => v = .bool true), .oth (fun v => v = .bool true), .val rS [x], .val rS [y], .val rS [dA x y], .val rC [x], .val rC [y], .val rC [dA x y], .oth (fun v => v = .bool true), .oth (fun v => v = .bool true), .oth (fun v => v = .bool true), .val rS [x], .val rS [y], .val rS [dM x y], .val rC [x], .val rC [y], .val rC [dM x y], .oth (fun v => v = .bool true), .oth (fun v => v = .bool true), .oth (fun v => v = .bool true), .val rS [x], .val rS [dN x], .val rC [x], .val rC [dN x], .oth (fun v => v = .bool true), .oth (fun v => v = .bool true), .oth (fun v => v = .bool true), .val rS [x], .val rS [y], .oth (fun v => v = .bool q), .val rC [x], .val rC [y], .oth (fun v => v = .bool q), .oth (fun v => v = .bool true), .oth (fun v => v = .bool true), .oth (fun v => v = .bool true), .val rS [x], .oth (fun v => v = .int .i64 k), .oth (fun v => v = .int .i64 z), .val rC [x], .oth (fun v => v = .int .i64 k), .oth (fun v => v = .int .i64 z), .oth (fun v => v = .bool true), .oth (fun v => v = .bool true), .oth (fun v => v = .bool true), .oth (fun v => v = .bool true), .oth (fun v => v = .bool true), .oth (fun v => v = .bool true)] W6) (Keep [.val rS [x], .val rC [x], .oth (fun v => v = .bool true), .oth (fun v => v = .bool true), .val rS [s], .val rC [s], .oth (fun v => v = .bool true), .oth (fun v => v = .bool true), .oth (fun v => v = .bool true), .oth (fun v => v = .int .i64 c), .oth (fun v => v = .int .i64 c), .oth (fun v => v = .bool true), .oth (fun v => v = .bool true), .oth (fun v => v = .bool true), .val rS [x], .val rS [y], .val rS [dA x y], .val rC [x], .val rC [y], .val rC [dA x y], .oth (fun v => v = .bool true), .oth (fun v => v = .bool true), .oth (fun v => v = .bool true), .val rS [x], .val rS [y], .val rS [dM x y], .val rC [x], .val rC [y], .val rC [dM x y], .oth (fun v => v = .bool true), .oth (fun v => v = .bool true), .oth (fun v => v = .bool true), .val rS [x], .val rS [dN x], .val rC [x], .val rC [dN x], .oth (fun v => v = .bool true), .oth (fun v => v = .bool true), .oth (fun v => v = .bool true), .val rS [x], .val rS [y], .oth (fun v => v = .bool q), .val rC [x], .val rC [y], .oth (fun v => v = .bool q), .oth (fun v => v = .bool true), .oth (fun v => v = .bool true), .oth (fun v => v = .bool true), .val rS [x], .oth (fun v => v = .int .i64 k), .oth (fun v => v = .int .i64 z), .val rC [x], .oth (fun v => v = .int .i64 k), .oth (fun v => v = .int .i64 z), .oth (fun v => v = .bool true), .oth (fun v => v = .bool true), .oth (fun v => v = .bool true), .oth (fun v => v = .bool true), .oth (fun v => v = .bool true), .oth (fun v => v = .bool true)] W6) (fun k => ([undef, undef, undef, undef, undef, undef, undef, undef, undef, undef, undef, undef, undef, undef, undef, undef, undef, undef, undef, undef, undef, undef, undef, undef, undef, undef, undef, undef, undef, undef, undef, undef, undef, undef, undef, undef, undef, undef, undef, undef, undef, undef, undef, undef, undef, undef, undef, undef, undef, undef, undef, undef, undef, undef, undef, undef, undef, undef, undef, .bool false] : List Value).getD k undef) (by kernel_rfl) (by kernel_rfl) ?_ (by rfl) Keep.drew (holds_soft (by kernel_rfl)) ?_ ?_
  · intro u i v h
    rcases i with _ | _ | _ | _ | _ | _ | _ | _ | _ | _ | _ | _ | _ | _ | _ | _ | _ | _ | _ | _ | _ | _ | _ | _ | _ | _ | _ | _ | _ | _ | _ | _ | _ | _ | _ | _ | _ | _ | _ | _ | _ | _ | _ | _ | _ | _ | _ | _ | _ | _ | _ | _ | _ | _ | _ | _ | _ | _ | _ | _ | i
    all_goals first | (simp [Act.put, putV]; done) | (exfalso; simp at h; omega)
  · intro hs
    refine ⟨?_, ?_, ?_, ?_, ?_, ?_, ?_, ?_, ?_, ?_, ?_, ?_, ?_, ?_, ?_, ?_, ?_, ?_, ?_, ?_, ?_, ?_, ?_, ?_, ?_, ?_, ?_, ?_, ?_, ?_, ?_, ?_, ?_, ?_, ?_, ?_, ?_, ?_, ?_, ?_, ?_, ?_, ?_, ?_, ?_, ?_, ?_, ?_, ?_, ?_, ?_, ?_, ?_, ?_, ?_, ?_, ?_, ?_, ?_, ?_, trivial⟩
    · exact step_load q7 0 hs (wants_none rfl) rfl rfl tyS (fun _ => E7.out) hm7.lt hm7 (noSto_apart (by kernel_rfl))
    · exact step_load q9 0 hs (wants_none rfl) rfl rfl tySc (fun _ => E9.out) hm9.lt hm9 (noSto_apart (by kernel_rfl))
    · refine step_callO hs (wants_none rfl) rfl fun L u W hJ hG hdep K hK => ?_
      have a0 := (show IsFs rS (u 0) [x] from hG 0 (hdep 0 (by kernel_rfl)))
      have a1 := (show IsFs rC (u 1) [x] from hG 1 (hdep 1 (by kernel_rfl)))
      go_simp
      go_at_call 18
      (with_reducible refine (cIsS (b := true) (decide_eq_true rfl) a0 a1 _).mono ?_); rintro e w1 ⟨rfl, hb⟩
      have hk := hK.out _ _ rfl hb
      exact hk
    · exact step_pureO hs (wants_none rfl) rfl fun L u W hG hdep => ⟨_, run_move rfl, (show u 2 = .bool true from hG 2 (hdep 2 (by kernel_rfl)))⟩
    · exact step_load q11 0 hs (wants_on 3 rfl rfl (by kernel_rfl) (fun _ => rfl)) rfl rfl tyS (fun _ => E11.out) hm11.lt hm11 (noSto_apart (by kernel_rfl))
    · exact step_load q13 0 hs (wants_on 3 rfl rfl (by kernel_rfl) (fun _ => rfl)) rfl rfl tySc (fun _ => E13.out) hm13.lt hm13 (noSto_apart (by kernel_rfl))
    · refine step_callO hs (wants_on 3 rfl rfl (by kernel_rfl) (fun _ => rfl)) rfl fun L u W hJ hG hdep K hK => ?_
      have a0 := (show IsFs rS (u 4) [s] from hG 4 (hdep 4 (by kernel_rfl)))
      have a1 := (show IsFs rC (u 5) [s] from hG 5 (hdep 5 (by kernel_rfl)))
      go_simp
      go_at_call 18
      (with_reducible refine (cIsS (b := true) (decide_eq_true rfl) a0 a1 _).mono ?_); rintro e w1 ⟨rfl, hb⟩
      have hk := hK.out _ _ rfl hb
      exact hk
    · exact step_pick true hs (wants_none rfl) rfl rfl (fun L u W hG hdep => (show u 3 = .bool true from hG 3 (hdep 3 (by kernel_rfl)))) (fun L u W hG hdep => (show u 6 = .bool true from hG 6 (hdep 6 (by kernel_rfl))))
    · exact step_pureO hs (wants_none rfl) rfl fun L u W hG hdep => ⟨_, run_move rfl, (show u 7 = .bool true from hG 7 (hdep 7 (by kernel_rfl)))⟩
    · exact step_pureO hs (wants_on 8 rfl rfl (by kernel_rfl) (fun _ => rfl)) rfl fun L u W hG hdep => ⟨_, run_move rfl, HC12.out⟩
    · exact step_pureO hs (wants_on 8 rfl rfl (by kernel_rfl) (fun _ => rfl)) rfl fun L u W hG hdep => ⟨_, run_move rfl, HC14.out⟩
    · refine step_pureO hs (wants_on 8 rfl rfl (by kernel_rfl) (fun _ => rfl)) rfl fun L u W hG hdep => ⟨_, ?_, rfl⟩
      have e0 := (show u 9 = .int .i64 c from hG 9 (hdep 9 (by kernel_rfl)))
      have e1 := (show u 10 = .int .i64 c from hG 10 (hdep 10 (by kernel_rfl)))
      go_simp
      try simp [bne]
    · exact step_pick true hs (wants_none rfl) rfl rfl (fun L u W hG hdep => (show u 8 = .bool true from hG 8 (hdep 8 (by kernel_rfl)))) (fun L u W hG hdep => (show u 11 = .bool true from hG 11 (hdep 11 (by kernel_rfl))))
    · exact step_pureO hs (wants_none rfl) rfl fun L u W hG hdep => ⟨_, run_move rfl, (show u 12 = .bool true from hG 12 (hdep 12 (by kernel_rfl)))⟩
    · exact step_load q7 0 hs (wants_on 13 rfl rfl (by kernel_rfl) (fun _ => rfl)) rfl rfl tyS (fun _ => E7.out) hm7.lt hm7 (noSto_apart (by kernel_rfl))
    · exact step_load q8 0 hs (wants_on 13 rfl rfl (by kernel_rfl) (fun _ => rfl)) rfl rfl tyS (fun _ => E8.out) hm8.lt hm8 (noSto_apart (by kernel_rfl))
    · refine step_call hs (wants_on 13 rfl rfl (by kernel_rfl) (fun _ => rfl)) rfl fun L u W hJ hG hL hdep K hK => ?_
      have a0 := (show IsFs rS (u 14) [x] from hG 14 (hdep 14 (by kernel_rfl)))
      have a1 := (show IsFs rS (u 15) [y] from hG 15 (hdep 15 (by kernel_rfl)))
      go_simp
      go_at_call 19
      (with_reducible refine (cScAdd a0 a1 _).mono ?_); rintro e w1 ⟨r, rfl, hr, hb⟩
      have hk := hK.out _ _ hr hb
      exact hk
    · exact step_load q9 0 hs (wants_on 13 rfl rfl (by kernel_rfl) (fun _ => rfl)) rfl rfl tySc (fun _ => E9.out) hm9.lt hm9 (noSto_apart (by kernel_rfl))
    · exact step_load q10 0 hs (wants_on 13 rfl rfl (by kernel_rfl) (fun _ => rfl)) rfl rfl tySc (fun _ => E10.out) hm10.lt hm10 (noSto_apart (by kernel_rfl))
    · refine step_call hs (wants_on 13 rfl rfl (by kernel_rfl) (fun _ => rfl)) rfl fun L u W hJ hG hL hdep K hK => ?_
      have a0 := (show IsFs rC (u 17) [x] from hG 17 (hdep 17 (by kernel_rfl)))
      have a1 := (show IsFs rC (u 18) [y] from hG 18 (hdep 18 (by kernel_rfl)))
      go_simp
      go_at_call 20
      (with_reducible refine (kScAdd a0 a1 _).mono ?_); rintro e w1 ⟨r, rfl, hr, hb⟩
      have hk := hK.out _ _ hr hb
      exact hk
    · refine step_callO hs (wants_on 13 rfl rfl (by kernel_rfl) (fun _ => rfl)) rfl fun L u W hJ hG hdep K hK => ?_
      have a0 := (show IsFs rS (u 16) [dA x y] from hG 16 (hdep 16 (by kernel_rfl)))
      have a1 := (show IsFs rC (u 19) [dA x y] from hG 19 (hdep 19 (by kernel_rfl)))
      go_simp
      go_at_call 18
      (with_reducible refine (cIsS (b := true) (decide_eq_true rfl) a0 a1 _).mono ?_); rintro e w1 ⟨rfl, hb⟩
      have hk := hK.out _ _ rfl hb
      exact hk
    · exact step_pick true hs (wants_none rfl) rfl rfl (fun L u W hG hdep => (show u 13 = .bool true from hG 13 (hdep 13 (by kernel_rfl)))) (fun L u W hG hdep => (show u 20 = .bool true from hG 20 (hdep 20 (by kernel_rfl))))
    · exact step_pureO hs (wants_none rfl) rfl fun L u W hG hdep => ⟨_, run_move rfl, (show u 21 = .bool true from hG 21 (hdep 21 (by kernel_rfl)))⟩
    · exact step_load q7 0 hs (wants_on 22 rfl rfl (by kernel_rfl) (fun _ => rfl)) rfl rfl tyS (fun _ => E7.out) hm7.lt hm7 (noSto_apart (by kernel_rfl))
    · exact step_load q8 0 hs (wants_on 22 rfl rfl (by kernel_rfl) (fun _ => rfl)) rfl rfl tyS (fun _ => E8.out) hm8.lt hm8 (noSto_apart (by kernel_rfl))
    · refine step_call hs (wants_on 22 rfl rfl (by kernel_rfl) (fun _ => rfl)) rfl fun L u W hJ hG hL hdep K hK => ?_
      have a0 := (show IsFs rS (u 23) [x] from hG 23 (hdep 23 (by kernel_rfl)))
      have a1 := (show IsFs rS (u 24) [y] from hG 24 (hdep 24 (by kernel_rfl)))
      go_simp
      go_at_call 21
      (with_reducible refine (cScMul a0 a1 _).mono ?_); rintro e w1 ⟨r, rfl, hr, hb⟩
      have hk := hK.out _ _ hr hb
      exact hk
    · exact step_load q9 0 hs (wants_on 22 rfl rfl (by kernel_rfl) (fun _ => rfl)) rfl rfl tySc (fun _ => E9.out) hm9.lt hm9 (noSto_apart (by kernel_rfl))
    · exact step_load q10 0 hs (wants_on 22 rfl rfl (by kernel_rfl) (fun _ => rfl)) rfl rfl tySc (fun _ => E10.out) hm10.lt hm10 (noSto_apart (by kernel_rfl))
    · refine step_call hs (wants_on 22 rfl rfl (by kernel_rfl) (fun _ => rfl)) rfl fun L u W hJ hG hL hdep K hK => ?_
      have a0 := (show IsFs rC (u 26) [x] from hG 26 (hdep 26 (by kernel_rfl)))
      have a1 := (show IsFs rC (u 27) [y] from hG 27 (hdep 27 (by kernel_rfl)))
      go_simp
      go_at_call 22
      (with_reducible refine (kScMul a0 a1 _).mono ?_); rintro e w1 ⟨r, rfl, hr, hb⟩
      have hk := hK.out _ _ hr hb
      exact hk
    · refine step_callO hs (wants_on 22 rfl rfl (by kernel_rfl) (fun _ => rfl)) rfl fun L u W hJ hG hdep K hK => ?_
      have a0 := (show IsFs rS (u 25) [dM x y] from hG 25 (hdep 25 (by kernel_rfl)))
      have a1 := (show IsFs rC (u 28) [dM x y] from hG 28 (hdep 28 (by kernel_rfl)))
      go_simp
      go_at_call 18
      (with_reducible refine (cIsS (b := true) (decide_eq_true rfl) a0 a1 _).mono ?_); rintro e w1 ⟨rfl, hb⟩
      have hk := hK.out _ _ rfl hb
      exact hk
    · exact step_pick true hs (wants_none rfl) rfl rfl (fun L u W hG hdep => (show u 22 = .bool true from hG 22 (hdep 22 (by kernel_rfl)))) (fun L u W hG hdep => (show u 29 = .bool true from hG 29 (hdep 29 (by kernel_rfl))))
    · exact step_pureO hs (wants_none rfl) rfl fun L u W hG hdep => ⟨_, run_move rfl, (show u 30 = .bool true from hG 30 (hdep 30 (by kernel_rfl)))⟩
    · exact step_load q7 0 hs (wants_on 31 rfl rfl (by kernel_rfl) (fun _ => rfl)) rfl rfl tyS (fun _ => E7.out) hm7.lt hm7 (noSto_apart (by kernel_rfl))
    · refine step_call hs (wants_on 31 rfl rfl (by kernel_rfl) (fun _ => rfl)) rfl fun L u W hJ hG hL hdep K hK => ?_
      have a0 := (show IsFs rS (u 32) [x] from hG 32 (hdep 32 (by kernel_rfl)))
      go_simp
      go_at_call 23
      (with_reducible refine (cScNeg a0 _).mono ?_); rintro e w1 ⟨r, rfl, hr, hb⟩
      have hk := hK.out _ _ hr hb
      exact hk
    · exact step_load q9 0 hs (wants_on 31 rfl rfl (by kernel_rfl) (fun _ => rfl)) rfl rfl tySc (fun _ => E9.out) hm9.lt hm9 (noSto_apart (by kernel_rfl))
    · refine step_call hs (wants_on 31 rfl rfl (by kernel_rfl) (fun _ => rfl)) rfl fun L u W hJ hG hL hdep K hK => ?_
      have a0 := (show IsFs rC (u 34) [x] from hG 34 (hdep 34 (by kernel_rfl)))
      go_simp
      go_at_call 24
      (with_reducible refine (kScNeg a0 _).mono ?_); rintro e w1 ⟨r, rfl, hr, hb⟩
      have hk := hK.out _ _ hr hb
      exact hk
    · refine step_callO hs (wants_on 31 rfl rfl (by kernel_rfl) (fun _ => rfl)) rfl fun L u W hJ hG hdep K hK => ?_
      have a0 := (show IsFs rS (u 33) [dN x] from hG 33 (hdep 33 (by kernel_rfl)))
      have a1 := (show IsFs rC (u 35) [dN x] from hG 35 (hdep 35 (by kernel_rfl)))
      go_simp
      go_at_call 18
      (with_reducible refine (cIsS (b := true) (decide_eq_true rfl) a0 a1 _).mono ?_); rintro e w1 ⟨rfl, hb⟩
      have hk := hK.out _ _ rfl hb
      exact hk
    · exact step_pick true hs (wants_none rfl) rfl rfl (fun L u W hG hdep => (show u 31 = .bool true from hG 31 (hdep 31 (by kernel_rfl)))) (fun L u W hG hdep => (show u 36 = .bool true from hG 36 (hdep 36 (by kernel_rfl))))
    · exact step_pureO hs (wants_none rfl) rfl fun L u W hG hdep => ⟨_, run_move rfl, (show u 37 = .bool true from hG 37 (hdep 37 (by kernel_rfl)))⟩
    · exact step_load q7 0 hs (wants_on 38 rfl rfl (by kernel_rfl) (fun _ => rfl)) rfl rfl tyS (fun _ => E7.out) hm7.lt hm7 (noSto_apart (by kernel_rfl))
    · exact step_load q8 0 hs (wants_on 38 rfl rfl (by kernel_rfl) (fun _ => rfl)) rfl rfl tyS (fun _ => E8.out) hm8.lt hm8 (noSto_apart (by kernel_rfl))
    · refine step_callO hs (wants_on 38 rfl rfl (by kernel_rfl) (fun _ => rfl)) rfl fun L u W hJ hG hdep K hK => ?_
      have a0 := (show IsFs rS (u 39) [x] from hG 39 (hdep 39 (by kernel_rfl)))
      have a1 := (show IsFs rS (u 40) [y] from hG 40 (hdep 40 (by kernel_rfl)))
      go_simp
      go_at_call 12
      (with_reducible refine (cScSame (b := q) (HQ.out) a0 a1 _).mono ?_); rintro e w1 ⟨rfl, hb⟩
      have hk := hK.out _ _ rfl hb
      exact hk
    · exact step_load q9 0 hs (wants_on 38 rfl rfl (by kernel_rfl) (fun _ => rfl)) rfl rfl tySc (fun _ => E9.out) hm9.lt hm9 (noSto_apart (by kernel_rfl))
    · exact step_load q10 0 hs (wants_on 38 rfl rfl (by kernel_rfl) (fun _ => rfl)) rfl rfl tySc (fun _ => E10.out) hm10.lt hm10 (noSto_apart (by kernel_rfl))
    · exact step_pureO hs (wants_on 38 rfl rfl (by kernel_rfl) (fun _ => rfl)) rfl fun L u W hG hdep => ⟨_, run_eqlC rfl (show IsFs rC (u 42) [x] from hG 42 (hdep 42 (by kernel_rfl))) (show IsFs rC (u 43) [y] from hG 43 (hdep 43 (by kernel_rfl))), by rw [HQ.out]⟩
    · refine step_pureO hs (wants_on 38 rfl rfl (by kernel_rfl) (fun _ => rfl)) rfl fun L u W hG hdep => ⟨_, ?_, rfl⟩
      have e0 := (show u 41 = .bool q from hG 41 (hdep 41 (by kernel_rfl)))
      have e1 := (show u 44 = .bool q from hG 44 (hdep 44 (by kernel_rfl)))
      go_simp
      try simp [bne]
    · exact step_pick true hs (wants_none rfl) rfl rfl (fun L u W hG hdep => (show u 38 = .bool true from hG 38 (hdep 38 (by kernel_rfl)))) (fun L u W hG hdep => (show u 45 = .bool true from hG 45 (hdep 45 (by kernel_rfl))))
    · exact step_pureO hs (wants_none rfl) rfl fun L u W hG hdep => ⟨_, run_move rfl, (show u 46 = .bool true from hG 46 (hdep 46 (by kernel_rfl)))⟩
    · exact step_load q7 0 hs (wants_on 47 rfl rfl (by kernel_rfl) (fun _ => rfl)) rfl rfl tyS (fun _ => E7.out) hm7.lt hm7 (noSto_apart (by kernel_rfl))
    · exact step_pureO hs (wants_on 47 rfl rfl (by kernel_rfl) (fun _ => rfl)) rfl fun L u W hG hdep => ⟨_, run_move rfl, rfl⟩
    · refine step_callO hs (wants_on 47 rfl rfl (by kernel_rfl) (fun _ => rfl)) rfl fun L u W hJ hG hdep K hK => ?_
      have a0 := (show IsFs rS (u 48) [x] from hG 48 (hdep 48 (by kernel_rfl)))
      have x0 := (show u 49 = .int .i64 k from hG 49 (hdep 49 (by kernel_rfl)))
      go_simp
      go_at_call 13
      (with_reducible refine (cScBit (z := z) (HZ.out) a0 _).mono ?_); rintro e w1 ⟨rfl, hb⟩
      have hk := hK.out _ _ rfl hb
      simp only [x0] at hk
      exact hk
    · exact step_load q9 0 hs (wants_on 47 rfl rfl (by kernel_rfl) (fun _ => rfl)) rfl rfl tySc (fun _ => E9.out) hm9.lt hm9 (noSto_apart (by kernel_rfl))
    · exact step_pureO hs (wants_on 47 rfl rfl (by kernel_rfl) (fun _ => rfl)) rfl fun L u W hG hdep => ⟨_, run_move rfl, rfl⟩
    · refine step_callO hs (wants_on 47 rfl rfl (by kernel_rfl) (fun _ => rfl)) rfl fun L u W hJ hG hdep K hK => ?_
      have a0 := (show IsFs rC (u 51) [x] from hG 51 (hdep 51 (by kernel_rfl)))
      have x0 := (show u 52 = .int .i64 k from hG 52 (hdep 52 (by kernel_rfl)))
      go_simp
      go_at_call 25
      (with_reducible refine (kScBit (z := z) (HZ.out) a0 _).mono ?_); rintro e w1 ⟨rfl, hb⟩
      have hk := hK.out _ _ rfl hb
      simp only [x0] at hk
      exact hk
    · refine step_pureO hs (wants_on 47 rfl rfl (by kernel_rfl) (fun _ => rfl)) rfl fun L u W hG hdep => ⟨_, ?_, rfl⟩
      have e0 := (show u 50 = .int .i64 z from hG 50 (hdep 50 (by kernel_rfl)))
      have e1 := (show u 53 = .int .i64 z from hG 53 (hdep 53 (by kernel_rfl)))
      go_simp
      try simp [bne]
    · exact step_pick true hs (wants_none rfl) rfl rfl (fun L u W hG hdep => (show u 47 = .bool true from hG 47 (hdep 47 (by kernel_rfl)))) (fun L u W hG hdep => (show u 54 = .bool true from hG 54 (hdep 54 (by kernel_rfl))))
    · exact step_pureO hs (wants_none rfl) rfl fun L u W hG hdep => ⟨_, run_move rfl, (show u 55 = .bool true from hG 55 (hdep 55 (by kernel_rfl)))⟩
    · refine step_callO hs (wants_on 56 rfl rfl (by kernel_rfl) (fun _ => rfl)) rfl fun L u W hJ hG hdep K hK => ?_
      go_simp
      go_at_call 8
      (with_reducible refine (law7awake_any _).mono ?_); rintro e w1 ⟨rfl, hb⟩
      have hk := hK.out _ _ rfl hb
      exact hk
    · exact step_pick true hs (wants_none rfl) rfl rfl (fun L u W hG hdep => (show u 56 = .bool true from hG 56 (hdep 56 (by kernel_rfl)))) (fun L u W hG hdep => (show u 57 = .bool true from hG 57 (hdep 57 (by kernel_rfl))))
    · exact step_pureO hs (wants_none rfl) rfl fun L u W hG hdep => ⟨_, run_assign rfl, (show u 58 = .bool true from hG 58 (hdep 58 (by kernel_rfl)))⟩
  intro L7 u7 W7 hall hJ hG
  have hb := hJ.all rfl
  have hbel := Below.call hbel hb
  have hm7 := hm7.later hb
  have hm8 := hm8.later hb
  have hm9 := hm9.later hb
  have hm10 := hm10.later hb
  have hm11 := hm11.later hb
  have hm13 := hm13.later hb
  have ht7 := there_later ht7 hb
  have ht8 := there_later ht8 hb
  have ht9 := there_later ht9 hb
  have ht10 := there_later ht10 hb
  have ht11 := there_later ht11 hb
  have ht13 := there_later ht13 hb
  have HC44 := Lib.hid (show u7 2 = .bool true from hG 2 (by simp))
  have HC45 := Lib.hid (show u7 3 = .bool true from hG 3 (by simp))
  have HC48 := Lib.hid (show u7 6 = .bool true from hG 6 (by simp))
  have HC49 := Lib.hid (show u7 7 = .bool true from hG 7 (by simp))
  have HC50 := Lib.hid (show u7 8 = .bool true from hG 8 (by simp))
  have HC53 := Lib.hid (show u7 11 = .bool true from hG 11 (by simp))
  have HC54 := Lib.hid (show u7 12 = .bool true from hG 12 (by simp))
  have HC55 := Lib.hid (show u7 13 = .bool true from hG 13 (by simp))
  have HC62 := Lib.hid (show u7 20 = .bool true from hG 20 (by simp))
  have HC63 := Lib.hid (show u7 21 = .bool true from hG 21 (by simp))
  have HC64 := Lib.hid (show u7 22 = .bool true from hG 22 (by simp))
  have HC71 := Lib.hid (show u7 29 = .bool true from hG 29 (by simp))
  have HC72 := Lib.hid (show u7 30 = .bool true from hG 30 (by simp))
  have HC73 := Lib.hid (show u7 31 = .bool true from hG 31 (by simp))
  have HC78 := Lib.hid (show u7 36 = .bool true from hG 36 (by simp))
  have HC79 := Lib.hid (show u7 37 = .bool true from hG 37 (by simp))
  have HC80 := Lib.hid (show u7 38 = .bool true from hG 38 (by simp))
  have HC83 := Lib.hid (show u7 41 = .bool q from hG 41 (by simp))
  have HC86 := Lib.hid (show u7 44 = .bool q from hG 44 (by simp))
  have HC87 := Lib.hid (show u7 45 = .bool true from hG 45 (by simp))
  have HC88 := Lib.hid (show u7 46 = .bool true from hG 46 (by simp))
  have HC89 := Lib.hid (show u7 47 = .bool true from hG 47 (by simp))
  have HC96 := Lib.hid (show u7 54 = .bool true from hG 54 (by simp))
  have HC97 := Lib.hid (show u7 55 = .bool true from hG 55 (by simp))
  have HC98 := Lib.hid (show u7 56 = .bool true from hG 56 (by simp))
  have HC99 := Lib.hid (show u7 57 = .bool true from hG 57 (by simp))
  have HC100 := Lib.hid (show u7 58 = .bool true from hG 58 (by simp))
  have HC6 := Lib.hid (show u7 59 = .bool true from hG 59 (by simp))
  have hbel0 := hbel
  clear hJ hG hall hb
  rw [HC6.out]
  go_wp2
  go_ret
  exact ⟨rfl, hbel⟩
end Go.Proofs.Ytbgfokdchpcifaa
