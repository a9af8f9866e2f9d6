/- Of chapter 8, PointOrder: for every input the law returns true, and each argument reads behind the call as it read before. No condition. -/
import Derived.Test.YtjchdhpijopikaaZPCD
import Derived.ProofKit
import Derived.ShutString
import Derived.ChangeOld
namespace Go.Proofs.Ytjchdhpijopikaa
open Go Go.ChangeShapes Go.WideShapes Go.ChangeAt Go.RowKit
open Go.ChangeMaps (open_string shut_string)

set_option maxRecDepth 100000 in
set_option maxHeartbeats 8000000 in
theorem pointOrder_few {a : Option Addr} {na capa : Nat} {la : List UInt8} {k : Int} (w : World) (ha : RdB w a na capa la) (t0 : ¬ (100 : Int) < (na : Int)) :
    Calls Try.prog 7 #[.slice a na capa, .int .i64 k] w fun e w' => e = .returned (.bool true) ∧ Below w.heap.size w w' := by
  have d0 : decide ((100 : Int) < (na : Int)) = false := decide_eq_false t0
  obtain ⟨sa, hsa⟩ : ∃ s, wS la = s := ⟨_, rfl⟩; have HSa := Lib.hid hsa; clear hsa
  have HLa : Hid (sa.val < Lq) := Lib.hid (by rw [← HSa.out]; exact wS_lt _)
  obtain ⟨P, hP⟩ : ∃ P, Cp.mul sa.val base = P := ⟨_, rfl⟩; have HP := Lib.hid hP; clear hP
  obtain ⟨q, hq⟩ : ∃ q, decide (P = Cp.zero) = q := ⟨_, rfl⟩
  have HQ := Lib.hid hq; clear hq
  obtain ⟨rn, hr⟩ : ∃ rn : Nat, k % 100 = (rn : Int) := ⟨(k % 100).toNat, by omega⟩
  have HRK := Lib.hid hr
  have HR : Hid (rn < 100) := Lib.hid (by omega)
  obtain ⟨mn, hm⟩ : ∃ m, m = 2 * rn := ⟨_, rfl⟩
  have HM := Lib.hid hm
  have HMW : Hid (IntKind.i64.wrap (2 * (rn : Int)) = (mn : Int)) := Lib.hid (by have := HR.out; rw [IntKind.wrap_i64]; omega)
  clear hr hm
  clear t0
  go_enter Try.func7, Try.ntmps7
  have hbel : Below w.heap.size w w := Below.refl _ _
  have hbel0 := hbel
  go_upto_region 0 with fail
  refine wp_region_turn (fun u => (.slice a na capa :: .int .i64 k :: undef :: undef :: u 0 :: undef :: undef :: undef :: undef :: undef :: undef :: undef :: undef :: undef :: undef :: undef :: undef :: undef :: undef :: undef :: undef :: undef :: undef :: undef :: undef :: undef :: undef :: undef :: undef :: undef :: undef :: undef :: undef :: undef :: undef :: undef :: undef :: undef :: undef :: undef :: undef :: undef :: undef :: undef :: undef :: undef :: undef :: undef :: undef :: undef :: undef :: undef :: undef :: undef :: undef :: undef :: undef :: undef :: undef :: undef :: undef :: undef :: undef :: undef :: undef :: undef :: undef :: undef :: undef :: undef :: undef :: undef :: undef :: undef :: undef :: undef :: undef :: undef :: undef :: undef :: undef :: undef :: undef :: undef :: undef :: undef :: undef :: undef :: undef :: undef :: undef :: undef :: undef :: undef :: undef :: undef :: undef :: undef :: undef :: undef :: undef :: undef :: undef :: undef :: undef :: undef :: undef :: undef :: undef :: undef :: []).toArray) (Holds [.oth (fun v => v = .bool false)] w) (Keep [.oth (fun v => v = .bool false)] w) (fun _ => undef) ?_ (by rfl) Keep.start (holds_soft (by kernel_rfl)) ?_ ?_
  · intro u i v h
    rcases i with _ | i
    all_goals first | (simp [Act.put, putV]; done) | (exfalso; simp at h; omega)
  · intro hs
    refine ⟨?_, trivial⟩
    · exact step_pureO hs (wants_none rfl) rfl fun L u W hG hdep => ⟨_, run_assign rfl, rfl⟩
  intro L0 u0 W0 hall hJ hG
  have hb := hJ.all rfl
  have hbel := Below.call hbel hb
  have HC4 := Lib.hid (show u0 0 = .bool false from hG 0 (by simp))
  have hbel0 := hbel
  clear hJ hG hall hb
  go_upto_region 1 with fail
  refine wp_region_turn (fun u => (.slice a na capa :: .int .i64 k :: undef :: undef :: u0 0 :: undef :: undef :: undef :: undef :: undef :: undef :: undef :: undef :: u 0 :: u 1 :: u 2 :: undef :: undef :: undef :: undef :: undef :: undef :: undef :: undef :: undef :: undef :: undef :: undef :: undef :: undef :: undef :: undef :: undef :: undef :: undef :: undef :: undef :: undef :: undef :: undef :: undef :: undef :: undef :: undef :: undef :: undef :: undef :: undef :: undef :: undef :: undef :: undef :: undef :: undef :: undef :: undef :: undef :: undef :: undef :: undef :: undef :: undef :: undef :: undef :: undef :: undef :: undef :: undef :: undef :: undef :: undef :: undef :: undef :: undef :: undef :: undef :: undef :: undef :: undef :: undef :: undef :: undef :: undef :: undef :: undef :: undef :: undef :: undef :: undef :: undef :: undef :: undef :: undef :: undef :: undef :: undef :: undef :: undef :: undef :: undef :: undef :: undef :: undef :: undef :: undef :: undef :: undef :: undef :: undef :: undef :: []).toArray) (Holds [.oth (fun v => v = .slice a na capa), .oth (fun v => v = .int .i64 (na : Nat)), .oth (fun v => v = .bool false)] W0) (Keep [.oth (fun v => v = .slice a na capa), .oth (fun v => v = .int .i64 (na : Nat)), .oth (fun v => v = .bool false)] W0) (fun _ => undef) ?_ (by rfl) Keep.start (holds_soft (by kernel_rfl)) ?_ ?_
  · intro u i v h
    rcases i with _ | _ | _ | i
    all_goals first | (simp [Act.put, putV]; done) | (exfalso; simp at h; omega)
  · intro hs
    refine ⟨?_, ?_, ?_, trivial⟩
    · exact step_pureO hs (wants_none rfl) rfl fun L u W hG hdep => ⟨_, run_move rfl, rfl⟩
    · refine step_pureO hs (wants_none rfl) rfl fun L u W hG hdep => ⟨_, ?_, rfl⟩
      have e0 := (show u 0 = .slice a na capa from hG 0 (hdep 0 (by kernel_rfl)))
      go_simp
    · refine step_pureO hs (wants_none rfl) rfl fun L u W hG hdep => ⟨_, ?_, rfl⟩
      have e0 := (show u 1 = .int .i64 (na : Nat) from hG 1 (hdep 1 (by kernel_rfl)))
      go_simp
      try simp [bne]
  intro L1 u1 W1 hall hJ hG
  have hb := hJ.all rfl
  have hbel := Below.call hbel hb
  have HC15 := Lib.hid (show u1 2 = .bool false from hG 2 (by simp))
  have hbel0 := hbel
  clear hJ hG hall hb
  have hx : u1 2 = .bool false := HC15.out
  go_wp2_with fail
  rw [hx]
  clear hx
  clear d0
  go_upto_region 3 with fail
  refine wp_region_turn (fun u => (.slice a na capa :: .int .i64 k :: undef :: undef :: u0 0 :: u 2 :: undef :: undef :: undef :: undef :: undef :: undef :: undef :: u1 0 :: u1 1 :: .bool false :: undef :: u 0 :: u 1 :: undef :: undef :: undef :: undef :: undef :: undef :: undef :: undef :: undef :: undef :: undef :: undef :: undef :: undef :: undef :: undef :: undef :: undef :: undef :: undef :: undef :: undef :: undef :: undef :: undef :: undef :: undef :: undef :: undef :: undef :: undef :: undef :: undef :: undef :: undef :: undef :: undef :: undef :: undef :: undef :: undef :: undef :: undef :: undef :: undef :: undef :: undef :: undef :: undef :: undef :: undef :: undef :: undef :: undef :: undef :: undef :: undef :: undef :: undef :: undef :: undef :: undef :: undef :: undef :: undef :: undef :: undef :: undef :: undef :: undef :: undef :: undef :: undef :: undef :: undef :: undef :: undef :: undef :: undef :: undef :: undef :: undef :: undef :: undef :: undef :: undef :: undef :: undef :: undef :: undef :: undef :: []).toArray) (Holds [.oth (fun v => v = .slice a na capa), .val rS [sa], .new 4, .st 2 rS [sa]] W1) (Keep [.oth (fun v => v = .slice a na capa), .val rS [sa], .new 4, .st 2 rS [sa]] W1) (fun _ => undef) ?_ (by rfl) Keep.start (holds_soft (by kernel_rfl)) ?_ ?_
  · intro u i v h
    rcases i with _ | _ | _ | _ | i
    all_goals first | (simp [Act.put, putV]; done) | (exfalso; simp at h; omega)
  · intro hs
    refine ⟨?_, ?_, ?_, ?_, trivial⟩
    · exact step_pureO hs (wants_none rfl) rfl fun L u W hG hdep => ⟨_, run_move rfl, rfl⟩
    · refine step_call hs (wants_none rfl) rfl fun L u W hJ hG hL hdep K hK => ?_
      have x0 := (show u 0 = .slice a na capa from hG 0 (hdep 0 (by kernel_rfl)))
      have hRB0 := (ha.below hbel).below (hJ.all rfl)
      go_simp
      go_at_call 18
      (with_reducible refine (cWide HSa.out hRB0).mono ?_); rintro e w1 ⟨r, rfl, hr, hb⟩
      have hk := hK.out _ _ hr hb
      simp only [x0] at hk
      exact hk
    · exact step_alloc hs (wants_none rfl) rfl rfl (by omega) rfl allocS
    · exact step_store 2 hs (by kernel_rfl) (wants_none rfl) rfl rfl rfl (by kernel_rfl) (by kernel_rfl) (by kernel_rfl) (by kernel_rfl) (fun _ => rfl) (gives_op 1 rfl (by kernel_rfl) (fun _ => rfl)) tyS rfl
  intro L3 u3 W3 hall hJ hG
  obtain ⟨q5, e5, hq5, _, ht5⟩ := (show ∃ g, u3 2 = .pointer (some ⟨g, 0, none⟩) ∧ W1.heap.size ≤ g ∧ 0 < 4 ∧ W3.there g 0 4 from hG 2 (by simp))
  have hm5 : HasFs rS W3 q5 0 [sa] := by
    obtain ⟨g, e, _, h⟩ := (show ∃ g, u3 2 = .pointer (some ⟨g, 0, none⟩) ∧ W1.heap.size ≤ g ∧ HasFs rS W3 g 0 [sa] from hG 3 (by simp))
    rw [e5] at e; cases e; exact h
  have hq5 : w.heap.size ≤ q5 := by have := hbel0.size; omega
  have E5 := Lib.hid e5; clear e5
  have hb := hJ.all rfl
  have hbel := Below.call hbel hb
  have hbel0 := hbel
  clear hJ hG hall hb
  go_upto_region 4 with fail
  refine wp_region_mid (fun u => (.slice a na capa :: .int .i64 k :: undef :: undef :: u0 0 :: u3 2 :: u 3 :: undef :: undef :: undef :: undef :: undef :: undef :: u1 0 :: u1 1 :: .bool false :: undef :: u3 0 :: u3 1 :: u 0 :: u 1 :: u 2 :: undef :: undef :: undef :: undef :: undef :: undef :: undef :: undef :: undef :: undef :: undef :: undef :: undef :: undef :: undef :: undef :: undef :: undef :: undef :: undef :: undef :: undef :: undef :: undef :: undef :: undef :: undef :: undef :: undef :: undef :: undef :: undef :: undef :: undef :: undef :: undef :: undef :: undef :: undef :: undef :: undef :: undef :: undef :: undef :: undef :: undef :: undef :: undef :: undef :: undef :: undef :: undef :: undef :: undef :: undef :: undef :: undef :: undef :: undef :: undef :: undef :: undef :: undef :: undef :: undef :: undef :: undef :: undef :: undef :: undef :: undef :: undef :: undef :: undef :: undef :: undef :: undef :: undef :: undef :: undef :: undef :: undef :: undef :: undef :: undef :: undef :: undef :: undef :: []).toArray) (Holds [.val rP [base], .val rS [sa], .val rP [P], .new 20, .st 3 rP [P]] W3) (Keep [.val rP [base], .val rS [sa], .val rP [P], .new 20, .st 3 rP [P]] W3) (fun _ => undef) (by kernel_rfl) (by kernel_rfl) ?_ (by rfl) Keep.drew (holds_soft (by kernel_rfl)) ?_ ?_
  · intro u i v h
    rcases i with _ | _ | _ | _ | _ | i
    all_goals first | (simp [Act.put, putV]; done) | (exfalso; simp at h; omega)
  · intro hs
    refine ⟨?_, ?_, ?_, ?_, ?_, trivial⟩
    · refine step_call hs (wants_none rfl) rfl fun L u W hJ hG hL hdep K hK => ?_
      go_simp
      go_at_call 16
      (with_reducible refine (cBase _).mono ?_); rintro e w1 ⟨r, rfl, hr, hb⟩
      have hk := hK.out _ _ hr hb
      exact hk
    · exact step_load q5 0 hs (wants_none rfl) rfl rfl tyS (fun _ => E5.out) hm5.lt hm5 (noSto_apart (by kernel_rfl))
    · refine step_call hs (wants_none rfl) rfl fun L u W hJ hG hL hdep K hK => ?_
      have a0 := (show IsFs rP (u 0) [base] from hG 0 (hdep 0 (by kernel_rfl)))
      have a1 := (show IsFs rS (u 1) [sa] from hG 1 (hdep 1 (by kernel_rfl)))
      go_simp
      go_at_call 17
      (with_reducible refine (cMult HP.out a0 a1 _).mono ?_); rintro e w1 ⟨r, rfl, hr, hb⟩
      have hk := hK.out _ _ hr hb
      exact hk
    · exact step_alloc hs (wants_none rfl) rfl rfl (by omega) rfl allocP
    · exact step_store 3 hs (by kernel_rfl) (wants_none rfl) rfl rfl rfl (by kernel_rfl) (by kernel_rfl) (by kernel_rfl) (by kernel_rfl) (fun _ => rfl) (gives_op 2 rfl (by kernel_rfl) (fun _ => rfl)) tyP rfl
  intro L4 u4 W4 hall hJ hG
  obtain ⟨q6, e6, hq6, _, ht6⟩ := (show ∃ g, u4 3 = .pointer (some ⟨g, 0, none⟩) ∧ W3.heap.size ≤ g ∧ 0 < 20 ∧ W4.there g 0 20 from hG 3 (by simp))
  have hm6 : HasFs rP W4 q6 0 [P] := by
    obtain ⟨g, e, _, h⟩ := (show ∃ g, u4 3 = .pointer (some ⟨g, 0, none⟩) ∧ W3.heap.size ≤ g ∧ HasFs rP W4 g 0 [P] from hG 4 (by simp))
    rw [e6] at e; cases e; exact h
  have HD6_q5 := Lib.hid (show q5 ≠ q6 by have := there_lt ht5 (by omega); omega)
  have hq6 : w.heap.size ≤ q6 := by have := hbel0.size; omega
  have E6 := Lib.hid e6; clear e6
  have hb := hJ.all rfl
  have hbel := Below.call hbel hb
  have hm5 := hm5.later hb
  have ht5 := there_later ht5 hb
  have hbel0 := hbel
  clear hJ hG hall hb
  go_upto_region 5 with fail
  refine wp_region_turn (fun u => (.slice a na capa :: .int .i64 k :: undef :: undef :: u0 0 :: u3 2 :: u4 3 :: u 3 :: undef :: undef :: undef :: undef :: undef :: u1 0 :: u1 1 :: .bool false :: undef :: u3 0 :: u3 1 :: u4 0 :: u4 1 :: u4 2 :: u 0 :: u 1 :: u 2 :: undef :: undef :: undef :: undef :: undef :: undef :: undef :: undef :: undef :: undef :: undef :: undef :: undef :: undef :: undef :: undef :: undef :: undef :: undef :: undef :: undef :: undef :: undef :: undef :: undef :: undef :: undef :: undef :: undef :: undef :: undef :: undef :: undef :: undef :: undef :: undef :: undef :: undef :: undef :: undef :: undef :: undef :: undef :: undef :: undef :: undef :: undef :: undef :: undef :: undef :: undef :: undef :: undef :: undef :: undef :: undef :: undef :: undef :: undef :: undef :: undef :: undef :: undef :: undef :: undef :: undef :: undef :: undef :: undef :: undef :: undef :: undef :: undef :: undef :: undef :: undef :: undef :: undef :: undef :: undef :: undef :: undef :: undef :: undef :: undef :: []).toArray) (Holds [.rdt [1] 1, .val rS [(fn 1)], .val rS [dN ((fn 1))], .new 4, .st 3 rS [dN ((fn 1))]] W4) (Keep [.rdt [1] 1, .val rS [(fn 1)], .val rS [dN ((fn 1))], .new 4, .st 3 rS [dN ((fn 1))]] W4) (fun _ => undef) ?_ (by rfl) Keep.start (holds_soft (by kernel_rfl)) ?_ ?_
  · intro u i v h
    rcases i with _ | _ | _ | _ | _ | i
    all_goals first | (simp [Act.put, putV]; done) | (exfalso; simp at h; omega)
  · intro hs
    refine ⟨?_, ?_, ?_, ?_, ?_, trivial⟩
    · exact step_buildT hs (wants_none rfl) rfl rfl rfl (by unfold maxLen; omega) (fun a w => by unfold execOp; go_simp; try rfl)
    · refine step_call hs (wants_none rfl) rfl fun L u W hJ hG hL hdep K hK => ?_
      obtain ⟨gR0, nR0, cR0, rR0, x0, _, hRn0, hRc0, hRm0, hR0⟩ := (show ∃ g n cap r, u 0 = .slice (some ⟨g, 0, none⟩) n cap ∧ W4.heap.size ≤ g ∧ ([1]).length = n ∧ n ≤ cap ∧ cap ≤ maxLen ∧ (L 1 = false → Blk W g (([1]).map bV ++ r) 5) from hG 0 (hdep 0 (by kernel_rfl)))
      have hB0 := RdB.blk rR0 (hR0 hL) hRn0 hRc0 hRm0
      go_simp
      go_at_call 18
      (with_reducible refine (cWide wide_one1 hB0).mono ?_); rintro e w1 ⟨r, rfl, hr, hb⟩
      have hk := hK.out _ _ hr hb
      simp only [x0] at hk
      exact hk
    · refine step_call hs (wants_none rfl) rfl fun L u W hJ hG hL hdep K hK => ?_
      have a0 := (show IsFs rS (u 1) [(fn 1)] from hG 1 (hdep 1 (by kernel_rfl)))
      go_simp
      go_at_call 31
      (with_reducible refine (cScNeg a0 _).mono ?_); rintro e w1 ⟨r, rfl, hr, hb⟩
      have hk := hK.out _ _ hr hb
      exact hk
    · exact step_alloc hs (wants_none rfl) rfl rfl (by omega) rfl allocS
    · exact step_store 3 hs (by kernel_rfl) (wants_none rfl) rfl rfl rfl (by kernel_rfl) (by kernel_rfl) (by kernel_rfl) (by kernel_rfl) (fun _ => rfl) (gives_op 2 rfl (by kernel_rfl) (fun _ => rfl)) tyS rfl
  intro L5 u5 W5 hall hJ hG
  obtain ⟨q7, e7, hq7, _, ht7⟩ := (show ∃ g, u5 3 = .pointer (some ⟨g, 0, none⟩) ∧ W4.heap.size ≤ g ∧ 0 < 4 ∧ W5.there g 0 4 from hG 3 (by simp))
  have hm7 : HasFs rS W5 q7 0 [dN ((fn 1))] := by
    obtain ⟨g, e, _, h⟩ := (show ∃ g, u5 3 = .pointer (some ⟨g, 0, none⟩) ∧ W4.heap.size ≤ g ∧ HasFs rS W5 g 0 [dN ((fn 1))] from hG 4 (by simp))
    rw [e7] at e; cases e; exact h
  have HD7_q5 := Lib.hid (show q5 ≠ q7 by have := there_lt ht5 (by omega); omega)
  have HD7_q6 := Lib.hid (show q6 ≠ q7 by have := there_lt ht6 (by omega); omega)
  have hq7 : w.heap.size ≤ q7 := by have := hbel0.size; omega
  have E7 := Lib.hid e7; clear e7
  have hb := hJ.all rfl
  have hbel := Below.call hbel hb
  have hm5 := hm5.later hb
  have hm6 := hm6.later hb
  have ht5 := there_later ht5 hb
  have ht6 := there_later ht6 hb
  have hbel0 := hbel
  clear hJ hG hall hb
  go_upto_region 6 with fail
  refine wp_region_turn (fun u => (.slice a na capa :: .int .i64 k :: undef :: undef :: u0 0 :: u3 2 :: u4 3 :: u5 3 :: u 0 :: undef :: undef :: undef :: undef :: u1 0 :: u1 1 :: .bool false :: undef :: u3 0 :: u3 1 :: u4 0 :: u4 1 :: u4 2 :: u5 0 :: u5 1 :: u5 2 :: undef :: undef :: undef :: undef :: undef :: undef :: undef :: undef :: undef :: undef :: undef :: undef :: undef :: undef :: undef :: undef :: undef :: undef :: undef :: undef :: undef :: undef :: undef :: undef :: undef :: undef :: undef :: undef :: undef :: undef :: undef :: undef :: undef :: undef :: undef :: undef :: undef :: undef :: undef :: undef :: undef :: undef :: undef :: undef :: undef :: undef :: undef :: undef :: undef :: undef :: undef :: undef :: undef :: undef :: undef :: undef :: undef :: undef :: undef :: undef :: undef :: undef :: undef :: undef :: undef :: undef :: undef :: undef :: undef :: undef :: undef :: undef :: undef :: undef :: undef :: undef :: undef :: undef :: undef :: undef :: undef :: undef :: undef :: undef :: undef :: []).toArray) (Holds [.box rP [Cp.zero]] W5) (Keep [.box rP [Cp.zero]] W5) (fun _ => undef) ?_ (by rfl) Keep.start (holds_soft (by kernel_rfl)) ?_ ?_
  · intro u i v h
    rcases i with _ | i
    all_goals first | (simp [Act.put, putV]; done) | (exfalso; simp at h; omega)
  · intro hs
    refine ⟨?_, trivial⟩
    · exact step_allocZ hs (wants_none rfl) rfl rfl zero_P allocP
  intro L6 u6 W6 hall hJ hG
  obtain ⟨q8, e8, ⟨hq8, _⟩, ht8, hm8⟩ := (show ∃ g, u6 0 = .pointer (some ⟨g, 0, none⟩) ∧ (W5.heap.size ≤ g ∧ g < W6.heap.size) ∧ W6.there g 0 20 ∧ HasFs rP W6 g 0 [Cp.zero] from hG 0 (by simp))
  have HD8_q5 := Lib.hid (show q5 ≠ q8 by have := there_lt ht5 (by omega); omega)
  have HD8_q6 := Lib.hid (show q6 ≠ q8 by have := there_lt ht6 (by omega); omega)
  have HD8_q7 := Lib.hid (show q7 ≠ q8 by have := there_lt ht7 (by omega); omega)
  have hq8 : w.heap.size ≤ q8 := by have := hbel0.size; omega
  have E8 := Lib.hid e8; clear e8
  have hb := hJ.all rfl
  have hbel := Below.call hbel hb
  have hm5 := hm5.later hb
  have hm6 := hm6.later hb
  have hm7 := hm7.later hb
  have ht5 := there_later ht5 hb
  have ht6 := there_later ht6 hb
  have ht7 := there_later ht7 hb
  have hbel0 := hbel
  clear hJ hG hall hb
  go_upto_region 7 with fail
  refine wp_region_mid (fun u => (.slice a na capa :: .int .i64 k :: undef :: undef :: u0 0 :: u3 2 :: u4 3 :: u5 3 :: u6 0 :: undef :: undef :: undef :: undef :: u1 0 :: u1 1 :: .bool false :: undef :: u3 0 :: u3 1 :: u4 0 :: u4 1 :: u4 2 :: u5 0 :: u5 1 :: u5 2 :: u 0 :: u 1 :: u 2 :: u 3 :: u 4 :: u 5 :: u 6 :: u 7 :: u 8 :: u 9 :: u 10 :: u 11 :: u 12 :: u 13 :: u 14 :: u 15 :: u 16 :: u 17 :: u 18 :: u 19 :: u 20 :: u 21 :: u 22 :: u 23 :: undef :: undef :: undef :: undef :: undef :: undef :: undef :: undef :: undef :: undef :: undef :: undef :: undef :: undef :: undef :: undef :: undef :: undef :: undef :: undef :: undef :: undef :: undef :: undef :: undef :: undef :: undef :: undef :: undef :: undef :: undef :: undef :: undef :: undef :: undef :: undef :: undef :: undef :: undef :: undef :: undef :: undef :: undef :: undef :: undef :: undef :: undef :: undef :: undef :: undef :: undef :: undef :: undef :: undef :: undef :: undef :: undef :: undef :: undef :: undef :: undef :: []).toArray) (Holds [.val rP [P], .val rS [dN ((fn 1))], .val rP [Cp.neg P], .val rP [P], .val rP [Cp.neg P], .oth (fun v => v = .bool true), .oth (fun v => v = .bool false), .oth (fun v => v = .bool false), .val rP [P], .oth (fun v => v = .bool q), .val rP [P], .val rP [Cp.zero], .oth (fun v => v = .bool q), .oth (fun v => v = .bool false), .oth (fun v => v = .bool false), .oth (fun v => v = .bool false), .val rP [P], .val rP [Cp.zero], .oth (fun v => v = .bool q), .val rS [sa], .val rS [0], .oth (fun v => v = .bool q), .oth (fun v => v = .bool false), .oth (fun v => v = .bool false)] W6) (Keep [.val rP [P], .val rS [dN ((fn 1))], .val rP [Cp.neg P], .val rP [P], .val rP [Cp.neg P], .oth (fun v => v = .bool true), .oth (fun v => v = .bool false), .oth (fun v => v = .bool false), .val rP [P], .oth (fun v => v = .bool q), .val rP [P], .val rP [Cp.zero], .oth (fun v => v = .bool q), .oth (fun v => v = .bool false), .oth (fun v => v = .bool false), .oth (fun v => v = .bool false), .val rP [P], .val rP [Cp.zero], .oth (fun v => v = .bool q), .val rS [sa], .val rS [0], .oth (fun v => v = .bool q), .oth (fun v => v = .bool false), .oth (fun v => v = .bool false)] W6) (fun _ => undef) (by kernel_rfl) (by kernel_rfl) ?_ (by rfl) Keep.drew (holds_soft (by kernel_rfl)) ?_ ?_
  · intro u i v h
    rcases i with _ | _ | _ | _ | _ | _ | _ | _ | _ | _ | _ | _ | _ | _ | _ | _ | _ | _ | _ | _ | _ | _ | _ | _ | i
    all_goals first | (simp [Act.put, putV]; done) | (exfalso; simp at h; omega)
  · intro hs
    refine ⟨?_, ?_, ?_, ?_, ?_, ?_, ?_, ?_, ?_, ?_, ?_, ?_, ?_, ?_, ?_, ?_, ?_, ?_, ?_, ?_, ?_, ?_, ?_, ?_, trivial⟩
    · exact step_load q6 0 hs (wants_none rfl) rfl rfl tyP (fun _ => E6.out) hm6.lt hm6 (noSto_apart (by kernel_rfl))
    · exact step_load q7 0 hs (wants_none rfl) rfl rfl tyS (fun _ => E7.out) hm7.lt hm7 (noSto_apart (by kernel_rfl))
    · refine step_call hs (wants_none rfl) rfl fun L u W hJ hG hL hdep K hK => ?_
      have a0 := (show IsFs rP (u 0) [P] from hG 0 (hdep 0 (by kernel_rfl)))
      have a1 := (show IsFs rS (u 1) [dN ((fn 1))] from hG 1 (hdep 1 (by kernel_rfl)))
      go_simp
      go_at_call 17
      (with_reducible refine (cMult (mulb_less HP.out) a0 a1 _).mono ?_); rintro e w1 ⟨r, rfl, hr, hb⟩
      have hk := hK.out _ _ hr hb
      exact hk
    · exact step_load q6 0 hs (wants_none rfl) rfl rfl tyP (fun _ => E6.out) hm6.lt hm6 (noSto_apart (by kernel_rfl))
    · refine step_call hs (wants_none rfl) rfl fun L u W hJ hG hL hdep K hK => ?_
      have a0 := (show IsFs rP (u 3) [P] from hG 3 (hdep 3 (by kernel_rfl)))
      go_simp
      go_at_call 21
      (with_reducible refine (cPNeg a0 _).mono ?_); rintro e w1 ⟨r, rfl, hr, hb⟩
      have hk := hK.out _ _ hr hb
      exact hk
    · refine step_callO hs (wants_none rfl) rfl fun L u W hJ hG hL hdep K hK => ?_
      have a0 := (show IsFs rP (u 2) [Cp.neg P] from hG 2 (hdep 2 (by kernel_rfl)))
      have a1 := (show IsFs rP (u 4) [Cp.neg P] from hG 4 (hdep 4 (by kernel_rfl)))
      go_simp
      go_at_call 19
      (with_reducible refine (cPSame (b := true) (decide_eq_true rfl) a0 a1 _).mono ?_); rintro e w1 ⟨rfl, hb⟩
      have hk := hK.out _ _ rfl hb
      exact hk
    · refine step_pureO hs (wants_none rfl) rfl fun L u W hG hdep => ⟨_, ?_, rfl⟩
      have e0 := (show u 5 = .bool true from hG 5 (hdep 5 (by kernel_rfl)))
      go_simp
    · exact step_pureO hs (wants_none rfl) rfl fun L u W hG hdep => ⟨_, run_move rfl, (show u 6 = .bool false from hG 6 (hdep 6 (by kernel_rfl)))⟩
    · exact step_load q6 0 hs (wants_on 7 rfl rfl (by kernel_rfl) (fun _ => rfl)) rfl rfl tyP (fun _ => E6.out) hm6.lt hm6 (noSto_apart (by kernel_rfl))
    · refine step_callO hs (wants_on 7 rfl rfl (by kernel_rfl) (fun _ => rfl)) rfl fun L u W hJ hG hL hdep K hK => ?_
      have a0 := (show IsFs rP (u 8) [P] from hG 8 (hdep 8 (by kernel_rfl)))
      go_simp
      go_at_call 14
      (with_reducible refine (cPSmall (b := q) (by rw [← HQ.out, decide_eq_decide]; exact mulb_small HP.out) a0 _).mono ?_); rintro e w1 ⟨rfl, hb⟩
      have hk := hK.out _ _ rfl hb
      exact hk
    · exact step_load q6 0 hs (wants_on 7 rfl rfl (by kernel_rfl) (fun _ => rfl)) rfl rfl tyP (fun _ => E6.out) hm6.lt hm6 (noSto_apart (by kernel_rfl))
    · exact step_load q8 0 hs (wants_on 7 rfl rfl (by kernel_rfl) (fun _ => rfl)) rfl rfl tyP (fun _ => E8.out) hm8.lt hm8 (noSto_apart (by kernel_rfl))
    · refine step_callO hs (wants_on 7 rfl rfl (by kernel_rfl) (fun _ => rfl)) rfl fun L u W hJ hG hL hdep K hK => ?_
      have a0 := (show IsFs rP (u 10) [P] from hG 10 (hdep 10 (by kernel_rfl)))
      have a1 := (show IsFs rP (u 11) [Cp.zero] from hG 11 (hdep 11 (by kernel_rfl)))
      go_simp
      go_at_call 19
      (with_reducible refine (cPSame (b := q) (HQ.out) a0 a1 _).mono ?_); rintro e w1 ⟨rfl, hb⟩
      have hk := hK.out _ _ rfl hb
      exact hk
    · refine step_pureO hs (wants_on 7 rfl rfl (by kernel_rfl) (fun _ => rfl)) rfl fun L u W hG hdep => ⟨_, ?_, rfl⟩
      have e0 := (show u 9 = .bool q from hG 9 (hdep 9 (by kernel_rfl)))
      have e1 := (show u 12 = .bool q from hG 12 (hdep 12 (by kernel_rfl)))
      go_simp
      try simp
    · exact step_pick false hs (wants_none rfl) rfl rfl (fun L u W hG hdep => (show u 7 = .bool false from hG 7 (hdep 7 (by kernel_rfl)))) (fun L u W hG hdep => (show u 13 = .bool false from hG 13 (hdep 13 (by kernel_rfl))))
    · exact step_pureO hs (wants_none rfl) rfl fun L u W hG hdep => ⟨_, run_move rfl, (show u 14 = .bool false from hG 14 (hdep 14 (by kernel_rfl)))⟩
    · exact step_load q6 0 hs (wants_on 15 rfl rfl (by kernel_rfl) (fun _ => rfl)) rfl rfl tyP (fun _ => E6.out) hm6.lt hm6 (noSto_apart (by kernel_rfl))
    · exact step_load q8 0 hs (wants_on 15 rfl rfl (by kernel_rfl) (fun _ => rfl)) rfl rfl tyP (fun _ => E8.out) hm8.lt hm8 (noSto_apart (by kernel_rfl))
    · refine step_callO hs (wants_on 15 rfl rfl (by kernel_rfl) (fun _ => rfl)) rfl fun L u W hJ hG hL hdep K hK => ?_
      have a0 := (show IsFs rP (u 16) [P] from hG 16 (hdep 16 (by kernel_rfl)))
      have a1 := (show IsFs rP (u 17) [Cp.zero] from hG 17 (hdep 17 (by kernel_rfl)))
      go_simp
      go_at_call 19
      (with_reducible refine (cPSame (b := q) (HQ.out) a0 a1 _).mono ?_); rintro e w1 ⟨rfl, hb⟩
      have hk := hK.out _ _ rfl hb
      exact hk
    · exact step_load q5 0 hs (wants_on 15 rfl rfl (by kernel_rfl) (fun _ => rfl)) rfl rfl tyS (fun _ => E5.out) hm5.lt hm5 (noSto_apart (by kernel_rfl))
    · refine step_call hs (wants_on 15 rfl rfl (by kernel_rfl) (fun _ => rfl)) rfl fun L u W hJ hG hL hdep K hK => ?_
      have hRB0 := RdB.nil W
      go_simp
      go_at_call 18
      (with_reducible refine (cWide wide_nil0 hRB0).mono ?_); rintro e w1 ⟨r, rfl, hr, hb⟩
      have hk := hK.out _ _ hr hb
      exact hk
    · refine step_callO hs (wants_on 15 rfl rfl (by kernel_rfl) (fun _ => rfl)) rfl fun L u W hJ hG hL hdep K hK => ?_
      have a0 := (show IsFs rS (u 19) [sa] from hG 19 (hdep 19 (by kernel_rfl)))
      have a1 := (show IsFs rS (u 20) [0] from hG 20 (hdep 20 (by kernel_rfl)))
      go_simp
      go_at_call 32
      (with_reducible refine (cScSame (b := q) (by rw [← HQ.out, decide_eq_decide, ← HP.out]; exact (mulb_zero HLa.out).symm) a0 a1 _).mono ?_); rintro e w1 ⟨rfl, hb⟩
      have hk := hK.out _ _ rfl hb
      exact hk
    · refine step_pureO hs (wants_on 15 rfl rfl (by kernel_rfl) (fun _ => rfl)) rfl fun L u W hG hdep => ⟨_, ?_, rfl⟩
      have e0 := (show u 18 = .bool q from hG 18 (hdep 18 (by kernel_rfl)))
      have e1 := (show u 21 = .bool q from hG 21 (hdep 21 (by kernel_rfl)))
      go_simp
      try simp
    · exact step_pick false hs (wants_none rfl) rfl rfl (fun L u W hG hdep => (show u 15 = .bool false from hG 15 (hdep 15 (by kernel_rfl)))) (fun L u W hG hdep => (show u 22 = .bool false from hG 22 (hdep 22 (by kernel_rfl))))
  intro L7 u7 W7 hall hJ hG
  have hb := hJ.all rfl
  have hbel := Below.call hbel hb
  have hm5 := hm5.later hb
  have hm6 := hm6.later hb
  have hm7 := hm7.later hb
  have hm8 := hm8.later hb
  have ht5 := there_later ht5 hb
  have ht6 := there_later ht6 hb
  have ht7 := there_later ht7 hb
  have ht8 := there_later ht8 hb
  have HC30 := Lib.hid (show u7 5 = .bool true from hG 5 (by simp))
  have HC31 := Lib.hid (show u7 6 = .bool false from hG 6 (by simp))
  have HC32 := Lib.hid (show u7 7 = .bool false from hG 7 (by simp))
  have HC34 := Lib.hid (show u7 9 = .bool q from hG 9 (by simp))
  have HC37 := Lib.hid (show u7 12 = .bool q from hG 12 (by simp))
  have HC38 := Lib.hid (show u7 13 = .bool false from hG 13 (by simp))
  have HC39 := Lib.hid (show u7 14 = .bool false from hG 14 (by simp))
  have HC40 := Lib.hid (show u7 15 = .bool false from hG 15 (by simp))
  have HC43 := Lib.hid (show u7 18 = .bool q from hG 18 (by simp))
  have HC46 := Lib.hid (show u7 21 = .bool q from hG 21 (by simp))
  have HC47 := Lib.hid (show u7 22 = .bool false from hG 22 (by simp))
  have HC48 := Lib.hid (show u7 23 = .bool false from hG 23 (by simp))
  have hbel0 := hbel
  clear hJ hG hall hb
  have hx : u7 23 = .bool false := HC48.out
  go_wp2_with fail
  rw [hx]
  clear hx
  go_upto_region 9 with fail
  refine wp_region_turn (fun u => (.slice a na capa :: .int .i64 k :: undef :: undef :: u0 0 :: u3 2 :: u4 3 :: u5 3 :: u6 0 :: u 1 :: undef :: undef :: undef :: u1 0 :: u1 1 :: .bool false :: undef :: u3 0 :: u3 1 :: u4 0 :: u4 1 :: u4 2 :: u5 0 :: u5 1 :: u5 2 :: u7 0 :: u7 1 :: u7 2 :: u7 3 :: u7 4 :: u7 5 :: u7 6 :: u7 7 :: u7 8 :: u7 9 :: u7 10 :: u7 11 :: u7 12 :: u7 13 :: u7 14 :: u7 15 :: u7 16 :: u7 17 :: u7 18 :: u7 19 :: u7 20 :: u7 21 :: u7 22 :: .bool false :: u 0 :: undef :: undef :: undef :: undef :: undef :: undef :: undef :: undef :: undef :: undef :: undef :: undef :: undef :: undef :: undef :: undef :: undef :: undef :: undef :: undef :: undef :: undef :: undef :: undef :: undef :: undef :: undef :: undef :: undef :: undef :: undef :: undef :: undef :: undef :: undef :: undef :: undef :: undef :: undef :: undef :: undef :: undef :: undef :: undef :: undef :: undef :: undef :: undef :: undef :: undef :: undef :: undef :: undef :: undef :: undef :: undef :: undef :: undef :: undef :: undef :: []).toArray) (Holds [.rd (List.replicate 32 0), .rd (List.replicate 32 0)] W7) (Keep [.rd (List.replicate 32 0), .rd (List.replicate 32 0)] W7) (fun _ => undef) ?_ (by rfl) Keep.start (holds_soft (by kernel_rfl)) ?_ ?_
  · intro u i v h
    rcases i with _ | _ | i
    all_goals first | (simp [Act.put, putV]; done) | (exfalso; simp at h; omega)
  · intro hs
    refine ⟨?_, ?_, trivial⟩
    · exact step_makeB (n := 32) hs (wants_none rfl) rfl rfl (by simp) (by unfold maxLen; omega) (fun _ => rfl) (fun _ => rfl) (fun w => by kernel_rfl)
    · exact step_moveB 0 hs (wants_none rfl) rfl (by first | exact .inl rfl | exact .inr rfl) rfl (by kernel_rfl) (fun _ => rfl)
  intro L9 u9 W9 hall hJ hG
  obtain ⟨gB1, nB1, cB1, rB1, eB1, hgB1, hB1, hlB1, hcB1, hmB1⟩ := (show ∃ g n cap r, u9 1 = .slice (some ⟨g, 0, none⟩) n cap ∧ W7.heap.size ≤ g ∧ Blk W9 g ((List.replicate 32 0).map bV ++ r) 5 ∧ (List.replicate 32 0).length = n ∧ n ≤ cap ∧ cap ≤ maxLen from hG 1 (by simp))
  have hgB1 : w.heap.size ≤ gB1 := by have := hbel0.size; omega
  have EB1 := Lib.hid eB1; clear eB1
  obtain rfl : nB1 = 32 := by have h : (((List.replicate 32 0).length : Nat) : Int) = 32 := (by simp); omega
  have HB1 := Lib.hid hB1; clear hB1
  have HE1_q5 := Lib.hid (show q5 ≠ gB1 by have := there_lt ht5 (by omega); omega)
  have HE1_q6 := Lib.hid (show q6 ≠ gB1 by have := there_lt ht6 (by omega); omega)
  have HE1_q7 := Lib.hid (show q7 ≠ gB1 by have := there_lt ht7 (by omega); omega)
  have HE1_q8 := Lib.hid (show q8 ≠ gB1 by have := there_lt ht8 (by omega); omega)
  have hb := hJ.all rfl
  have hbel := Below.call hbel hb
  have hm5 := hm5.later hb
  have hm6 := hm6.later hb
  have hm7 := hm7.later hb
  have hm8 := hm8.later hb
  have ht5 := there_later ht5 hb
  have ht6 := there_later ht6 hb
  have ht7 := there_later ht7 hb
  have ht8 := there_later ht8 hb
  have hbel0 := hbel
  clear hJ hG hall hb
  have HBF : Hid (Blk W9 gB1 ((fillB 0).map bV ++ rB1) 5) := Lib.hid HB1.out
  go_wp2_with fail
  go_loopw [10] (fun s wr => ∃ kk : Nat, kk ≤ 32 ∧ s = .int .i64 (kk : Int) ∧ Blk wr gB1 ((fillB kk).map bV ++ rB1) 5 ∧ HasFs rS wr q5 0 [sa] ∧ HasFs rP wr q6 0 [P] ∧ HasFs rP wr q8 0 [Cp.zero] ∧ Below w.heap.size w wr) (fun s _ => 32 - (intOf s).toNat)
  case atStart => exact ⟨0, by omega, rfl, HBF.out, hm5, hm6, hm8, hbel⟩
  case round =>
    clear HBF HB1 hm5 hm6 hm7 hm8 ht5 ht6 ht7 ht8 hbel hbel0
    obtain ⟨kk, hk, rfl, hB, hS, hP, hZ, hbel⟩ := hrel
    have hbel0 := hbel
    have HB := Lib.hid hB; clear hB
    by_cases hlt : kk < 32
    · have k0 : (0 : Int) ≤ (kk : Int) := by omega
      have k1 : (kk : Int) < 32 := by omega
      have HCC : Hid (wr.cell? ⟨gB1, kk, none⟩ = some (.int .u8 0)) := Lib.hid (by rw [HB.out.cell, List.getElem?_append_left (by rw [List.length_map, fillB_len (by omega)]; omega), List.getElem?_map, fillB_get hlt]; rfl)
      have HCF : Hid (wr.frozen? ⟨gB1, kk, none⟩ = false) := Lib.hid (HB.out.frozen kk)
      have HLT := Lib.hid hlt; clear hlt
      go_upto_region 13 with fail
      refine wp_region_turn (fun u => (.slice a na capa :: .int .i64 k :: undef :: undef :: u0 0 :: u3 2 :: u4 3 :: u5 3 :: u6 0 :: u9 1 :: .int .i64 (kk : Int) :: undef :: undef :: u1 0 :: u1 1 :: .bool false :: undef :: u3 0 :: u3 1 :: u4 0 :: u4 1 :: u4 2 :: u5 0 :: u5 1 :: u5 2 :: u7 0 :: u7 1 :: u7 2 :: u7 3 :: u7 4 :: u7 5 :: u7 6 :: u7 7 :: u7 8 :: u7 9 :: u7 10 :: u7 11 :: u7 12 :: u7 13 :: u7 14 :: u7 15 :: u7 16 :: u7 17 :: u7 18 :: u7 19 :: u7 20 :: u7 21 :: u7 22 :: .bool false :: u9 0 :: .int .i64 (kk : Int) :: .bool true :: u52 :: u53 :: u 0 :: u 1 :: u 2 :: undef :: undef :: undef :: undef :: undef :: undef :: undef :: undef :: undef :: undef :: undef :: undef :: undef :: undef :: undef :: undef :: undef :: undef :: undef :: undef :: undef :: undef :: undef :: undef :: undef :: undef :: undef :: undef :: undef :: undef :: undef :: undef :: undef :: undef :: undef :: undef :: undef :: undef :: undef :: undef :: undef :: undef :: undef :: undef :: undef :: undef :: undef :: undef :: undef :: undef :: undef :: undef :: undef :: []).toArray) (Holds [.oth (fun v => v = .slice (some ⟨gB1, 0, none⟩) 32 cB1), .oth (fun v => v = .int .i64 (kk : Int)), .oth (fun v => v = .pointer (some ⟨gB1, kk, none⟩)), .cst gB1 kk (.int .u8 255)] wr) (Keep [.oth (fun v => v = .slice (some ⟨gB1, 0, none⟩) 32 cB1), .oth (fun v => v = .int .i64 (kk : Int)), .oth (fun v => v = .pointer (some ⟨gB1, kk, none⟩)), .cst gB1 kk (.int .u8 255)] wr) (fun k => ((u54 :: u55 :: u56 :: undef :: []) : List Value).getD k undef) ?_ (by rfl) Keep.start (holds_soft (by kernel_rfl)) ?_ ?_
      · intro u i v h
        rcases i with _ | _ | _ | _ | i
        all_goals first | (simp [Act.put, putV]; done) | (exfalso; simp at h; omega)
      · intro hs
        refine ⟨?_, ?_, ?_, ?_, trivial⟩
        · exact step_pureO hs (wants_none rfl) rfl fun L u W hG hdep => ⟨_, run_move rfl, EB1.out⟩
        · exact step_pureO hs (wants_none rfl) rfl fun L u W hG hdep => ⟨_, run_move rfl, rfl⟩
        · refine step_pureO hs (wants_none rfl) rfl fun L u W hG hdep => ⟨_, ?_, rfl⟩
          have e0 := (show u 0 = .slice (some ⟨gB1, 0, none⟩) 32 cB1 from hG 0 (hdep 0 (by kernel_rfl)))
          have e1 := (show u 1 = .int .i64 (kk : Int) from hG 1 (hdep 1 (by kernel_rfl)))
          go_simp
        · refine step_cst (old := .int .u8 0) gB1 kk hs (wants_none rfl) rfl rfl (by kernel_rfl) (fun k hk => ?_) (fun _ h1 h2 => store_u8 h1 h2) (fun L u W hG hdep => (show u 2 = .pointer (some ⟨gB1, kk, none⟩) from hG 2 (hdep 2 (by kernel_rfl)))) (fun L u W hG hdep => rfl) HCC.out HCF.out
          rcases k with _ | _ | _ | _ | k
          all_goals first | (exact absurd rfl hk) | (intro e; cases e; done)
      intro L13 u13 W13 hall hJ hG
      have hb : Below w.heap.size wr W13 := hJ.below (by have := hbel.size; omega) (fun k b hf => by rcases k with _ | _ | _ | _ | k <;> first | (cases hf; done) | (cases hf; omega))
      have hbel := hbel.trans hb
      have hS := hS.blk (hJ.block _ (hS.lt) (fun k hk => by rcases k with _ | _ | _ | _ | k <;> first | (cases hk; done) | (cases hk; exact absurd rfl (Ne.symm HE1_q5.out))))
      have hP := hP.blk (hJ.block _ (hP.lt) (fun k hk => by rcases k with _ | _ | _ | _ | k <;> first | (cases hk; done) | (cases hk; exact absurd rfl (Ne.symm HE1_q6.out))))
      have hZ := hZ.blk (hJ.block _ (hZ.lt) (fun k hk => by rcases k with _ | _ | _ | _ | k <;> first | (cases hk; done) | (cases hk; exact absurd rfl (Ne.symm HE1_q8.out))))
      have HB := Lib.hid (blk_keep (HB.out.set kk (.int .u8 255)) (show _ ∧ W13.heap[gB1]? = (wr.setCell ⟨gB1, kk, none⟩ (.int .u8 255)).heap[gB1]? from hG 3 (by simp)).2)
      have hbel0 := hbel
      clear hJ hG hall hb
      have HB2 : Hid (Blk W13 gB1 ((fillB (kk + 1)).map bV ++ rB1) 5) := Lib.hid (by rw [← fillB_set HLT.out, ← setk kk (by rw [fillB_len (by have := HLT.out; omega)]; exact HLT.out)]; exact HB.out)
      go_wp2_with fail
      go_roundw
      case rel => exact ⟨kk + 1, by have := HLT.out; omega, by go_num, HB2.out, hS, hP, hZ, hbel⟩
      case measure => (have := HLT.out; simp [intOf] <;> omega)
    · obtain rfl : kk = 32 := by omega
      have HC0x : Hid (wr.cell? ⟨gB1, 0, none⟩ = some (.int .u8 255)) := Lib.hid (at_k 0 (by decide) HB.out)
      have HF0x : Hid (wr.frozen? ⟨gB1, 0, none⟩ = false) := Lib.hid (HB.out.frozen 0)
      clear hlt hk
      go_upto_region 14 with fail
      refine wp_region_turn (fun u => (.slice a na capa :: .int .i64 k :: undef :: undef :: u0 0 :: u3 2 :: u4 3 :: u5 3 :: u6 0 :: u9 1 :: .int .i64 32 :: undef :: undef :: u1 0 :: u1 1 :: .bool false :: undef :: u3 0 :: u3 1 :: u4 0 :: u4 1 :: u4 2 :: u5 0 :: u5 1 :: u5 2 :: u7 0 :: u7 1 :: u7 2 :: u7 3 :: u7 4 :: u7 5 :: u7 6 :: u7 7 :: u7 8 :: u7 9 :: u7 10 :: u7 11 :: u7 12 :: u7 13 :: u7 14 :: u7 15 :: u7 16 :: u7 17 :: u7 18 :: u7 19 :: u7 20 :: u7 21 :: u7 22 :: .bool false :: u9 0 :: .int .i64 32 :: .bool false :: u52 :: u53 :: u54 :: u55 :: u56 :: u 0 :: u 1 :: undef :: undef :: undef :: undef :: undef :: undef :: undef :: undef :: undef :: undef :: undef :: undef :: undef :: undef :: undef :: undef :: undef :: undef :: undef :: undef :: undef :: undef :: undef :: undef :: undef :: undef :: undef :: undef :: undef :: undef :: undef :: undef :: undef :: undef :: undef :: undef :: undef :: undef :: undef :: undef :: undef :: undef :: undef :: undef :: undef :: undef :: undef :: undef :: undef :: undef :: undef :: []).toArray) (Holds [.oth (fun v => v = .slice (some ⟨gB1, 0, none⟩) 32 cB1), .oth (fun v => v = .pointer (some ⟨gB1, 0, none⟩)), .cst gB1 0 (.int .u8 236)] wr) (Keep [.oth (fun v => v = .slice (some ⟨gB1, 0, none⟩) 32 cB1), .oth (fun v => v = .pointer (some ⟨gB1, 0, none⟩)), .cst gB1 0 (.int .u8 236)] wr) (fun _ => undef) ?_ (by rfl) Keep.start (holds_soft (by kernel_rfl)) ?_ ?_
      · intro u i v h
        rcases i with _ | _ | _ | i
        all_goals first | (simp [Act.put, putV]; done) | (exfalso; simp at h; omega)
      · intro hs
        refine ⟨?_, ?_, ?_, trivial⟩
        · exact step_pureO hs (wants_none rfl) rfl fun L u W hG hdep => ⟨_, run_move rfl, EB1.out⟩
        · refine step_pureO hs (wants_none rfl) rfl fun L u W hG hdep => ⟨_, ?_, rfl⟩
          have e0 := (show u 0 = .slice (some ⟨gB1, 0, none⟩) 32 cB1 from hG 0 (hdep 0 (by kernel_rfl)))
          go_simp
        · refine step_cst (old := .int .u8 255) gB1 0 hs (wants_none rfl) rfl rfl (by kernel_rfl) (fun k hk => ?_) (fun _ h1 h2 => store_u8 h1 h2) (fun L u W hG hdep => (show u 1 = .pointer (some ⟨gB1, 0, none⟩) from hG 1 (hdep 1 (by kernel_rfl)))) (fun L u W hG hdep => rfl) HC0x.out HF0x.out
          rcases k with _ | _ | _ | k
          all_goals first | (exact absurd rfl hk) | (intro e; cases e; done)
      intro L14 u14 W14 hall hJ hG
      have hb : Below w.heap.size wr W14 := hJ.below (by have := hbel.size; omega) (fun k b hf => by rcases k with _ | _ | _ | k <;> first | (cases hf; done) | (cases hf; omega))
      have hbel := hbel.trans hb
      have hS := hS.blk (hJ.block _ (hS.lt) (fun k hk => by rcases k with _ | _ | _ | k <;> first | (cases hk; done) | (cases hk; exact absurd rfl (Ne.symm HE1_q5.out))))
      have hP := hP.blk (hJ.block _ (hP.lt) (fun k hk => by rcases k with _ | _ | _ | k <;> first | (cases hk; done) | (cases hk; exact absurd rfl (Ne.symm HE1_q6.out))))
      have hZ := hZ.blk (hJ.block _ (hZ.lt) (fun k hk => by rcases k with _ | _ | _ | k <;> first | (cases hk; done) | (cases hk; exact absurd rfl (Ne.symm HE1_q8.out))))
      have HB := Lib.hid (blk_keep (HB.out.set 0 (.int .u8 236)) (show _ ∧ W14.heap[gB1]? = (wr.setCell ⟨gB1, 0, none⟩ (.int .u8 236)).heap[gB1]? from hG 2 (by simp)).2)
      have hbel0 := hbel
      clear hJ hG hall hb
      have HBa : Hid (Blk W14 gB1 (((fillB 32).set 0 236).map bV ++ rB1) 5) := Lib.hid (by rw [← setk 0 (by decide)]; exact HB.out)
      have HC31 : Hid (W14.cell? ⟨gB1, 31, none⟩ = some (.int .u8 255)) := Lib.hid (at_k 31 (by decide) HBa.out)
      have HF31 : Hid (W14.frozen? ⟨gB1, 31, none⟩ = false) := Lib.hid (HBa.out.frozen 31)
      clear HB
      go_upto_region 15 with fail
      refine wp_region_turn (fun u => (.slice a na capa :: .int .i64 k :: undef :: undef :: u0 0 :: u3 2 :: u4 3 :: u5 3 :: u6 0 :: u9 1 :: .int .i64 32 :: undef :: undef :: u1 0 :: u1 1 :: .bool false :: undef :: u3 0 :: u3 1 :: u4 0 :: u4 1 :: u4 2 :: u5 0 :: u5 1 :: u5 2 :: u7 0 :: u7 1 :: u7 2 :: u7 3 :: u7 4 :: u7 5 :: u7 6 :: u7 7 :: u7 8 :: u7 9 :: u7 10 :: u7 11 :: u7 12 :: u7 13 :: u7 14 :: u7 15 :: u7 16 :: u7 17 :: u7 18 :: u7 19 :: u7 20 :: u7 21 :: u7 22 :: .bool false :: u9 0 :: .int .i64 32 :: .bool false :: u52 :: u53 :: u54 :: u55 :: u56 :: u14 0 :: u14 1 :: u 0 :: u 1 :: undef :: undef :: undef :: undef :: undef :: undef :: undef :: undef :: undef :: undef :: undef :: undef :: undef :: undef :: undef :: undef :: undef :: undef :: undef :: undef :: undef :: undef :: undef :: undef :: undef :: undef :: undef :: undef :: undef :: undef :: undef :: undef :: undef :: undef :: undef :: undef :: undef :: undef :: undef :: undef :: undef :: undef :: undef :: undef :: undef :: undef :: undef :: undef :: undef :: []).toArray) (Holds [.oth (fun v => v = .slice (some ⟨gB1, 0, none⟩) 32 cB1), .oth (fun v => v = .pointer (some ⟨gB1, 31, none⟩)), .cst gB1 31 (.int .u8 127)] W14) (Keep [.oth (fun v => v = .slice (some ⟨gB1, 0, none⟩) 32 cB1), .oth (fun v => v = .pointer (some ⟨gB1, 31, none⟩)), .cst gB1 31 (.int .u8 127)] W14) (fun _ => undef) ?_ (by rfl) Keep.start (holds_soft (by kernel_rfl)) ?_ ?_
      · intro u i v h
        rcases i with _ | _ | _ | i
        all_goals first | (simp [Act.put, putV]; done) | (exfalso; simp at h; omega)
      · intro hs
        refine ⟨?_, ?_, ?_, trivial⟩
        · exact step_pureO hs (wants_none rfl) rfl fun L u W hG hdep => ⟨_, run_move rfl, EB1.out⟩
        · refine step_pureO hs (wants_none rfl) rfl fun L u W hG hdep => ⟨_, ?_, rfl⟩
          have e0 := (show u 0 = .slice (some ⟨gB1, 0, none⟩) 32 cB1 from hG 0 (hdep 0 (by kernel_rfl)))
          go_simp
        · refine step_cst (old := .int .u8 255) gB1 31 hs (wants_none rfl) rfl rfl (by kernel_rfl) (fun k hk => ?_) (fun _ h1 h2 => store_u8 h1 h2) (fun L u W hG hdep => (show u 1 = .pointer (some ⟨gB1, 31, none⟩) from hG 1 (hdep 1 (by kernel_rfl)))) (fun L u W hG hdep => rfl) HC31.out HF31.out
          rcases k with _ | _ | _ | k
          all_goals first | (exact absurd rfl hk) | (intro e; cases e; done)
      intro L15 u15 W15 hall hJ hG
      have hb : Below w.heap.size W14 W15 := hJ.below (by have := hbel.size; omega) (fun k b hf => by rcases k with _ | _ | _ | k <;> first | (cases hf; done) | (cases hf; omega))
      have hbel := hbel.trans hb
      have hS := hS.blk (hJ.block _ (hS.lt) (fun k hk => by rcases k with _ | _ | _ | k <;> first | (cases hk; done) | (cases hk; exact absurd rfl (Ne.symm HE1_q5.out))))
      have hP := hP.blk (hJ.block _ (hP.lt) (fun k hk => by rcases k with _ | _ | _ | k <;> first | (cases hk; done) | (cases hk; exact absurd rfl (Ne.symm HE1_q6.out))))
      have hZ := hZ.blk (hJ.block _ (hZ.lt) (fun k hk => by rcases k with _ | _ | _ | k <;> first | (cases hk; done) | (cases hk; exact absurd rfl (Ne.symm HE1_q8.out))))
      have HBa := Lib.hid (blk_keep (HBa.out.set 31 (.int .u8 127)) (show _ ∧ W15.heap[gB1]? = (W14.setCell ⟨gB1, 31, none⟩ (.int .u8 127)).heap[gB1]? from hG 2 (by simp)).2)
      have hbel0 := hbel
      clear hJ hG hall hb
      have HBb : Hid (Blk W15 gB1 ((encP minusP).map bV ++ rB1) 5) := Lib.hid (by rw [← fillB_end, ← setk 31 (by decide)]; exact HBa.out)
      clear HBa
      go_upto_region 16 with fail
      refine wp_region_turn (fun u => (.slice a na capa :: .int .i64 k :: undef :: undef :: u0 0 :: u3 2 :: u4 3 :: u5 3 :: u6 0 :: u9 1 :: .int .i64 32 :: u 5 :: u 7 :: u1 0 :: u1 1 :: .bool false :: undef :: u3 0 :: u3 1 :: u4 0 :: u4 1 :: u4 2 :: u5 0 :: u5 1 :: u5 2 :: u7 0 :: u7 1 :: u7 2 :: u7 3 :: u7 4 :: u7 5 :: u7 6 :: u7 7 :: u7 8 :: u7 9 :: u7 10 :: u7 11 :: u7 12 :: u7 13 :: u7 14 :: u7 15 :: u7 16 :: u7 17 :: u7 18 :: u7 19 :: u7 20 :: u7 21 :: u7 22 :: .bool false :: u9 0 :: .int .i64 32 :: .bool false :: u52 :: u53 :: u54 :: u55 :: u56 :: u14 0 :: u14 1 :: u15 0 :: u15 1 :: u 2 :: u 0 :: u 1 :: u 3 :: u 4 :: undef :: undef :: undef :: undef :: undef :: undef :: undef :: undef :: undef :: undef :: undef :: undef :: undef :: undef :: undef :: undef :: undef :: undef :: undef :: undef :: undef :: undef :: undef :: undef :: undef :: undef :: undef :: undef :: undef :: undef :: undef :: undef :: undef :: undef :: undef :: undef :: undef :: undef :: undef :: undef :: undef :: undef :: undef :: undef :: []).toArray) (Holds [.oth (fun v => v = .slice (some ⟨gB1, 0, none⟩) 32 cB1), .oth (fun v => IsTV rP v [minusP] (.int .i64 0)), .oth (fun v => IsTV rP v [minusP] (.int .i64 0)), .val rP [minusP], .oth (fun v => v = .int .i64 0), .new 20, .st 5 rP [minusP], .oth (fun v => v = .int .i64 0)] W15) (Keep [.oth (fun v => v = .slice (some ⟨gB1, 0, none⟩) 32 cB1), .oth (fun v => IsTV rP v [minusP] (.int .i64 0)), .oth (fun v => IsTV rP v [minusP] (.int .i64 0)), .val rP [minusP], .oth (fun v => v = .int .i64 0), .new 20, .st 5 rP [minusP], .oth (fun v => v = .int .i64 0)] W15) (fun _ => undef) ?_ (by rfl) Keep.start (holds_soft (by kernel_rfl)) ?_ ?_
      · intro u i v h
        rcases i with _ | _ | _ | _ | _ | _ | _ | _ | i
        all_goals first | (simp [Act.put, putV]; done) | (exfalso; simp at h; omega)
      · intro hs
        refine ⟨?_, ?_, ?_, ?_, ?_, ?_, ?_, ?_, trivial⟩
        · exact step_pureO hs (wants_none rfl) rfl fun L u W hG hdep => ⟨_, run_move rfl, EB1.out⟩
        · refine step_callO hs (wants_none rfl) rfl fun L u W hJ hG hL hdep K hK => ?_
          have x0 := (show u 0 = .slice (some ⟨gB1, 0, none⟩) 32 cB1 from hG 0 (hdep 0 (by kernel_rfl)))
          have hRB0 := (RdB.blk rB1 HBb.out (encP_len _) hcB1 hmB1).below (hJ.all rfl)
          go_simp
          go_at_call 10
          (with_reducible refine (cDecode dec_minus.1 dec_minus.2 hRB0).mono ?_); rintro e w1 ⟨r, rfl, hr, hb⟩
          have hk := hK.out _ _ ⟨r, rfl, hr⟩ hb
          simp only [x0] at hk
          exact hk
        · exact step_pureO hs (wants_none rfl) rfl fun L u W hG hdep => ⟨_, run_move rfl, (show IsTV rP (u 1) [minusP] (.int .i64 0) from hG 1 (hdep 1 (by kernel_rfl)))⟩
        · exact step_pure hs (wants_none rfl) rfl fun L u W hG hdep => run_extractV0 rfl (show IsTV rP (u 2) [minusP] (.int .i64 0) from hG 2 (hdep 2 (by kernel_rfl)))
        · exact step_pureO hs (wants_none rfl) rfl fun L u W hG hdep => run_extractV1 rfl (show IsTV rP (u 2) [minusP] (.int .i64 0) from hG 2 (hdep 2 (by kernel_rfl)))
        · exact step_alloc hs (wants_none rfl) rfl rfl (by omega) rfl allocP
        · exact step_store 5 hs (by kernel_rfl) (wants_none rfl) rfl rfl rfl (by kernel_rfl) (by kernel_rfl) (by kernel_rfl) (by kernel_rfl) (fun _ => rfl) (gives_op 3 rfl (by kernel_rfl) (fun _ => rfl)) tyP rfl
        · exact step_pureO hs (wants_none rfl) rfl fun L u W hG hdep => ⟨_, run_assign rfl, (show u 4 = .int .i64 0 from hG 4 (hdep 4 (by kernel_rfl)))⟩
      intro L16 u16 W16 hall hJ hG
      obtain ⟨q11, e11, hq11, _, ht11⟩ := (show ∃ g, u16 5 = .pointer (some ⟨g, 0, none⟩) ∧ W15.heap.size ≤ g ∧ 0 < 20 ∧ W16.there g 0 20 from hG 5 (by simp))
      have hm11 : HasFs rP W16 q11 0 [minusP] := by
        obtain ⟨g, e, _, h⟩ := (show ∃ g, u16 5 = .pointer (some ⟨g, 0, none⟩) ∧ W15.heap.size ≤ g ∧ HasFs rP W16 g 0 [minusP] from hG 6 (by simp))
        rw [e11] at e; cases e; exact h
      have hq11 : w.heap.size ≤ q11 := by have := hbel0.size; omega
      have E11 := Lib.hid e11; clear e11
      have hb := hJ.all rfl
      have hbel := Below.call hbel hb
      have hS := hS.later hb
      have hP := hP.later hb
      have hZ := hZ.later hb
      have HBb := Lib.hid (HBb.out.below' hb)
      have HC12 := Lib.hid (show u16 7 = .int .i64 0 from hG 7 (by simp))
      have hbel0 := hbel
      clear hJ hG hall hb
      go_upto_region 17 with fail
      refine wp_region_mid (fun u => (.slice a na capa :: .int .i64 k :: undef :: undef :: u 44 :: u3 2 :: u4 3 :: u5 3 :: u6 0 :: u9 1 :: .int .i64 32 :: u16 5 :: u16 7 :: u1 0 :: u1 1 :: .bool false :: undef :: u3 0 :: u3 1 :: u4 0 :: u4 1 :: u4 2 :: u5 0 :: u5 1 :: u5 2 :: u7 0 :: u7 1 :: u7 2 :: u7 3 :: u7 4 :: u7 5 :: u7 6 :: u7 7 :: u7 8 :: u7 9 :: u7 10 :: u7 11 :: u7 12 :: u7 13 :: u7 14 :: u7 15 :: u7 16 :: u7 17 :: u7 18 :: u7 19 :: u7 20 :: u7 21 :: u7 22 :: .bool false :: u9 0 :: .int .i64 32 :: .bool false :: u52 :: u53 :: u54 :: u55 :: u56 :: u14 0 :: u14 1 :: u15 0 :: u15 1 :: u16 2 :: u16 0 :: u16 1 :: u16 3 :: u16 4 :: u 0 :: u 1 :: u 2 :: u 3 :: u 4 :: u 5 :: u 6 :: u 7 :: u 8 :: u 9 :: u 10 :: u 11 :: u 12 :: u 13 :: u 14 :: u 15 :: u 16 :: u 17 :: u 18 :: u 19 :: u 20 :: u 21 :: u 22 :: u 23 :: u 24 :: u 25 :: u 26 :: u 27 :: u 28 :: u 29 :: u 30 :: u 31 :: u 32 :: u 33 :: u 34 :: u 35 :: u 36 :: u 37 :: u 38 :: u 39 :: u 40 :: u 41 :: u 42 :: u 43 :: []).toArray) (Holds [.oth (fun v => v = .int .i64 0), .oth (fun v => v = .bool true), .oth (fun v => v = .bool true), .val rP [minusP], .oth (fun v => v = .bool true), .oth (fun v => v = .bool true), .oth (fun v => v = .bool true), .val rP [minusP], .val rP [Cp.mul 2 minusP], .val rP [Cp.zero], .oth (fun v => v = .bool true), .oth (fun v => v = .bool true), .oth (fun v => v = .bool true), .val rP [minusP], .val rP [Cp.zero], .oth (fun v => v = .bool false), .oth (fun v => v = .bool true), .oth (fun v => v = .bool true), .oth (fun v => v = .bool true), .val rP [P], .val rP [minusP], .val rP [Cp.add P minusP], .val rP [P], .oth (fun v => v = .bool false), .oth (fun v => v = .bool true), .oth (fun v => v = .bool true), .oth (fun v => v = .bool true), .val rP [P], .val rP [minusP], .val rP [Cp.add P minusP], .oth (fun v => v = .int .i64 k), .oth (fun v => v = .int .i64 (rn : Nat)), .oth (fun v => v = .int .i64 (mn : Nat)), .val rP [Cp.mul mn (Cp.add P minusP)], .val rP [P], .oth (fun v => v = .int .i64 k), .oth (fun v => v = .int .i64 (rn : Nat)), .oth (fun v => v = .int .i64 (mn : Nat)), .val rP [Cp.mul mn P], .oth (fun v => v = .bool true), .oth (fun v => v = .bool true), .oth (fun v => v = .bool true), .oth (fun v => v = .bool true), .oth (fun v => v = .bool true), .oth (fun v => v = .bool true)] W16) (Keep [.oth (fun v => v = .int .i64 0), .oth (fun v => v = .bool true), .oth (fun v => v = .bool true), .val rP [minusP], .oth (fun v => v = .bool true), .oth (fun v => v = .bool true), .oth (fun v => v = .bool true), .val rP [minusP], .val rP [Cp.mul 2 minusP], .val rP [Cp.zero], .oth (fun v => v = .bool true), .oth (fun v => v = .bool true), .oth (fun v => v = .bool true), .val rP [minusP], .val rP [Cp.zero], .oth (fun v => v = .bool false), .oth (fun v => v = .bool true), .oth (fun v => v = .bool true), .oth (fun v => v = .bool true), .val rP [P], .val rP [minusP], .val rP [Cp.add P minusP], .val rP [P], .oth (fun v => v = .bool false), .oth (fun v => v = .bool true), .oth (fun v => v = .bool true), .oth (fun v => v = .bool true), .val rP [P], .val rP [minusP], .val rP [Cp.add P minusP], .oth (fun v => v = .int .i64 k), .oth (fun v => v = .int .i64 (rn : Nat)), .oth (fun v => v = .int .i64 (mn : Nat)), .val rP [Cp.mul mn (Cp.add P minusP)], .val rP [P], .oth (fun v => v = .int .i64 k), .oth (fun v => v = .int .i64 (rn : Nat)), .oth (fun v => v = .int .i64 (mn : Nat)), .val rP [Cp.mul mn P], .oth (fun v => v = .bool true), .oth (fun v => v = .bool true), .oth (fun v => v = .bool true), .oth (fun v => v = .bool true), .oth (fun v => v = .bool true), .oth (fun v => v = .bool true)] W16) (fun k => ((undef :: undef :: undef :: undef :: undef :: undef :: undef :: undef :: undef :: undef :: undef :: undef :: undef :: undef :: undef :: undef :: undef :: undef :: undef :: undef :: undef :: undef :: undef :: undef :: undef :: undef :: undef :: undef :: undef :: undef :: undef :: undef :: undef :: undef :: undef :: undef :: undef :: undef :: undef :: undef :: undef :: undef :: undef :: undef :: u0 0 :: []) : List Value).getD k undef) (by kernel_rfl) (by kernel_rfl) ?_ (by rfl) Keep.drew (holds_soft (by kernel_rfl)) ?_ ?_
      · intro u i v h
        rcases i with _ | _ | _ | _ | _ | _ | _ | _ | _ | _ | _ | _ | _ | _ | _ | _ | _ | _ | _ | _ | _ | _ | _ | _ | _ | _ | _ | _ | _ | _ | _ | _ | _ | _ | _ | _ | _ | _ | _ | _ | _ | _ | _ | _ | _ | i
        iterate 45 kernel_rfl
        exfalso; simp at h; omega
      · intro hs
        refine ⟨?_, ?_, ?_, ?_, ?_, ?_, ?_, ?_, ?_, ?_, ?_, ?_, ?_, ?_, ?_, ?_, ?_, ?_, ?_, ?_, ?_, ?_, ?_, ?_, ?_, ?_, ?_, ?_, ?_, ?_, ?_, ?_, ?_, ?_, ?_, ?_, ?_, ?_, ?_, ?_, ?_, ?_, ?_, ?_, ?_, trivial⟩
        · exact step_pureO hs (wants_none rfl) rfl fun L u W hG hdep => ⟨_, run_move rfl, HC12.out⟩
        · refine step_pureO hs (wants_none rfl) rfl fun L u W hG hdep => ⟨_, ?_, rfl⟩
          have e0 := (show u 0 = .int .i64 0 from hG 0 (hdep 0 (by kernel_rfl)))
          go_simp
          try simp [bne]
        · exact step_pureO hs (wants_none rfl) rfl fun L u W hG hdep => ⟨_, run_move rfl, (show u 1 = .bool true from hG 1 (hdep 1 (by kernel_rfl)))⟩
        · exact step_load q11 0 hs (wants_on 2 rfl rfl (by kernel_rfl) (fun _ => rfl)) rfl rfl tyP (fun _ => E11.out) hm11.lt hm11 (noSto_apart (by kernel_rfl))
        · refine step_callO hs (wants_on 2 rfl rfl (by kernel_rfl) (fun _ => rfl)) rfl fun L u W hJ hG hL hdep K hK => ?_
          have a0 := (show IsFs rP (u 3) [minusP] from hG 3 (hdep 3 (by kernel_rfl)))
          go_simp
          go_at_call 14
          (with_reducible refine (cPSmall (b := true) (decide_eq_true (minusP_even 4)) a0 _).mono ?_); rintro e w1 ⟨rfl, hb⟩
          have hk := hK.out _ _ rfl hb
          exact hk
        · exact step_pick true hs (wants_none rfl) rfl rfl (fun L u W hG hdep => (show u 2 = .bool true from hG 2 (hdep 2 (by kernel_rfl)))) (fun L u W hG hdep => (show u 4 = .bool true from hG 4 (hdep 4 (by kernel_rfl))))
        · exact step_pureO hs (wants_none rfl) rfl fun L u W hG hdep => ⟨_, run_move rfl, (show u 5 = .bool true from hG 5 (hdep 5 (by kernel_rfl)))⟩
        · exact step_load q11 0 hs (wants_on 6 rfl rfl (by kernel_rfl) (fun _ => rfl)) rfl rfl tyP (fun _ => E11.out) hm11.lt hm11 (noSto_apart (by kernel_rfl))
        · refine step_call hs (wants_on 6 rfl rfl (by kernel_rfl) (fun _ => rfl)) rfl fun L u W hJ hG hL hdep K hK => ?_
          have a0 := (show IsFs rP (u 7) [minusP] from hG 7 (hdep 7 (by kernel_rfl)))
          go_simp
          go_at_call 29
          (with_reducible refine (cTimes rfl a0 _).mono ?_); rintro e w1 ⟨r, rfl, hr, hb⟩
          have hk := hK.out _ _ hr hb
          exact hk
        · exact step_load q8 0 hs (wants_on 6 rfl rfl (by kernel_rfl) (fun _ => rfl)) rfl rfl tyP (fun _ => E8.out) hZ.lt hZ (noSto_apart (by kernel_rfl))
        · refine step_callO hs (wants_on 6 rfl rfl (by kernel_rfl) (fun _ => rfl)) rfl fun L u W hJ hG hL hdep K hK => ?_
          have a0 := (show IsFs rP (u 8) [Cp.mul 2 minusP] from hG 8 (hdep 8 (by kernel_rfl)))
          have a1 := (show IsFs rP (u 9) [Cp.zero] from hG 9 (hdep 9 (by kernel_rfl)))
          go_simp
          go_at_call 19
          (with_reducible refine (cPSame (b := true) (decide_eq_true (minusP_even 1)) a0 a1 _).mono ?_); rintro e w1 ⟨rfl, hb⟩
          have hk := hK.out _ _ rfl hb
          exact hk
        · exact step_pick true hs (wants_none rfl) rfl rfl (fun L u W hG hdep => (show u 6 = .bool true from hG 6 (hdep 6 (by kernel_rfl)))) (fun L u W hG hdep => (show u 10 = .bool true from hG 10 (hdep 10 (by kernel_rfl))))
        · exact step_pureO hs (wants_none rfl) rfl fun L u W hG hdep => ⟨_, run_move rfl, (show u 11 = .bool true from hG 11 (hdep 11 (by kernel_rfl)))⟩
        · exact step_load q11 0 hs (wants_on 12 rfl rfl (by kernel_rfl) (fun _ => rfl)) rfl rfl tyP (fun _ => E11.out) hm11.lt hm11 (noSto_apart (by kernel_rfl))
        · exact step_load q8 0 hs (wants_on 12 rfl rfl (by kernel_rfl) (fun _ => rfl)) rfl rfl tyP (fun _ => E8.out) hZ.lt hZ (noSto_apart (by kernel_rfl))
        · refine step_callO hs (wants_on 12 rfl rfl (by kernel_rfl) (fun _ => rfl)) rfl fun L u W hJ hG hL hdep K hK => ?_
          have a0 := (show IsFs rP (u 13) [minusP] from hG 13 (hdep 13 (by kernel_rfl)))
          have a1 := (show IsFs rP (u 14) [Cp.zero] from hG 14 (hdep 14 (by kernel_rfl)))
          go_simp
          go_at_call 19
          (with_reducible refine (cPSame (b := false) (decide_eq_false minusP_ne) a0 a1 _).mono ?_); rintro e w1 ⟨rfl, hb⟩
          have hk := hK.out _ _ rfl hb
          exact hk
        · refine step_pureO hs (wants_on 12 rfl rfl (by kernel_rfl) (fun _ => rfl)) rfl fun L u W hG hdep => ⟨_, ?_, rfl⟩
          have e0 := (show u 15 = .bool false from hG 15 (hdep 15 (by kernel_rfl)))
          go_simp
        · exact step_pick true hs (wants_none rfl) rfl rfl (fun L u W hG hdep => (show u 12 = .bool true from hG 12 (hdep 12 (by kernel_rfl)))) (fun L u W hG hdep => (show u 16 = .bool true from hG 16 (hdep 16 (by kernel_rfl))))
        · exact step_pureO hs (wants_none rfl) rfl fun L u W hG hdep => ⟨_, run_move rfl, (show u 17 = .bool true from hG 17 (hdep 17 (by kernel_rfl)))⟩
        · exact step_load q6 0 hs (wants_on 18 rfl rfl (by kernel_rfl) (fun _ => rfl)) rfl rfl tyP (fun _ => E6.out) hP.lt hP (noSto_apart (by kernel_rfl))
        · exact step_load q11 0 hs (wants_on 18 rfl rfl (by kernel_rfl) (fun _ => rfl)) rfl rfl tyP (fun _ => E11.out) hm11.lt hm11 (noSto_apart (by kernel_rfl))
        · refine step_call hs (wants_on 18 rfl rfl (by kernel_rfl) (fun _ => rfl)) rfl fun L u W hJ hG hL hdep K hK => ?_
          have a0 := (show IsFs rP (u 19) [P] from hG 19 (hdep 19 (by kernel_rfl)))
          have a1 := (show IsFs rP (u 20) [minusP] from hG 20 (hdep 20 (by kernel_rfl)))
          go_simp
          go_at_call 25
          (with_reducible refine (cPAdd a0 a1 _).mono ?_); rintro e w1 ⟨r, rfl, hr, hb⟩
          have hk := hK.out _ _ hr hb
          exact hk
        · exact step_load q6 0 hs (wants_on 18 rfl rfl (by kernel_rfl) (fun _ => rfl)) rfl rfl tyP (fun _ => E6.out) hP.lt hP (noSto_apart (by kernel_rfl))
        · refine step_callO hs (wants_on 18 rfl rfl (by kernel_rfl) (fun _ => rfl)) rfl fun L u W hJ hG hL hdep K hK => ?_
          have a0 := (show IsFs rP (u 21) [Cp.add P minusP] from hG 21 (hdep 21 (by kernel_rfl)))
          have a1 := (show IsFs rP (u 22) [P] from hG 22 (hdep 22 (by kernel_rfl)))
          go_simp
          go_at_call 19
          (with_reducible refine (cPSame (b := false) (decide_eq_false (add_minusP P)) a0 a1 _).mono ?_); rintro e w1 ⟨rfl, hb⟩
          have hk := hK.out _ _ rfl hb
          exact hk
        · refine step_pureO hs (wants_on 18 rfl rfl (by kernel_rfl) (fun _ => rfl)) rfl fun L u W hG hdep => ⟨_, ?_, rfl⟩
          have e0 := (show u 23 = .bool false from hG 23 (hdep 23 (by kernel_rfl)))
          go_simp
        · exact step_pick true hs (wants_none rfl) rfl rfl (fun L u W hG hdep => (show u 18 = .bool true from hG 18 (hdep 18 (by kernel_rfl)))) (fun L u W hG hdep => (show u 24 = .bool true from hG 24 (hdep 24 (by kernel_rfl))))
        · exact step_pureO hs (wants_none rfl) rfl fun L u W hG hdep => ⟨_, run_move rfl, (show u 25 = .bool true from hG 25 (hdep 25 (by kernel_rfl)))⟩
        · exact step_load q6 0 hs (wants_on 26 rfl rfl (by kernel_rfl) (fun _ => rfl)) rfl rfl tyP (fun _ => E6.out) hP.lt hP (noSto_apart (by kernel_rfl))
        · exact step_load q11 0 hs (wants_on 26 rfl rfl (by kernel_rfl) (fun _ => rfl)) rfl rfl tyP (fun _ => E11.out) hm11.lt hm11 (noSto_apart (by kernel_rfl))
        · refine step_call hs (wants_on 26 rfl rfl (by kernel_rfl) (fun _ => rfl)) rfl fun L u W hJ hG hL hdep K hK => ?_
          have a0 := (show IsFs rP (u 27) [P] from hG 27 (hdep 27 (by kernel_rfl)))
          have a1 := (show IsFs rP (u 28) [minusP] from hG 28 (hdep 28 (by kernel_rfl)))
          go_simp
          go_at_call 25
          (with_reducible refine (cPAdd a0 a1 _).mono ?_); rintro e w1 ⟨r, rfl, hr, hb⟩
          have hk := hK.out _ _ hr hb
          exact hk
        · exact step_pureO hs (wants_on 26 rfl rfl (by kernel_rfl) (fun _ => rfl)) rfl fun L u W hG hdep => ⟨_, run_move rfl, rfl⟩
        · refine step_callO hs (wants_on 26 rfl rfl (by kernel_rfl) (fun _ => rfl)) rfl fun L u W hJ hG hL hdep K hK => ?_
          have x0 := (show u 30 = .int .i64 k from hG 30 (hdep 30 (by kernel_rfl)))
          go_simp
          go_at_call 33
          (with_reducible refine (round100 HRK.out _).mono ?_); rintro e w1 ⟨rfl, hb⟩
          have hk := hK.out _ _ rfl hb
          simp only [x0] at hk
          exact hk
        · refine step_pureO hs (wants_on 26 rfl rfl (by kernel_rfl) (fun _ => rfl)) rfl fun L u W hG hdep => ⟨_, ?_, rfl⟩
          have e0 := (show u 31 = .int .i64 (rn : Nat) from hG 31 (hdep 31 (by kernel_rfl)))
          have e9 := HMW.out
          go_simp
        · refine step_call hs (wants_on 26 rfl rfl (by kernel_rfl) (fun _ => rfl)) rfl fun L u W hJ hG hL hdep K hK => ?_
          have a0 := (show IsFs rP (u 29) [Cp.add P minusP] from hG 29 (hdep 29 (by kernel_rfl)))
          have x0 := (show u 32 = .int .i64 (mn : Nat) from hG 32 (hdep 32 (by kernel_rfl)))
          go_simp
          go_at_call 29
          (with_reducible refine (cTimes (times_nat (k := mn) (by have := HM.out; have := HR.out; omega)) a0 _).mono ?_); rintro e w1 ⟨r, rfl, hr, hb⟩
          have hk := hK.out _ _ hr hb
          simp only [x0] at hk
          exact hk
        · exact step_load q6 0 hs (wants_on 26 rfl rfl (by kernel_rfl) (fun _ => rfl)) rfl rfl tyP (fun _ => E6.out) hP.lt hP (noSto_apart (by kernel_rfl))
        · exact step_pureO hs (wants_on 26 rfl rfl (by kernel_rfl) (fun _ => rfl)) rfl fun L u W hG hdep => ⟨_, run_move rfl, rfl⟩
        · refine step_callO hs (wants_on 26 rfl rfl (by kernel_rfl) (fun _ => rfl)) rfl fun L u W hJ hG hL hdep K hK => ?_
          have x0 := (show u 35 = .int .i64 k from hG 35 (hdep 35 (by kernel_rfl)))
          go_simp
          go_at_call 33
          (with_reducible refine (round100 HRK.out _).mono ?_); rintro e w1 ⟨rfl, hb⟩
          have hk := hK.out _ _ rfl hb
          simp only [x0] at hk
          exact hk
        · refine step_pureO hs (wants_on 26 rfl rfl (by kernel_rfl) (fun _ => rfl)) rfl fun L u W hG hdep => ⟨_, ?_, rfl⟩
          have e0 := (show u 36 = .int .i64 (rn : Nat) from hG 36 (hdep 36 (by kernel_rfl)))
          have e9 := HMW.out
          go_simp
        · refine step_call hs (wants_on 26 rfl rfl (by kernel_rfl) (fun _ => rfl)) rfl fun L u W hJ hG hL hdep K hK => ?_
          have a0 := (show IsFs rP (u 34) [P] from hG 34 (hdep 34 (by kernel_rfl)))
          have x0 := (show u 37 = .int .i64 (mn : Nat) from hG 37 (hdep 37 (by kernel_rfl)))
          go_simp
          go_at_call 29
          (with_reducible refine (cTimes (times_nat (k := mn) (by have := HM.out; have := HR.out; omega)) a0 _).mono ?_); rintro e w1 ⟨r, rfl, hr, hb⟩
          have hk := hK.out _ _ hr hb
          simp only [x0] at hk
          exact hk
        · refine step_callO hs (wants_on 26 rfl rfl (by kernel_rfl) (fun _ => rfl)) rfl fun L u W hJ hG hL hdep K hK => ?_
          have a0 := (show IsFs rP (u 33) [Cp.mul mn (Cp.add P minusP)] from hG 33 (hdep 33 (by kernel_rfl)))
          have a1 := (show IsFs rP (u 38) [Cp.mul mn P] from hG 38 (hdep 38 (by kernel_rfl)))
          go_simp
          go_at_call 19
          (with_reducible refine (cPSame (b := true) (decide_eq_true (by rw [HM.out]; exact add_minusP_even P rn)) a0 a1 _).mono ?_); rintro e w1 ⟨rfl, hb⟩
          have hk := hK.out _ _ rfl hb
          exact hk
        · exact step_pick true hs (wants_none rfl) rfl rfl (fun L u W hG hdep => (show u 26 = .bool true from hG 26 (hdep 26 (by kernel_rfl)))) (fun L u W hG hdep => (show u 39 = .bool true from hG 39 (hdep 39 (by kernel_rfl))))
        · exact step_pureO hs (wants_none rfl) rfl fun L u W hG hdep => ⟨_, run_move rfl, (show u 40 = .bool true from hG 40 (hdep 40 (by kernel_rfl)))⟩
        · refine step_callO hs (wants_on 41 rfl rfl (by kernel_rfl) (fun _ => rfl)) rfl fun L u W hJ hG hL hdep K hK => ?_
          go_simp
          go_at_call 9
          (with_reducible refine (law8awake_any _).mono ?_); rintro e w1 ⟨rfl, hb⟩
          have hk := hK.out _ _ rfl hb
          exact hk
        · exact step_pick true hs (wants_none rfl) rfl rfl (fun L u W hG hdep => (show u 41 = .bool true from hG 41 (hdep 41 (by kernel_rfl)))) (fun L u W hG hdep => (show u 42 = .bool true from hG 42 (hdep 42 (by kernel_rfl))))
        · exact step_pureO hs (wants_none rfl) rfl fun L u W hG hdep => ⟨_, run_assign rfl, (show u 43 = .bool true from hG 43 (hdep 43 (by kernel_rfl)))⟩
      intro L17 u17 W17 hall hJ hG
      have hb := hJ.all rfl
      have hbel := Below.call hbel hb
      have hS := hS.later hb
      have hP := hP.later hb
      have hZ := hZ.later hb
      have hm11 := hm11.later hb
      have ht11 := there_later ht11 hb
      have HC67 := Lib.hid (show u17 1 = .bool true from hG 1 (by simp))
      have HC68 := Lib.hid (show u17 2 = .bool true from hG 2 (by simp))
      have HC70 := Lib.hid (show u17 4 = .bool true from hG 4 (by simp))
      have HC71 := Lib.hid (show u17 5 = .bool true from hG 5 (by simp))
      have HC72 := Lib.hid (show u17 6 = .bool true from hG 6 (by simp))
      have HC76 := Lib.hid (show u17 10 = .bool true from hG 10 (by simp))
      have HC77 := Lib.hid (show u17 11 = .bool true from hG 11 (by simp))
      have HC78 := Lib.hid (show u17 12 = .bool true from hG 12 (by simp))
      have HC81 := Lib.hid (show u17 15 = .bool false from hG 15 (by simp))
      have HC82 := Lib.hid (show u17 16 = .bool true from hG 16 (by simp))
      have HC83 := Lib.hid (show u17 17 = .bool true from hG 17 (by simp))
      have HC84 := Lib.hid (show u17 18 = .bool true from hG 18 (by simp))
      have HC89 := Lib.hid (show u17 23 = .bool false from hG 23 (by simp))
      have HC90 := Lib.hid (show u17 24 = .bool true from hG 24 (by simp))
      have HC91 := Lib.hid (show u17 25 = .bool true from hG 25 (by simp))
      have HC92 := Lib.hid (show u17 26 = .bool true from hG 26 (by simp))
      have HC105 := Lib.hid (show u17 39 = .bool true from hG 39 (by simp))
      have HC106 := Lib.hid (show u17 40 = .bool true from hG 40 (by simp))
      have HC107 := Lib.hid (show u17 41 = .bool true from hG 41 (by simp))
      have HC108 := Lib.hid (show u17 42 = .bool true from hG 42 (by simp))
      have HC109 := Lib.hid (show u17 43 = .bool true from hG 43 (by simp))
      have HC4 := Lib.hid (show u17 44 = .bool true from hG 44 (by simp))
      have hbel0 := hbel
      clear hJ hG hall hb
      rw [HC4.out]
      go_wp2
      go_ret
      exact ⟨rfl, hbel⟩
set_option maxRecDepth 100000 in
theorem pointOrder_any {a : Option Addr} {na capa : Nat} {la : List UInt8} {k : Int} (w : World) (ha : RdB w a na capa la) (_hwk : (Lit.int .i64 k).wf = true) :
    Calls Try.prog 7 #[.slice a na capa, .int .i64 k] w fun e w' => e = .returned (.bool true) ∧ Below w.heap.size w w' := by
  by_cases t0 : (100 : Int) < (na : Int)
  · have e0 : decide ((100 : Int) < (na : Int)) = true := decide_eq_true t0
    clear t0
    go_enter Try.func7, Try.ntmps7
    go_wp2_with (go_at_call 9; (with_reducible refine (law8awake_any _).mono ?_); rintro e w2 ⟨rfl, h2⟩)
    go_ret
    exact ⟨rfl, h2⟩
  exact pointOrder_few w ha t0
namespace pointOrderDone
theorem own : ownKnob Try.prog.godebug = none := by kernel_rfl
theorem laidOut : laidOutB Try.prog = true := by kernel_rfl
set_option maxRecDepth 100000 in
theorem lifted (os : Os) (started : os.Started) (H : Type) (enc : TypeId × Value → H) :
    ReturnsInHanded {} Try.checked os 7 .any (Rows.pointOrderSpec.pre6 enc Try.prog Try.f7 Rows.pointOrderRow.domain false) (Rows.pointOrderSpec.post enc Try.prog Try.f7 false true false false) := by
  refine returnsInHanded_of_change (C := Try.checked) own started (by kernel_rfl) Try.func7
    (ChangeSpec.witness6 (enc := enc) (C := Try.checked) false ⟨#[], #[.slice none 0 0, .int .i64 0], []⟩ 8 (by kernel_rfl) (by kernel_rfl) (by kernel_rfl) (by kernel_rfl)) ?_
  intro W base args ds gs before hval0 hW hcnd _
  have hval : ∀ (j : Nat) t v, Try.f7.params[j]? = some t → args[j]? = some v → Value.okWide Try.prog W .any base t v := hval0
  have hW' := hW
  obtain ⟨p, q, hA0, hV, rfl, hfz, hnd⟩ := hW
  have hA : DataW.TrodAll enc Try.prog W 0 (fun _ => true) true Try.f7.params.toList args.toList ds p := hA0
  rw [Try.params7] at hA hval
  obtain ⟨v0, vs0, d0, ds0, p0, q0, hargs, rfl, rfl, h0, r0⟩ := trodAll_cons hA
  obtain ⟨v1, vs1, d1, ds1, p1, q1, rfl, rfl, rfl, h1, r1⟩ := trodAll_cons r0
  obtain ⟨rfl, rfl, rfl⟩ := trodAll_nil r1
  obtain rfl : args = #[v0, v1] := by cases args; simp_all
  obtain ⟨rfl, rfl⟩ := trodVars_none hV
  obtain ⟨a0, len0, cap0, rfl⟩ := okWide_slice Try.underlying22 (hval 0 22 v0 rfl rfl)
  have k0 := h0
  have lt0 : ∀ x ∈ p0, x.block < W.heap.size := by obtain ⟨m, hm⟩ := k0; exact DataW.trod_lt m _ _ _ hm
  obtain ⟨l0, w0⟩ : ∃ l, RdB W a0 len0 cap0 l := by
    obtain ⟨fuel, hf⟩ := h0
    rcases open_ints Try.underlying22 Try.underlying5 (by kernel_rfl) hf with ⟨hcs, _⟩ | ⟨x, l, c, zs, hcs, _, hl, hm, hz, _, hcell, hwz⟩
    · simp [Value.cells] at hcs
      obtain ⟨rfl, rfl, rfl⟩ := hcs
      exact ⟨[], RdB.nil _⟩
    · simp [Value.cells] at hcs
      obtain ⟨rfl, rfl, rfl⟩ := hcs
      exact RdB.of_ints (.inr ⟨_, rfl, hl, hm, by simpa using hz, hcell, hwz⟩)
  obtain ⟨a1, rfl, rfl, rfl, w1⟩ := open_int Try.underlying3 (hval 1 3 v1 rfl rfl) h1
  clear hA0 hval0
  refine (pointOrder_any W w0 w1).mono fun e W' ⟨he, bel⟩ => ?_
  subst he
  exact ⟨_, rfl, _, _, _, [], _, [], hW', trodAll_mk1 (shut_bool Try.underlying4 _), (trodAll_cons_mk (Below.trod laidOut (by kernel_rfl) (of_decide_eq_true (by kernel_rfl)) k0 bel lt0) (trodAll_cons_mk (shut_int Try.underlying3 w1) trodAll_mk0)), rfl, bel.frame _, fun h => by cases h⟩
theorem over : Rows.pointOrderRow.holds Try.pinned (OpenSpec.ofChange Rows.pointOrderSpec) :=
  OpenClaim.holds_of_wide 7 Try.f7 rfl rfl rfl rfl rfl rfl rfl ⟨rfl, rfl, rfl, rfl, rfl⟩ rfl rfl rfl rfl rfl (by kernel_rfl) Try.func7 (by kernel_rfl)
    (of_decide_eq_true (by kernel_rfl)) (by unfold Func.isWrapper; first | (rw [if_pos (by decide +kernel)]; kernel_rfl) | (rw [if_neg (by decide +kernel)]; exact ⟨rfl, rfl⟩))
    (fun os started H enc _ => lifted os started H enc)
theorem proved : Rows.PointOrderSaid := over
#print axioms proved
end pointOrderDone

end Go.Proofs.Ytjchdhpijopikaa
