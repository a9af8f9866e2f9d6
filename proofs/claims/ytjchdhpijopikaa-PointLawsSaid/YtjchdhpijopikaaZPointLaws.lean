/- Of chapter 8, PointLaws: for every input the law returns true, and each argument reads behind the call as it read before. No condition. -/
import Derived.Test.YtjchdhpijopikaaZPCD
import Derived.ProofKit
import Derived.ShutString
import Derived.ChangeOld
namespace Go.Proofs.Ytjchdhpijopikaa
open Go Go.ChangeShapes Go.WideShapes Go.ChangeAt Go.RowKit
open Go.ChangeMaps (open_string shut_string)

set_option maxRecDepth 100000 in
set_option maxHeartbeats 8000000 in
theorem pointLaws_few {a : Option Addr} {na capa : Nat} {la : List UInt8} {b : Option Addr} {nb capb : Nat} {lb : List UInt8} {c : Option Addr} {nc capc : Nat} {lc : List UInt8} (w : World) (ha : RdB w a na capa la) (hb : RdB w b nb capb lb) (hc : RdB w c nc capc lc) (t0 : ¬ (100 : Int) < (na : Int)) (t1 : ¬ (100 : Int) < (nb : Int)) (t2 : ¬ (100 : Int) < (nc : Int)) :
    Calls Try.prog 6 #[.slice a na capa, .slice b nb capb, .slice c nc capc] w fun e w' => e = .returned (.bool true) ∧ Below w.heap.size w w' := by
  have d0 : decide ((100 : Int) < (na : Int)) = false := decide_eq_false t0
  have d1 : decide ((100 : Int) < (nb : Int)) = false := decide_eq_false t1
  have d2 : decide ((100 : Int) < (nc : Int)) = false := decide_eq_false t2
  obtain ⟨sa, hsa⟩ : ∃ s, wS la = s := ⟨_, rfl⟩; have HSa := Lib.hid hsa; clear hsa
  obtain ⟨sb, hsb⟩ : ∃ s, wS lb = s := ⟨_, rfl⟩; have HSb := Lib.hid hsb; clear hsb
  obtain ⟨sc, hsc⟩ : ∃ s, wS lc = s := ⟨_, rfl⟩; have HSc := Lib.hid hsc; clear hsc
  obtain ⟨P, hP⟩ : ∃ P, Cp.mul sa.val base = P := ⟨_, rfl⟩; have HP := Lib.hid hP; clear hP
  obtain ⟨Q, hQ⟩ : ∃ P, Cp.mul sb.val base = P := ⟨_, rfl⟩; have HQ := Lib.hid hQ; clear hQ
  obtain ⟨R, hR⟩ : ∃ P, Cp.mul sc.val base = P := ⟨_, rfl⟩; have HR := Lib.hid hR; clear hR
  clear t0 t1 t2
  go_enter Try.func6, Try.ntmps6
  have hbel : Below w.heap.size w w := Below.refl _ _
  have hbel0 := hbel
  go_upto_region 0 with fail
  refine wp_region_turn (fun u => (.slice a na capa :: .slice b nb capb :: .slice c nc capc :: undef :: undef :: undef :: u 0 :: undef :: undef :: undef :: undef :: undef :: undef :: undef :: undef :: undef :: undef :: undef :: undef :: undef :: undef :: undef :: undef :: undef :: undef :: undef :: undef :: undef :: undef :: undef :: undef :: undef :: undef :: undef :: undef :: undef :: undef :: undef :: undef :: undef :: undef :: undef :: undef :: undef :: undef :: undef :: undef :: undef :: undef :: undef :: undef :: undef :: undef :: undef :: undef :: undef :: undef :: undef :: undef :: undef :: undef :: undef :: undef :: undef :: undef :: undef :: undef :: undef :: undef :: undef :: undef :: undef :: undef :: undef :: undef :: undef :: undef :: undef :: undef :: undef :: undef :: undef :: undef :: undef :: undef :: undef :: undef :: undef :: undef :: undef :: undef :: undef :: undef :: undef :: undef :: undef :: undef :: undef :: undef :: undef :: undef :: undef :: undef :: undef :: undef :: undef :: undef :: undef :: undef :: undef :: undef :: undef :: undef :: undef :: undef :: undef :: undef :: undef :: undef :: undef :: undef :: undef :: []).toArray) (Holds [.oth (fun v => v = .bool false)] w) (Keep [.oth (fun v => v = .bool false)] w) (fun _ => undef) ?_ (by rfl) Keep.start (holds_soft (by kernel_rfl)) ?_ ?_
  · intro u i v h
    rcases i with _ | i
    all_goals first | (simp [Act.put, putV]; done) | (exfalso; simp at h; omega)
  · intro hs
    refine ⟨?_, trivial⟩
    · exact step_pureO hs (wants_none rfl) rfl fun L u W hG hdep => ⟨_, run_assign rfl, rfl⟩
  intro L0 u0 W0 hall hJ hG
  have hb := hJ.all rfl
  have hbel := Below.call hbel hb
  have HC6 := Lib.hid (show u0 0 = .bool false from hG 0 (by simp))
  have hbel0 := hbel
  clear hJ hG hall hb
  go_upto_region 1 with fail
  refine wp_region_turn (fun u => (.slice a na capa :: .slice b nb capb :: .slice c nc capc :: undef :: undef :: undef :: u0 0 :: undef :: undef :: undef :: undef :: undef :: u 0 :: u 1 :: u 2 :: u 3 :: u 4 :: u 5 :: u 6 :: u 7 :: u 8 :: u 9 :: u 10 :: u 11 :: u 12 :: undef :: undef :: undef :: undef :: undef :: undef :: undef :: undef :: undef :: undef :: undef :: undef :: undef :: undef :: undef :: undef :: undef :: undef :: undef :: undef :: undef :: undef :: undef :: undef :: undef :: undef :: undef :: undef :: undef :: undef :: undef :: undef :: undef :: undef :: undef :: undef :: undef :: undef :: undef :: undef :: undef :: undef :: undef :: undef :: undef :: undef :: undef :: undef :: undef :: undef :: undef :: undef :: undef :: undef :: undef :: undef :: undef :: undef :: undef :: undef :: undef :: undef :: undef :: undef :: undef :: undef :: undef :: undef :: undef :: undef :: undef :: undef :: undef :: undef :: undef :: undef :: undef :: undef :: undef :: undef :: undef :: undef :: undef :: undef :: undef :: undef :: undef :: undef :: undef :: undef :: undef :: undef :: undef :: undef :: undef :: undef :: undef :: []).toArray) (Holds [.oth (fun v => v = .slice a na capa), .oth (fun v => v = .int .i64 (na : Nat)), .oth (fun v => v = .bool false), .oth (fun v => v = .bool false), .oth (fun v => v = .slice b nb capb), .oth (fun v => v = .int .i64 (nb : Nat)), .oth (fun v => v = .bool false), .oth (fun v => v = .bool false), .oth (fun v => v = .bool false), .oth (fun v => v = .slice c nc capc), .oth (fun v => v = .int .i64 (nc : Nat)), .oth (fun v => v = .bool false), .oth (fun v => v = .bool false)] W0) (Keep [.oth (fun v => v = .slice a na capa), .oth (fun v => v = .int .i64 (na : Nat)), .oth (fun v => v = .bool false), .oth (fun v => v = .bool false), .oth (fun v => v = .slice b nb capb), .oth (fun v => v = .int .i64 (nb : Nat)), .oth (fun v => v = .bool false), .oth (fun v => v = .bool false), .oth (fun v => v = .bool false), .oth (fun v => v = .slice c nc capc), .oth (fun v => v = .int .i64 (nc : Nat)), .oth (fun v => v = .bool false), .oth (fun v => v = .bool false)] W0) (fun _ => undef) ?_ (by rfl) Keep.start (holds_soft (by kernel_rfl)) ?_ ?_
  · intro u i v h
    rcases i with _ | _ | _ | _ | _ | _ | _ | _ | _ | _ | _ | _ | _ | i
    all_goals first | (simp [Act.put, putV]; done) | (exfalso; simp at h; omega)
  · intro hs
    refine ⟨?_, ?_, ?_, ?_, ?_, ?_, ?_, ?_, ?_, ?_, ?_, ?_, ?_, trivial⟩
    · exact step_pureO hs (wants_none rfl) rfl fun L u W hG hdep => ⟨_, run_move rfl, rfl⟩
    · refine step_pureO hs (wants_none rfl) rfl fun L u W hG hdep => ⟨_, ?_, rfl⟩
      have e0 := (show u 0 = .slice a na capa from hG 0 (hdep 0 (by kernel_rfl)))
      go_simp
    · refine step_pureO hs (wants_none rfl) rfl fun L u W hG hdep => ⟨_, ?_, rfl⟩
      have e0 := (show u 1 = .int .i64 (na : Nat) from hG 1 (hdep 1 (by kernel_rfl)))
      go_simp
      try simp [bne]
    · exact step_pureO hs (wants_none rfl) rfl fun L u W hG hdep => ⟨_, run_move rfl, (show u 2 = .bool false from hG 2 (hdep 2 (by kernel_rfl)))⟩
    · exact step_pureO hs (wants_on 3 rfl rfl (by kernel_rfl) (fun _ => rfl)) rfl fun L u W hG hdep => ⟨_, run_move rfl, rfl⟩
    · refine step_pureO hs (wants_on 3 rfl rfl (by kernel_rfl) (fun _ => rfl)) rfl fun L u W hG hdep => ⟨_, ?_, rfl⟩
      have e0 := (show u 4 = .slice b nb capb from hG 4 (hdep 4 (by kernel_rfl)))
      go_simp
    · refine step_pureO hs (wants_on 3 rfl rfl (by kernel_rfl) (fun _ => rfl)) rfl fun L u W hG hdep => ⟨_, ?_, rfl⟩
      have e0 := (show u 5 = .int .i64 (nb : Nat) from hG 5 (hdep 5 (by kernel_rfl)))
      go_simp
      try simp [bne]
    · exact step_pick false hs (wants_none rfl) rfl rfl (fun L u W hG hdep => (show u 3 = .bool false from hG 3 (hdep 3 (by kernel_rfl)))) (fun L u W hG hdep => (show u 6 = .bool false from hG 6 (hdep 6 (by kernel_rfl))))
    · exact step_pureO hs (wants_none rfl) rfl fun L u W hG hdep => ⟨_, run_move rfl, (show u 7 = .bool false from hG 7 (hdep 7 (by kernel_rfl)))⟩
    · exact step_pureO hs (wants_on 8 rfl rfl (by kernel_rfl) (fun _ => rfl)) rfl fun L u W hG hdep => ⟨_, run_move rfl, rfl⟩
    · refine step_pureO hs (wants_on 8 rfl rfl (by kernel_rfl) (fun _ => rfl)) rfl fun L u W hG hdep => ⟨_, ?_, rfl⟩
      have e0 := (show u 9 = .slice c nc capc from hG 9 (hdep 9 (by kernel_rfl)))
      go_simp
    · refine step_pureO hs (wants_on 8 rfl rfl (by kernel_rfl) (fun _ => rfl)) rfl fun L u W hG hdep => ⟨_, ?_, rfl⟩
      have e0 := (show u 10 = .int .i64 (nc : Nat) from hG 10 (hdep 10 (by kernel_rfl)))
      go_simp
      try simp [bne]
    · exact step_pick false hs (wants_none rfl) rfl rfl (fun L u W hG hdep => (show u 8 = .bool false from hG 8 (hdep 8 (by kernel_rfl)))) (fun L u W hG hdep => (show u 11 = .bool false from hG 11 (hdep 11 (by kernel_rfl))))
  intro L1 u1 W1 hall hJ hG
  have hb := hJ.all rfl
  have hbel := Below.call hbel hb
  have HC14 := Lib.hid (show u1 2 = .bool false from hG 2 (by simp))
  have HC15 := Lib.hid (show u1 3 = .bool false from hG 3 (by simp))
  have HC18 := Lib.hid (show u1 6 = .bool false from hG 6 (by simp))
  have HC19 := Lib.hid (show u1 7 = .bool false from hG 7 (by simp))
  have HC20 := Lib.hid (show u1 8 = .bool false from hG 8 (by simp))
  have HC23 := Lib.hid (show u1 11 = .bool false from hG 11 (by simp))
  have HC24 := Lib.hid (show u1 12 = .bool false from hG 12 (by simp))
  have hbel0 := hbel
  clear hJ hG hall hb
  have hx : u1 12 = .bool false := HC24.out
  go_wp2_with fail
  rw [hx]
  clear hx
  clear d0 d1 d2
  go_upto_region 3 with fail
  refine wp_region_turn (fun u => (.slice a na capa :: .slice b nb capb :: .slice c nc capc :: undef :: undef :: undef :: u0 0 :: u 0 :: undef :: undef :: undef :: undef :: u1 0 :: u1 1 :: u1 2 :: u1 3 :: u1 4 :: u1 5 :: u1 6 :: u1 7 :: u1 8 :: u1 9 :: u1 10 :: u1 11 :: .bool false :: undef :: undef :: undef :: undef :: undef :: undef :: undef :: undef :: undef :: undef :: undef :: undef :: undef :: undef :: undef :: undef :: undef :: undef :: undef :: undef :: undef :: undef :: undef :: undef :: undef :: undef :: undef :: undef :: undef :: undef :: undef :: undef :: undef :: undef :: undef :: undef :: undef :: undef :: undef :: undef :: undef :: undef :: undef :: undef :: undef :: undef :: undef :: undef :: undef :: undef :: undef :: undef :: undef :: undef :: undef :: undef :: undef :: undef :: undef :: undef :: undef :: undef :: undef :: undef :: undef :: undef :: undef :: undef :: undef :: undef :: undef :: undef :: undef :: undef :: undef :: undef :: undef :: undef :: undef :: undef :: undef :: undef :: undef :: undef :: undef :: undef :: undef :: undef :: undef :: undef :: undef :: undef :: undef :: undef :: undef :: undef :: undef :: []).toArray) (Holds [.oth (fun v => v = .func (.func 25) #[] #[])] W1) (Keep [.oth (fun v => v = .func (.func 25) #[] #[])] W1) (fun _ => undef) ?_ (by rfl) Keep.start (holds_soft (by kernel_rfl)) ?_ ?_
  · intro u i v h
    rcases i with _ | i
    all_goals first | (simp [Act.put, putV]; done) | (exfalso; simp at h; omega)
  · intro hs
    refine ⟨?_, trivial⟩
    · exact step_pureO hs (wants_none rfl) rfl fun L u W hG hdep => ⟨_, run_assign rfl, rfl⟩
  intro L3 u3 W3 hall hJ hG
  have hb := hJ.all rfl
  have hbel := Below.call hbel hb
  have HC7 := Lib.hid (show u3 0 = .func (.func 25) #[] #[] from hG 0 (by simp))
  have hbel0 := hbel
  clear hJ hG hall hb
  go_upto_region 4 with fail
  refine wp_region_turn (fun u => (.slice a na capa :: .slice b nb capb :: .slice c nc capc :: undef :: undef :: undef :: u0 0 :: u3 0 :: u 4 :: undef :: undef :: undef :: u1 0 :: u1 1 :: u1 2 :: u1 3 :: u1 4 :: u1 5 :: u1 6 :: u1 7 :: u1 8 :: u1 9 :: u1 10 :: u1 11 :: .bool false :: undef :: u 0 :: u 1 :: u 2 :: u 3 :: undef :: undef :: undef :: undef :: undef :: undef :: undef :: undef :: undef :: undef :: undef :: undef :: undef :: undef :: undef :: undef :: undef :: undef :: undef :: undef :: undef :: undef :: undef :: undef :: undef :: undef :: undef :: undef :: undef :: undef :: undef :: undef :: undef :: undef :: undef :: undef :: undef :: undef :: undef :: undef :: undef :: undef :: undef :: undef :: undef :: undef :: undef :: undef :: undef :: undef :: undef :: undef :: undef :: undef :: undef :: undef :: undef :: undef :: undef :: undef :: undef :: undef :: undef :: undef :: undef :: undef :: undef :: undef :: undef :: undef :: undef :: undef :: undef :: undef :: undef :: undef :: undef :: undef :: undef :: undef :: undef :: undef :: undef :: undef :: undef :: undef :: undef :: undef :: undef :: undef :: undef :: undef :: []).toArray) (Holds [.val rP [base], .oth (fun v => v = .slice a na capa), .val rS [sa], .val rP [P], .new 20, .st 4 rP [P]] W3) (Keep [.val rP [base], .oth (fun v => v = .slice a na capa), .val rS [sa], .val rP [P], .new 20, .st 4 rP [P]] W3) (fun _ => undef) ?_ (by rfl) Keep.start (holds_soft (by kernel_rfl)) ?_ ?_
  · intro u i v h
    rcases i with _ | _ | _ | _ | _ | _ | i
    all_goals first | (simp [Act.put, putV]; done) | (exfalso; simp at h; omega)
  · intro hs
    refine ⟨?_, ?_, ?_, ?_, ?_, ?_, trivial⟩
    · refine step_call hs (wants_none rfl) rfl fun L u W hJ hG hL hdep K hK => ?_
      go_simp
      go_at_call 16
      (with_reducible refine (cBase _).mono ?_); rintro e w1 ⟨r, rfl, hr, hb⟩
      have hk := hK.out _ _ hr hb
      exact hk
    · exact step_pureO hs (wants_none rfl) rfl fun L u W hG hdep => ⟨_, run_move rfl, rfl⟩
    · refine step_call hs (wants_none rfl) rfl fun L u W hJ hG hL hdep K hK => ?_
      have x0 := (show u 1 = .slice a na capa from hG 1 (hdep 1 (by kernel_rfl)))
      have hRB0 := (ha.below hbel).below (hJ.all rfl)
      go_simp
      go_at_call 18
      (with_reducible refine (cWide HSa.out hRB0).mono ?_); rintro e w1 ⟨r, rfl, hr, hb⟩
      have hk := hK.out _ _ hr hb
      simp only [x0] at hk
      exact hk
    · refine step_call hs (wants_none rfl) rfl fun L u W hJ hG hL hdep K hK => ?_
      have a0 := (show IsFs rP (u 0) [base] from hG 0 (hdep 0 (by kernel_rfl)))
      have a1 := (show IsFs rS (u 2) [sa] from hG 2 (hdep 2 (by kernel_rfl)))
      go_simp
      go_at_call 17
      (with_reducible refine (cMult HP.out a0 a1 _).mono ?_); rintro e w1 ⟨r, rfl, hr, hb⟩
      have hk := hK.out _ _ hr hb
      exact hk
    · exact step_alloc hs (wants_none rfl) rfl rfl (by omega) rfl allocP
    · exact step_store 4 hs (by kernel_rfl) (wants_none rfl) rfl rfl rfl (by kernel_rfl) (by kernel_rfl) (by kernel_rfl) (by kernel_rfl) (fun _ => rfl) (gives_op 3 rfl (by kernel_rfl) (fun _ => rfl)) tyP rfl
  intro L4 u4 W4 hall hJ hG
  obtain ⟨q8, e8, hq8, _, ht8⟩ := (show ∃ g, u4 4 = .pointer (some ⟨g, 0, none⟩) ∧ W3.heap.size ≤ g ∧ 0 < 20 ∧ W4.there g 0 20 from hG 4 (by simp))
  have hm8 : HasFs rP W4 q8 0 [P] := by
    obtain ⟨g, e, _, h⟩ := (show ∃ g, u4 4 = .pointer (some ⟨g, 0, none⟩) ∧ W3.heap.size ≤ g ∧ HasFs rP W4 g 0 [P] from hG 5 (by simp))
    rw [e8] at e; cases e; exact h
  have hq8 : w.heap.size ≤ q8 := by have := hbel0.size; omega
  have E8 := Lib.hid e8; clear e8
  have hb := hJ.all rfl
  have hbel := Below.call hbel hb
  have hbel0 := hbel
  clear hJ hG hall hb
  go_upto_region 5 with fail
  refine wp_region_turn (fun u => (.slice a na capa :: .slice b nb capb :: .slice c nc capc :: undef :: undef :: undef :: u0 0 :: u3 0 :: u4 4 :: u 4 :: undef :: undef :: u1 0 :: u1 1 :: u1 2 :: u1 3 :: u1 4 :: u1 5 :: u1 6 :: u1 7 :: u1 8 :: u1 9 :: u1 10 :: u1 11 :: .bool false :: undef :: u4 0 :: u4 1 :: u4 2 :: u4 3 :: u 0 :: u 1 :: u 2 :: u 3 :: undef :: undef :: undef :: undef :: undef :: undef :: undef :: undef :: undef :: undef :: undef :: undef :: undef :: undef :: undef :: undef :: undef :: undef :: undef :: undef :: undef :: undef :: undef :: undef :: undef :: undef :: undef :: undef :: undef :: undef :: undef :: undef :: undef :: undef :: undef :: undef :: undef :: undef :: undef :: undef :: undef :: undef :: undef :: undef :: undef :: undef :: undef :: undef :: undef :: undef :: undef :: undef :: undef :: undef :: undef :: undef :: undef :: undef :: undef :: undef :: undef :: undef :: undef :: undef :: undef :: undef :: undef :: undef :: undef :: undef :: undef :: undef :: undef :: undef :: undef :: undef :: undef :: undef :: undef :: undef :: undef :: undef :: undef :: undef :: undef :: undef :: undef :: undef :: []).toArray) (Holds [.val rP [base], .oth (fun v => v = .slice b nb capb), .val rS [sb], .val rP [Q], .new 20, .st 4 rP [Q]] W4) (Keep [.val rP [base], .oth (fun v => v = .slice b nb capb), .val rS [sb], .val rP [Q], .new 20, .st 4 rP [Q]] W4) (fun _ => undef) ?_ (by rfl) Keep.start (holds_soft (by kernel_rfl)) ?_ ?_
  · intro u i v h
    rcases i with _ | _ | _ | _ | _ | _ | i
    all_goals first | (simp [Act.put, putV]; done) | (exfalso; simp at h; omega)
  · intro hs
    refine ⟨?_, ?_, ?_, ?_, ?_, ?_, trivial⟩
    · refine step_call hs (wants_none rfl) rfl fun L u W hJ hG hL hdep K hK => ?_
      go_simp
      go_at_call 16
      (with_reducible refine (cBase _).mono ?_); rintro e w1 ⟨r, rfl, hr, hb⟩
      have hk := hK.out _ _ hr hb
      exact hk
    · exact step_pureO hs (wants_none rfl) rfl fun L u W hG hdep => ⟨_, run_move rfl, rfl⟩
    · refine step_call hs (wants_none rfl) rfl fun L u W hJ hG hL hdep K hK => ?_
      have x0 := (show u 1 = .slice b nb capb from hG 1 (hdep 1 (by kernel_rfl)))
      have hRB0 := (hb.below hbel).below (hJ.all rfl)
      go_simp
      go_at_call 18
      (with_reducible refine (cWide HSb.out hRB0).mono ?_); rintro e w1 ⟨r, rfl, hr, hb⟩
      have hk := hK.out _ _ hr hb
      simp only [x0] at hk
      exact hk
    · refine step_call hs (wants_none rfl) rfl fun L u W hJ hG hL hdep K hK => ?_
      have a0 := (show IsFs rP (u 0) [base] from hG 0 (hdep 0 (by kernel_rfl)))
      have a1 := (show IsFs rS (u 2) [sb] from hG 2 (hdep 2 (by kernel_rfl)))
      go_simp
      go_at_call 17
      (with_reducible refine (cMult HQ.out a0 a1 _).mono ?_); rintro e w1 ⟨r, rfl, hr, hb⟩
      have hk := hK.out _ _ hr hb
      exact hk
    · exact step_alloc hs (wants_none rfl) rfl rfl (by omega) rfl allocP
    · exact step_store 4 hs (by kernel_rfl) (wants_none rfl) rfl rfl rfl (by kernel_rfl) (by kernel_rfl) (by kernel_rfl) (by kernel_rfl) (fun _ => rfl) (gives_op 3 rfl (by kernel_rfl) (fun _ => rfl)) tyP rfl
  intro L5 u5 W5 hall hJ hG
  obtain ⟨q9, e9, hq9, _, ht9⟩ := (show ∃ g, u5 4 = .pointer (some ⟨g, 0, none⟩) ∧ W4.heap.size ≤ g ∧ 0 < 20 ∧ W5.there g 0 20 from hG 4 (by simp))
  have hm9 : HasFs rP W5 q9 0 [Q] := by
    obtain ⟨g, e, _, h⟩ := (show ∃ g, u5 4 = .pointer (some ⟨g, 0, none⟩) ∧ W4.heap.size ≤ g ∧ HasFs rP W5 g 0 [Q] from hG 5 (by simp))
    rw [e9] at e; cases e; exact h
  have HD9_q8 := Lib.hid (show q8 ≠ q9 by have := there_lt ht8 (by omega); omega)
  have hq9 : w.heap.size ≤ q9 := by have := hbel0.size; omega
  have E9 := Lib.hid e9; clear e9
  have hb := hJ.all rfl
  have hbel := Below.call hbel hb
  have hm8 := hm8.later hb
  have ht8 := there_later ht8 hb
  have hbel0 := hbel
  clear hJ hG hall hb
  go_upto_region 6 with fail
  refine wp_region_turn (fun u => (.slice a na capa :: .slice b nb capb :: .slice c nc capc :: undef :: undef :: undef :: u0 0 :: u3 0 :: u4 4 :: u5 4 :: u 4 :: undef :: u1 0 :: u1 1 :: u1 2 :: u1 3 :: u1 4 :: u1 5 :: u1 6 :: u1 7 :: u1 8 :: u1 9 :: u1 10 :: u1 11 :: .bool false :: undef :: u4 0 :: u4 1 :: u4 2 :: u4 3 :: u5 0 :: u5 1 :: u5 2 :: u5 3 :: u 0 :: u 1 :: u 2 :: u 3 :: undef :: undef :: undef :: undef :: undef :: undef :: undef :: undef :: undef :: undef :: undef :: undef :: undef :: undef :: undef :: undef :: undef :: undef :: undef :: undef :: undef :: undef :: undef :: undef :: undef :: undef :: undef :: undef :: undef :: undef :: undef :: undef :: undef :: undef :: undef :: undef :: undef :: undef :: undef :: undef :: undef :: undef :: undef :: undef :: undef :: undef :: undef :: undef :: undef :: undef :: undef :: undef :: undef :: undef :: undef :: undef :: undef :: undef :: undef :: undef :: undef :: undef :: undef :: undef :: undef :: undef :: undef :: undef :: undef :: undef :: undef :: undef :: undef :: undef :: undef :: undef :: undef :: undef :: undef :: undef :: undef :: undef :: undef :: undef :: []).toArray) (Holds [.val rP [base], .oth (fun v => v = .slice c nc capc), .val rS [sc], .val rP [R], .new 20, .st 4 rP [R]] W5) (Keep [.val rP [base], .oth (fun v => v = .slice c nc capc), .val rS [sc], .val rP [R], .new 20, .st 4 rP [R]] W5) (fun _ => undef) ?_ (by rfl) Keep.start (holds_soft (by kernel_rfl)) ?_ ?_
  · intro u i v h
    rcases i with _ | _ | _ | _ | _ | _ | i
    all_goals first | (simp [Act.put, putV]; done) | (exfalso; simp at h; omega)
  · intro hs
    refine ⟨?_, ?_, ?_, ?_, ?_, ?_, trivial⟩
    · refine step_call hs (wants_none rfl) rfl fun L u W hJ hG hL hdep K hK => ?_
      go_simp
      go_at_call 16
      (with_reducible refine (cBase _).mono ?_); rintro e w1 ⟨r, rfl, hr, hb⟩
      have hk := hK.out _ _ hr hb
      exact hk
    · exact step_pureO hs (wants_none rfl) rfl fun L u W hG hdep => ⟨_, run_move rfl, rfl⟩
    · refine step_call hs (wants_none rfl) rfl fun L u W hJ hG hL hdep K hK => ?_
      have x0 := (show u 1 = .slice c nc capc from hG 1 (hdep 1 (by kernel_rfl)))
      have hRB0 := (hc.below hbel).below (hJ.all rfl)
      go_simp
      go_at_call 18
      (with_reducible refine (cWide HSc.out hRB0).mono ?_); rintro e w1 ⟨r, rfl, hr, hb⟩
      have hk := hK.out _ _ hr hb
      simp only [x0] at hk
      exact hk
    · refine step_call hs (wants_none rfl) rfl fun L u W hJ hG hL hdep K hK => ?_
      have a0 := (show IsFs rP (u 0) [base] from hG 0 (hdep 0 (by kernel_rfl)))
      have a1 := (show IsFs rS (u 2) [sc] from hG 2 (hdep 2 (by kernel_rfl)))
      go_simp
      go_at_call 17
      (with_reducible refine (cMult HR.out a0 a1 _).mono ?_); rintro e w1 ⟨r, rfl, hr, hb⟩
      have hk := hK.out _ _ hr hb
      exact hk
    · exact step_alloc hs (wants_none rfl) rfl rfl (by omega) rfl allocP
    · exact step_store 4 hs (by kernel_rfl) (wants_none rfl) rfl rfl rfl (by kernel_rfl) (by kernel_rfl) (by kernel_rfl) (by kernel_rfl) (fun _ => rfl) (gives_op 3 rfl (by kernel_rfl) (fun _ => rfl)) tyP rfl
  intro L6 u6 W6 hall hJ hG
  obtain ⟨q10, e10, hq10, _, ht10⟩ := (show ∃ g, u6 4 = .pointer (some ⟨g, 0, none⟩) ∧ W5.heap.size ≤ g ∧ 0 < 20 ∧ W6.there g 0 20 from hG 4 (by simp))
  have hm10 : HasFs rP W6 q10 0 [R] := by
    obtain ⟨g, e, _, h⟩ := (show ∃ g, u6 4 = .pointer (some ⟨g, 0, none⟩) ∧ W5.heap.size ≤ g ∧ HasFs rP W6 g 0 [R] from hG 5 (by simp))
    rw [e10] at e; cases e; exact h
  have HD10_q8 := Lib.hid (show q8 ≠ q10 by have := there_lt ht8 (by omega); omega)
  have HD10_q9 := Lib.hid (show q9 ≠ q10 by have := there_lt ht9 (by omega); omega)
  have hq10 : w.heap.size ≤ q10 := by have := hbel0.size; omega
  have E10 := Lib.hid e10; clear e10
  have hb := hJ.all rfl
  have hbel := Below.call hbel hb
  have hm8 := hm8.later hb
  have hm9 := hm9.later hb
  have ht8 := there_later ht8 hb
  have ht9 := there_later ht9 hb
  have hbel0 := hbel
  clear hJ hG hall hb
  go_upto_region 7 with fail
  refine wp_region_turn (fun u => (.slice a na capa :: .slice b nb capb :: .slice c nc capc :: undef :: undef :: undef :: u0 0 :: u3 0 :: u4 4 :: u5 4 :: u6 4 :: u 0 :: u1 0 :: u1 1 :: u1 2 :: u1 3 :: u1 4 :: u1 5 :: u1 6 :: u1 7 :: u1 8 :: u1 9 :: u1 10 :: u1 11 :: .bool false :: undef :: u4 0 :: u4 1 :: u4 2 :: u4 3 :: u5 0 :: u5 1 :: u5 2 :: u5 3 :: u6 0 :: u6 1 :: u6 2 :: u6 3 :: undef :: undef :: undef :: undef :: undef :: undef :: undef :: undef :: undef :: undef :: undef :: undef :: undef :: undef :: undef :: undef :: undef :: undef :: undef :: undef :: undef :: undef :: undef :: undef :: undef :: undef :: undef :: undef :: undef :: undef :: undef :: undef :: undef :: undef :: undef :: undef :: undef :: undef :: undef :: undef :: undef :: undef :: undef :: undef :: undef :: undef :: undef :: undef :: undef :: undef :: undef :: undef :: undef :: undef :: undef :: undef :: undef :: undef :: undef :: undef :: undef :: undef :: undef :: undef :: undef :: undef :: undef :: undef :: undef :: undef :: undef :: undef :: undef :: undef :: undef :: undef :: undef :: undef :: undef :: undef :: undef :: undef :: undef :: undef :: []).toArray) (Holds [.box rP [Cp.zero]] W6) (Keep [.box rP [Cp.zero]] W6) (fun _ => undef) ?_ (by rfl) Keep.start (holds_soft (by kernel_rfl)) ?_ ?_
  · intro u i v h
    rcases i with _ | i
    all_goals first | (simp [Act.put, putV]; done) | (exfalso; simp at h; omega)
  · intro hs
    refine ⟨?_, trivial⟩
    · exact step_allocZ hs (wants_none rfl) rfl rfl zero_P allocP
  intro L7 u7 W7 hall hJ hG
  obtain ⟨q11, e11, ⟨hq11, _⟩, ht11, hm11⟩ := (show ∃ g, u7 0 = .pointer (some ⟨g, 0, none⟩) ∧ (W6.heap.size ≤ g ∧ g < W7.heap.size) ∧ W7.there g 0 20 ∧ HasFs rP W7 g 0 [Cp.zero] from hG 0 (by simp))
  have HD11_q8 := Lib.hid (show q8 ≠ q11 by have := there_lt ht8 (by omega); omega)
  have HD11_q9 := Lib.hid (show q9 ≠ q11 by have := there_lt ht9 (by omega); omega)
  have HD11_q10 := Lib.hid (show q10 ≠ q11 by have := there_lt ht10 (by omega); omega)
  have hq11 : w.heap.size ≤ q11 := by have := hbel0.size; omega
  have E11 := Lib.hid e11; clear e11
  have hb := hJ.all rfl
  have hbel := Below.call hbel hb
  have hm8 := hm8.later hb
  have hm9 := hm9.later hb
  have hm10 := hm10.later hb
  have ht8 := there_later ht8 hb
  have ht9 := there_later ht9 hb
  have ht10 := there_later ht10 hb
  have hbel0 := hbel
  clear hJ hG hall hb
  go_upto_region 8 with fail
  simp only [List.append]
  refine wp_region_mid (fun u => (.slice a na capa :: .slice b nb capb :: .slice c nc capc :: undef :: undef :: undef :: u 84 :: u3 0 :: u4 4 :: u5 4 :: u6 4 :: u7 0 :: u1 0 :: u1 1 :: u1 2 :: u1 3 :: u1 4 :: u1 5 :: u1 6 :: u1 7 :: u1 8 :: u1 9 :: u1 10 :: u1 11 :: .bool false :: undef :: u4 0 :: u4 1 :: u4 2 :: u4 3 :: u5 0 :: u5 1 :: u5 2 :: u5 3 :: u6 0 :: u6 1 :: u6 2 :: u6 3 :: u 0 :: u 1 :: u 2 :: u 3 :: u 4 :: u 5 :: u 6 :: u 7 :: u 8 :: u 9 :: u 10 :: u 11 :: u 12 :: u 13 :: u 14 :: u 15 :: u 16 :: u 17 :: u 18 :: u 19 :: u 20 :: u 21 :: u 22 :: u 23 :: u 24 :: u 25 :: u 26 :: u 27 :: u 28 :: u 29 :: u 30 :: u 31 :: u 32 :: u 33 :: u 34 :: u 35 :: u 36 :: u 37 :: u 38 :: u 39 :: u 40 :: u 41 :: u 42 :: u 43 :: u 44 :: u 45 :: u 46 :: u 47 :: u 48 :: u 49 :: u 50 :: u 51 :: u 52 :: u 53 :: u 54 :: u 55 :: u 56 :: u 57 :: u 58 :: u 59 :: u 60 :: u 61 :: u 62 :: u 63 :: u 64 :: u 65 :: u 66 :: u 67 :: u 68 :: u 69 :: u 70 :: u 71 :: u 72 :: u 73 :: u 74 :: u 75 :: u 76 :: u 77 :: u 78 :: u 79 :: u 80 :: u 81 :: u 82 :: u 83 :: []).toArray) (Holds [.oth (fun v => v = .func (.func 25) #[] #[]), .val rP [P], .val rP [Q], .val rP [Cp.add P Q], .oth (fun v => v = .func (.func 25) #[] #[]), .val rP [Q], .val rP [P], .val rP [Cp.add Q P], .oth (fun v => v = .bool true), .oth (fun v => v = .bool true), .oth (fun v => v = .func (.func 25) #[] #[]), .oth (fun v => v = .func (.func 25) #[] #[]), .val rP [P], .val rP [Q], .val rP [Cp.add P Q], .val rP [R], .val rP [Cp.add (Cp.add P Q) R], .oth (fun v => v = .func (.func 25) #[] #[]), .val rP [P], .oth (fun v => v = .func (.func 25) #[] #[]), .val rP [Q], .val rP [R], .val rP [Cp.add Q R], .val rP [Cp.add P (Cp.add Q R)], .oth (fun v => v = .bool true), .oth (fun v => v = .bool true), .oth (fun v => v = .bool true), .oth (fun v => v = .func (.func 25) #[] #[]), .val rP [P], .val rP [Cp.zero], .val rP [Cp.add P Cp.zero], .val rP [P], .oth (fun v => v = .bool true), .oth (fun v => v = .bool true), .oth (fun v => v = .bool true), .oth (fun v => v = .func (.func 25) #[] #[]), .val rP [P], .val rP [P], .val rP [Cp.neg P], .val rP [Cp.add P (Cp.neg P)], .val rP [Cp.zero], .oth (fun v => v = .bool true), .oth (fun v => v = .bool true), .oth (fun v => v = .bool true), .oth (fun v => v = .func (.func 25) #[] #[]), .val rP [P], .val rP [Q], .val rP [Cp.add P Q], .val rP [base], .oth (fun v => v = .slice a na capa), .val rS [sa], .oth (fun v => v = .slice b nb capb), .val rS [sb], .val rS [dA sa sb], .val rP [Cp.mul (dA sa sb).val base], .oth (fun v => v = .bool true), .oth (fun v => v = .bool true), .oth (fun v => v = .bool true), .val rP [P], .val rP [Cp.mul 3 P], .oth (fun v => v = .func (.func 25) #[] #[]), .val rP [P], .oth (fun v => v = .func (.func 25) #[] #[]), .val rP [P], .val rP [P], .val rP [Cp.add P P], .val rP [Cp.add P (Cp.add P P)], .oth (fun v => v = .bool true), .oth (fun v => v = .bool true), .oth (fun v => v = .bool true), .val rP [P], .val rP [Cp.zero], .val rP [Cp.zero], .oth (fun v => v = .bool true), .oth (fun v => v = .bool true), .oth (fun v => v = .bool true), .val rP [P], .val rP [Cp.zero], .val rP [Cp.zero], .oth (fun v => v = .bool true), .oth (fun v => v = .bool true), .oth (fun v => v = .bool true), .oth (fun v => v = .bool true), .oth (fun v => v = .bool true), .oth (fun v => v = .bool true)] W7) (Keep [.oth (fun v => v = .func (.func 25) #[] #[]), .val rP [P], .val rP [Q], .val rP [Cp.add P Q], .oth (fun v => v = .func (.func 25) #[] #[]), .val rP [Q], .val rP [P], .val rP [Cp.add Q P], .oth (fun v => v = .bool true), .oth (fun v => v = .bool true), .oth (fun v => v = .func (.func 25) #[] #[]), .oth (fun v => v = .func (.func 25) #[] #[]), .val rP [P], .val rP [Q], .val rP [Cp.add P Q], .val rP [R], .val rP [Cp.add (Cp.add P Q) R], .oth (fun v => v = .func (.func 25) #[] #[]), .val rP [P], .oth (fun v => v = .func (.func 25) #[] #[]), .val rP [Q], .val rP [R], .val rP [Cp.add Q R], .val rP [Cp.add P (Cp.add Q R)], .oth (fun v => v = .bool true), .oth (fun v => v = .bool true), .oth (fun v => v = .bool true), .oth (fun v => v = .func (.func 25) #[] #[]), .val rP [P], .val rP [Cp.zero], .val rP [Cp.add P Cp.zero], .val rP [P], .oth (fun v => v = .bool true), .oth (fun v => v = .bool true), .oth (fun v => v = .bool true), .oth (fun v => v = .func (.func 25) #[] #[]), .val rP [P], .val rP [P], .val rP [Cp.neg P], .val rP [Cp.add P (Cp.neg P)], .val rP [Cp.zero], .oth (fun v => v = .bool true), .oth (fun v => v = .bool true), .oth (fun v => v = .bool true), .oth (fun v => v = .func (.func 25) #[] #[]), .val rP [P], .val rP [Q], .val rP [Cp.add P Q], .val rP [base], .oth (fun v => v = .slice a na capa), .val rS [sa], .oth (fun v => v = .slice b nb capb), .val rS [sb], .val rS [dA sa sb], .val rP [Cp.mul (dA sa sb).val base], .oth (fun v => v = .bool true), .oth (fun v => v = .bool true), .oth (fun v => v = .bool true), .val rP [P], .val rP [Cp.mul 3 P], .oth (fun v => v = .func (.func 25) #[] #[]), .val rP [P], .oth (fun v => v = .func (.func 25) #[] #[]), .val rP [P], .val rP [P], .val rP [Cp.add P P], .val rP [Cp.add P (Cp.add P P)], .oth (fun v => v = .bool true), .oth (fun v => v = .bool true), .oth (fun v => v = .bool true), .val rP [P], .val rP [Cp.zero], .val rP [Cp.zero], .oth (fun v => v = .bool true), .oth (fun v => v = .bool true), .oth (fun v => v = .bool true), .val rP [P], .val rP [Cp.zero], .val rP [Cp.zero], .oth (fun v => v = .bool true), .oth (fun v => v = .bool true), .oth (fun v => v = .bool true), .oth (fun v => v = .bool true), .oth (fun v => v = .bool true), .oth (fun v => v = .bool true)] W7) (fun k => ((undef :: undef :: undef :: undef :: undef :: undef :: undef :: undef :: undef :: undef :: undef :: undef :: undef :: undef :: undef :: undef :: undef :: undef :: undef :: undef :: undef :: undef :: undef :: undef :: undef :: undef :: undef :: undef :: undef :: undef :: undef :: undef :: undef :: undef :: undef :: undef :: undef :: undef :: undef :: undef :: undef :: undef :: undef :: undef :: undef :: undef :: undef :: undef :: undef :: undef :: undef :: undef :: undef :: undef :: undef :: undef :: undef :: undef :: undef :: undef :: undef :: undef :: undef :: undef :: undef :: undef :: undef :: undef :: undef :: undef :: undef :: undef :: undef :: undef :: undef :: undef :: undef :: undef :: undef :: undef :: undef :: undef :: undef :: undef :: u0 0 :: []) : List Value).getD k undef) (by kernel_rfl) (by kernel_rfl) ?_ (by rfl) Keep.drew (holds_soft (by kernel_rfl)) ?_ ?_
  · intro u i v h
    rcases i with _ | _ | _ | _ | _ | _ | _ | _ | _ | _ | _ | _ | _ | _ | _ | _ | _ | _ | _ | _ | _ | _ | _ | _ | _ | _ | _ | _ | _ | _ | _ | _ | _ | _ | _ | _ | _ | _ | _ | _ | _ | _ | _ | _ | _ | _ | _ | _ | _ | _ | _ | _ | _ | _ | _ | _ | _ | _ | _ | _ | _ | _ | _ | _ | _ | _ | _ | _ | _ | _ | _ | _ | _ | _ | _ | _ | _ | _ | _ | _ | _ | _ | _ | _ | _ | i
    iterate 85 kernel_rfl
    exfalso; simp at h; omega
  · intro hs
    refine ⟨?_, ?_, ?_, ?_, ?_, ?_, ?_, ?_, ?_, ?_, ?_, ?_, ?_, ?_, ?_, ?_, ?_, ?_, ?_, ?_, ?_, ?_, ?_, ?_, ?_, ?_, ?_, ?_, ?_, ?_, ?_, ?_, ?_, ?_, ?_, ?_, ?_, ?_, ?_, ?_, ?_, ?_, ?_, ?_, ?_, ?_, ?_, ?_, ?_, ?_, ?_, ?_, ?_, ?_, ?_, ?_, ?_, ?_, ?_, ?_, ?_, ?_, ?_, ?_, ?_, ?_, ?_, ?_, ?_, ?_, ?_, ?_, ?_, ?_, ?_, ?_, ?_, ?_, ?_, ?_, ?_, ?_, ?_, ?_, ?_, trivial⟩
    · exact step_pureO hs (wants_none rfl) rfl fun L u W hG hdep => ⟨_, run_move rfl, HC7.out⟩
    · exact step_load q8 0 hs (wants_none rfl) rfl rfl tyP (fun _ => E8.out) hm8.lt hm8 (noSto_apart (by kernel_rfl))
    · exact step_load q9 0 hs (wants_none rfl) rfl rfl tyP (fun _ => E9.out) hm9.lt hm9 (noSto_apart (by kernel_rfl))
    · refine step_call hs (wants_none rfl) rfl fun L u W hJ hG hL hdep K hK => ?_
      have a0 := (show IsFs rP (u 1) [P] from hG 1 (hdep 1 (by kernel_rfl)))
      have a1 := (show IsFs rP (u 2) [Q] from hG 2 (hdep 2 (by kernel_rfl)))
      have x0 := (show u 0 = .func (.func 25) #[] #[] from hG 0 (hdep 0 (by kernel_rfl)))
      go_simp
      go_at_call 25
      (with_reducible refine (cPAdd a0 a1 _).mono ?_); rintro e w1 ⟨r, rfl, hr, hb⟩
      have hk := hK.out _ _ hr hb
      simp only [x0] at hk
      exact hk
    · exact step_pureO hs (wants_none rfl) rfl fun L u W hG hdep => ⟨_, run_move rfl, HC7.out⟩
    · exact step_load q9 0 hs (wants_none rfl) rfl rfl tyP (fun _ => E9.out) hm9.lt hm9 (noSto_apart (by kernel_rfl))
    · exact step_load q8 0 hs (wants_none rfl) rfl rfl tyP (fun _ => E8.out) hm8.lt hm8 (noSto_apart (by kernel_rfl))
    · refine step_call hs (wants_none rfl) rfl fun L u W hJ hG hL hdep K hK => ?_
      have a0 := (show IsFs rP (u 5) [Q] from hG 5 (hdep 5 (by kernel_rfl)))
      have a1 := (show IsFs rP (u 6) [P] from hG 6 (hdep 6 (by kernel_rfl)))
      have x0 := (show u 4 = .func (.func 25) #[] #[] from hG 4 (hdep 4 (by kernel_rfl)))
      go_simp
      go_at_call 25
      (with_reducible refine (cPAdd a0 a1 _).mono ?_); rintro e w1 ⟨r, rfl, hr, hb⟩
      have hk := hK.out _ _ hr hb
      simp only [x0] at hk
      exact hk
    · refine step_callO hs (wants_none rfl) rfl fun L u W hJ hG hL hdep K hK => ?_
      have a0 := (show IsFs rP (u 3) [Cp.add P Q] from hG 3 (hdep 3 (by kernel_rfl)))
      have a1 := (show IsFs rP (u 7) [Cp.add Q P] from hG 7 (hdep 7 (by kernel_rfl)))
      go_simp
      go_at_call 19
      (with_reducible refine (cPSame (b := true) (decide_eq_true (Cp.comm P Q)) a0 a1 _).mono ?_); rintro e w1 ⟨rfl, hb⟩
      have hk := hK.out _ _ rfl hb
      exact hk
    · exact step_pureO hs (wants_none rfl) rfl fun L u W hG hdep => ⟨_, run_move rfl, (show u 8 = .bool true from hG 8 (hdep 8 (by kernel_rfl)))⟩
    · exact step_pureO hs (wants_on 9 rfl rfl (by kernel_rfl) (fun _ => rfl)) rfl fun L u W hG hdep => ⟨_, run_move rfl, HC7.out⟩
    · exact step_pureO hs (wants_on 9 rfl rfl (by kernel_rfl) (fun _ => rfl)) rfl fun L u W hG hdep => ⟨_, run_move rfl, HC7.out⟩
    · exact step_load q8 0 hs (wants_on 9 rfl rfl (by kernel_rfl) (fun _ => rfl)) rfl rfl tyP (fun _ => E8.out) hm8.lt hm8 (noSto_apart (by kernel_rfl))
    · exact step_load q9 0 hs (wants_on 9 rfl rfl (by kernel_rfl) (fun _ => rfl)) rfl rfl tyP (fun _ => E9.out) hm9.lt hm9 (noSto_apart (by kernel_rfl))
    · refine step_call hs (wants_on 9 rfl rfl (by kernel_rfl) (fun _ => rfl)) rfl fun L u W hJ hG hL hdep K hK => ?_
      have a0 := (show IsFs rP (u 12) [P] from hG 12 (hdep 12 (by kernel_rfl)))
      have a1 := (show IsFs rP (u 13) [Q] from hG 13 (hdep 13 (by kernel_rfl)))
      have x0 := (show u 11 = .func (.func 25) #[] #[] from hG 11 (hdep 11 (by kernel_rfl)))
      go_simp
      go_at_call 25
      (with_reducible refine (cPAdd a0 a1 _).mono ?_); rintro e w1 ⟨r, rfl, hr, hb⟩
      have hk := hK.out _ _ hr hb
      simp only [x0] at hk
      exact hk
    · exact step_load q10 0 hs (wants_on 9 rfl rfl (by kernel_rfl) (fun _ => rfl)) rfl rfl tyP (fun _ => E10.out) hm10.lt hm10 (noSto_apart (by kernel_rfl))
    · refine step_call hs (wants_on 9 rfl rfl (by kernel_rfl) (fun _ => rfl)) rfl fun L u W hJ hG hL hdep K hK => ?_
      have a0 := (show IsFs rP (u 14) [Cp.add P Q] from hG 14 (hdep 14 (by kernel_rfl)))
      have a1 := (show IsFs rP (u 15) [R] from hG 15 (hdep 15 (by kernel_rfl)))
      have x0 := (show u 10 = .func (.func 25) #[] #[] from hG 10 (hdep 10 (by kernel_rfl)))
      go_simp
      go_at_call 25
      (with_reducible refine (cPAdd a0 a1 _).mono ?_); rintro e w1 ⟨r, rfl, hr, hb⟩
      have hk := hK.out _ _ hr hb
      simp only [x0] at hk
      exact hk
    · exact step_pureO hs (wants_on 9 rfl rfl (by kernel_rfl) (fun _ => rfl)) rfl fun L u W hG hdep => ⟨_, run_move rfl, HC7.out⟩
    · exact step_load q8 0 hs (wants_on 9 rfl rfl (by kernel_rfl) (fun _ => rfl)) rfl rfl tyP (fun _ => E8.out) hm8.lt hm8 (noSto_apart (by kernel_rfl))
    · exact step_pureO hs (wants_on 9 rfl rfl (by kernel_rfl) (fun _ => rfl)) rfl fun L u W hG hdep => ⟨_, run_move rfl, HC7.out⟩
    · exact step_load q9 0 hs (wants_on 9 rfl rfl (by kernel_rfl) (fun _ => rfl)) rfl rfl tyP (fun _ => E9.out) hm9.lt hm9 (noSto_apart (by kernel_rfl))
    · exact step_load q10 0 hs (wants_on 9 rfl rfl (by kernel_rfl) (fun _ => rfl)) rfl rfl tyP (fun _ => E10.out) hm10.lt hm10 (noSto_apart (by kernel_rfl))
    · refine step_call hs (wants_on 9 rfl rfl (by kernel_rfl) (fun _ => rfl)) rfl fun L u W hJ hG hL hdep K hK => ?_
      have a0 := (show IsFs rP (u 20) [Q] from hG 20 (hdep 20 (by kernel_rfl)))
      have a1 := (show IsFs rP (u 21) [R] from hG 21 (hdep 21 (by kernel_rfl)))
      have x0 := (show u 19 = .func (.func 25) #[] #[] from hG 19 (hdep 19 (by kernel_rfl)))
      go_simp
      go_at_call 25
      (with_reducible refine (cPAdd a0 a1 _).mono ?_); rintro e w1 ⟨r, rfl, hr, hb⟩
      have hk := hK.out _ _ hr hb
      simp only [x0] at hk
      exact hk
    · refine step_call hs (wants_on 9 rfl rfl (by kernel_rfl) (fun _ => rfl)) rfl fun L u W hJ hG hL hdep K hK => ?_
      have a0 := (show IsFs rP (u 18) [P] from hG 18 (hdep 18 (by kernel_rfl)))
      have a1 := (show IsFs rP (u 22) [Cp.add Q R] from hG 22 (hdep 22 (by kernel_rfl)))
      have x0 := (show u 17 = .func (.func 25) #[] #[] from hG 17 (hdep 17 (by kernel_rfl)))
      go_simp
      go_at_call 25
      (with_reducible refine (cPAdd a0 a1 _).mono ?_); rintro e w1 ⟨r, rfl, hr, hb⟩
      have hk := hK.out _ _ hr hb
      simp only [x0] at hk
      exact hk
    · refine step_callO hs (wants_on 9 rfl rfl (by kernel_rfl) (fun _ => rfl)) rfl fun L u W hJ hG hL hdep K hK => ?_
      have a0 := (show IsFs rP (u 16) [Cp.add (Cp.add P Q) R] from hG 16 (hdep 16 (by kernel_rfl)))
      have a1 := (show IsFs rP (u 23) [Cp.add P (Cp.add Q R)] from hG 23 (hdep 23 (by kernel_rfl)))
      go_simp
      go_at_call 19
      (with_reducible refine (cPSame (b := true) (decide_eq_true (Cp.assoc P Q R)) a0 a1 _).mono ?_); rintro e w1 ⟨rfl, hb⟩
      have hk := hK.out _ _ rfl hb
      exact hk
    · exact step_pick true hs (wants_none rfl) rfl rfl (fun L u W hG hdep => (show u 9 = .bool true from hG 9 (hdep 9 (by kernel_rfl)))) (fun L u W hG hdep => (show u 24 = .bool true from hG 24 (hdep 24 (by kernel_rfl))))
    · exact step_pureO hs (wants_none rfl) rfl fun L u W hG hdep => ⟨_, run_move rfl, (show u 25 = .bool true from hG 25 (hdep 25 (by kernel_rfl)))⟩
    · exact step_pureO hs (wants_on 26 rfl rfl (by kernel_rfl) (fun _ => rfl)) rfl fun L u W hG hdep => ⟨_, run_move rfl, HC7.out⟩
    · exact step_load q8 0 hs (wants_on 26 rfl rfl (by kernel_rfl) (fun _ => rfl)) rfl rfl tyP (fun _ => E8.out) hm8.lt hm8 (noSto_apart (by kernel_rfl))
    · exact step_load q11 0 hs (wants_on 26 rfl rfl (by kernel_rfl) (fun _ => rfl)) rfl rfl tyP (fun _ => E11.out) hm11.lt hm11 (noSto_apart (by kernel_rfl))
    · refine step_call hs (wants_on 26 rfl rfl (by kernel_rfl) (fun _ => rfl)) rfl fun L u W hJ hG hL hdep K hK => ?_
      have a0 := (show IsFs rP (u 28) [P] from hG 28 (hdep 28 (by kernel_rfl)))
      have a1 := (show IsFs rP (u 29) [Cp.zero] from hG 29 (hdep 29 (by kernel_rfl)))
      have x0 := (show u 27 = .func (.func 25) #[] #[] from hG 27 (hdep 27 (by kernel_rfl)))
      go_simp
      go_at_call 25
      (with_reducible refine (cPAdd a0 a1 _).mono ?_); rintro e w1 ⟨r, rfl, hr, hb⟩
      have hk := hK.out _ _ hr hb
      simp only [x0] at hk
      exact hk
    · exact step_load q8 0 hs (wants_on 26 rfl rfl (by kernel_rfl) (fun _ => rfl)) rfl rfl tyP (fun _ => E8.out) hm8.lt hm8 (noSto_apart (by kernel_rfl))
    · refine step_callO hs (wants_on 26 rfl rfl (by kernel_rfl) (fun _ => rfl)) rfl fun L u W hJ hG hL hdep K hK => ?_
      have a0 := (show IsFs rP (u 30) [Cp.add P Cp.zero] from hG 30 (hdep 30 (by kernel_rfl)))
      have a1 := (show IsFs rP (u 31) [P] from hG 31 (hdep 31 (by kernel_rfl)))
      go_simp
      go_at_call 19
      (with_reducible refine (cPSame (b := true) (decide_eq_true (Cp.add_zero P)) a0 a1 _).mono ?_); rintro e w1 ⟨rfl, hb⟩
      have hk := hK.out _ _ rfl hb
      exact hk
    · exact step_pick true hs (wants_none rfl) rfl rfl (fun L u W hG hdep => (show u 26 = .bool true from hG 26 (hdep 26 (by kernel_rfl)))) (fun L u W hG hdep => (show u 32 = .bool true from hG 32 (hdep 32 (by kernel_rfl))))
    · exact step_pureO hs (wants_none rfl) rfl fun L u W hG hdep => ⟨_, run_move rfl, (show u 33 = .bool true from hG 33 (hdep 33 (by kernel_rfl)))⟩
    · exact step_pureO hs (wants_on 34 rfl rfl (by kernel_rfl) (fun _ => rfl)) rfl fun L u W hG hdep => ⟨_, run_move rfl, HC7.out⟩
    · exact step_load q8 0 hs (wants_on 34 rfl rfl (by kernel_rfl) (fun _ => rfl)) rfl rfl tyP (fun _ => E8.out) hm8.lt hm8 (noSto_apart (by kernel_rfl))
    · exact step_load q8 0 hs (wants_on 34 rfl rfl (by kernel_rfl) (fun _ => rfl)) rfl rfl tyP (fun _ => E8.out) hm8.lt hm8 (noSto_apart (by kernel_rfl))
    · refine step_call hs (wants_on 34 rfl rfl (by kernel_rfl) (fun _ => rfl)) rfl fun L u W hJ hG hL hdep K hK => ?_
      have a0 := (show IsFs rP (u 37) [P] from hG 37 (hdep 37 (by kernel_rfl)))
      go_simp
      go_at_call 21
      (with_reducible refine (cPNeg a0 _).mono ?_); rintro e w1 ⟨r, rfl, hr, hb⟩
      have hk := hK.out _ _ hr hb
      exact hk
    · refine step_call hs (wants_on 34 rfl rfl (by kernel_rfl) (fun _ => rfl)) rfl fun L u W hJ hG hL hdep K hK => ?_
      have a0 := (show IsFs rP (u 36) [P] from hG 36 (hdep 36 (by kernel_rfl)))
      have a1 := (show IsFs rP (u 38) [Cp.neg P] from hG 38 (hdep 38 (by kernel_rfl)))
      have x0 := (show u 35 = .func (.func 25) #[] #[] from hG 35 (hdep 35 (by kernel_rfl)))
      go_simp
      go_at_call 25
      (with_reducible refine (cPAdd a0 a1 _).mono ?_); rintro e w1 ⟨r, rfl, hr, hb⟩
      have hk := hK.out _ _ hr hb
      simp only [x0] at hk
      exact hk
    · exact step_load q11 0 hs (wants_on 34 rfl rfl (by kernel_rfl) (fun _ => rfl)) rfl rfl tyP (fun _ => E11.out) hm11.lt hm11 (noSto_apart (by kernel_rfl))
    · refine step_callO hs (wants_on 34 rfl rfl (by kernel_rfl) (fun _ => rfl)) rfl fun L u W hJ hG hL hdep K hK => ?_
      have a0 := (show IsFs rP (u 39) [Cp.add P (Cp.neg P)] from hG 39 (hdep 39 (by kernel_rfl)))
      have a1 := (show IsFs rP (u 40) [Cp.zero] from hG 40 (hdep 40 (by kernel_rfl)))
      go_simp
      go_at_call 19
      (with_reducible refine (cPSame (b := true) (decide_eq_true (Cp.add_neg P)) a0 a1 _).mono ?_); rintro e w1 ⟨rfl, hb⟩
      have hk := hK.out _ _ rfl hb
      exact hk
    · exact step_pick true hs (wants_none rfl) rfl rfl (fun L u W hG hdep => (show u 34 = .bool true from hG 34 (hdep 34 (by kernel_rfl)))) (fun L u W hG hdep => (show u 41 = .bool true from hG 41 (hdep 41 (by kernel_rfl))))
    · exact step_pureO hs (wants_none rfl) rfl fun L u W hG hdep => ⟨_, run_move rfl, (show u 42 = .bool true from hG 42 (hdep 42 (by kernel_rfl)))⟩
    · exact step_pureO hs (wants_on 43 rfl rfl (by kernel_rfl) (fun _ => rfl)) rfl fun L u W hG hdep => ⟨_, run_move rfl, HC7.out⟩
    · exact step_load q8 0 hs (wants_on 43 rfl rfl (by kernel_rfl) (fun _ => rfl)) rfl rfl tyP (fun _ => E8.out) hm8.lt hm8 (noSto_apart (by kernel_rfl))
    · exact step_load q9 0 hs (wants_on 43 rfl rfl (by kernel_rfl) (fun _ => rfl)) rfl rfl tyP (fun _ => E9.out) hm9.lt hm9 (noSto_apart (by kernel_rfl))
    · refine step_call hs (wants_on 43 rfl rfl (by kernel_rfl) (fun _ => rfl)) rfl fun L u W hJ hG hL hdep K hK => ?_
      have a0 := (show IsFs rP (u 45) [P] from hG 45 (hdep 45 (by kernel_rfl)))
      have a1 := (show IsFs rP (u 46) [Q] from hG 46 (hdep 46 (by kernel_rfl)))
      have x0 := (show u 44 = .func (.func 25) #[] #[] from hG 44 (hdep 44 (by kernel_rfl)))
      go_simp
      go_at_call 25
      (with_reducible refine (cPAdd a0 a1 _).mono ?_); rintro e w1 ⟨r, rfl, hr, hb⟩
      have hk := hK.out _ _ hr hb
      simp only [x0] at hk
      exact hk
    · refine step_call hs (wants_on 43 rfl rfl (by kernel_rfl) (fun _ => rfl)) rfl fun L u W hJ hG hL hdep K hK => ?_
      go_simp
      go_at_call 16
      (with_reducible refine (cBase _).mono ?_); rintro e w1 ⟨r, rfl, hr, hb⟩
      have hk := hK.out _ _ hr hb
      exact hk
    · exact step_pureO hs (wants_on 43 rfl rfl (by kernel_rfl) (fun _ => rfl)) rfl fun L u W hG hdep => ⟨_, run_move rfl, rfl⟩
    · refine step_call hs (wants_on 43 rfl rfl (by kernel_rfl) (fun _ => rfl)) rfl fun L u W hJ hG hL hdep K hK => ?_
      have x0 := (show u 49 = .slice a na capa from hG 49 (hdep 49 (by kernel_rfl)))
      have hRB0 := (ha.below hbel).below (hJ.all rfl)
      go_simp
      go_at_call 18
      (with_reducible refine (cWide HSa.out hRB0).mono ?_); rintro e w1 ⟨r, rfl, hr, hb⟩
      have hk := hK.out _ _ hr hb
      simp only [x0] at hk
      exact hk
    · exact step_pureO hs (wants_on 43 rfl rfl (by kernel_rfl) (fun _ => rfl)) rfl fun L u W hG hdep => ⟨_, run_move rfl, rfl⟩
    · refine step_call hs (wants_on 43 rfl rfl (by kernel_rfl) (fun _ => rfl)) rfl fun L u W hJ hG hL hdep K hK => ?_
      have x0 := (show u 51 = .slice b nb capb from hG 51 (hdep 51 (by kernel_rfl)))
      have hRB0 := (hb.below hbel).below (hJ.all rfl)
      go_simp
      go_at_call 18
      (with_reducible refine (cWide HSb.out hRB0).mono ?_); rintro e w1 ⟨r, rfl, hr, hb⟩
      have hk := hK.out _ _ hr hb
      simp only [x0] at hk
      exact hk
    · refine step_call hs (wants_on 43 rfl rfl (by kernel_rfl) (fun _ => rfl)) rfl fun L u W hJ hG hL hdep K hK => ?_
      have a0 := (show IsFs rS (u 50) [sa] from hG 50 (hdep 50 (by kernel_rfl)))
      have a1 := (show IsFs rS (u 52) [sb] from hG 52 (hdep 52 (by kernel_rfl)))
      go_simp
      go_at_call 30
      (with_reducible refine (cScAdd a0 a1 _).mono ?_); rintro e w1 ⟨r, rfl, hr, hb⟩
      have hk := hK.out _ _ hr hb
      exact hk
    · refine step_call hs (wants_on 43 rfl rfl (by kernel_rfl) (fun _ => rfl)) rfl fun L u W hJ hG hL hdep K hK => ?_
      have a0 := (show IsFs rP (u 48) [base] from hG 48 (hdep 48 (by kernel_rfl)))
      have a1 := (show IsFs rS (u 53) [dA sa sb] from hG 53 (hdep 53 (by kernel_rfl)))
      go_simp
      go_at_call 17
      (with_reducible refine (cMult rfl a0 a1 _).mono ?_); rintro e w1 ⟨r, rfl, hr, hb⟩
      have hk := hK.out _ _ hr hb
      exact hk
    · refine step_callO hs (wants_on 43 rfl rfl (by kernel_rfl) (fun _ => rfl)) rfl fun L u W hJ hG hL hdep K hK => ?_
      have a0 := (show IsFs rP (u 47) [Cp.add P Q] from hG 47 (hdep 47 (by kernel_rfl)))
      have a1 := (show IsFs rP (u 54) [Cp.mul (dA sa sb).val base] from hG 54 (hdep 54 (by kernel_rfl)))
      go_simp
      go_at_call 19
      (with_reducible refine (cPSame (b := true) (decide_eq_true (by rw [← HP.out, ← HQ.out]; exact mulb_sum)) a0 a1 _).mono ?_); rintro e w1 ⟨rfl, hb⟩
      have hk := hK.out _ _ rfl hb
      exact hk
    · exact step_pick true hs (wants_none rfl) rfl rfl (fun L u W hG hdep => (show u 43 = .bool true from hG 43 (hdep 43 (by kernel_rfl)))) (fun L u W hG hdep => (show u 55 = .bool true from hG 55 (hdep 55 (by kernel_rfl))))
    · exact step_pureO hs (wants_none rfl) rfl fun L u W hG hdep => ⟨_, run_move rfl, (show u 56 = .bool true from hG 56 (hdep 56 (by kernel_rfl)))⟩
    · exact step_load q8 0 hs (wants_on 57 rfl rfl (by kernel_rfl) (fun _ => rfl)) rfl rfl tyP (fun _ => E8.out) hm8.lt hm8 (noSto_apart (by kernel_rfl))
    · refine step_call hs (wants_on 57 rfl rfl (by kernel_rfl) (fun _ => rfl)) rfl fun L u W hJ hG hL hdep K hK => ?_
      have a0 := (show IsFs rP (u 58) [P] from hG 58 (hdep 58 (by kernel_rfl)))
      go_simp
      go_at_call 29
      (with_reducible refine (cTimes rfl a0 _).mono ?_); rintro e w1 ⟨r, rfl, hr, hb⟩
      have hk := hK.out _ _ hr hb
      exact hk
    · exact step_pureO hs (wants_on 57 rfl rfl (by kernel_rfl) (fun _ => rfl)) rfl fun L u W hG hdep => ⟨_, run_move rfl, HC7.out⟩
    · exact step_load q8 0 hs (wants_on 57 rfl rfl (by kernel_rfl) (fun _ => rfl)) rfl rfl tyP (fun _ => E8.out) hm8.lt hm8 (noSto_apart (by kernel_rfl))
    · exact step_pureO hs (wants_on 57 rfl rfl (by kernel_rfl) (fun _ => rfl)) rfl fun L u W hG hdep => ⟨_, run_move rfl, HC7.out⟩
    · exact step_load q8 0 hs (wants_on 57 rfl rfl (by kernel_rfl) (fun _ => rfl)) rfl rfl tyP (fun _ => E8.out) hm8.lt hm8 (noSto_apart (by kernel_rfl))
    · exact step_load q8 0 hs (wants_on 57 rfl rfl (by kernel_rfl) (fun _ => rfl)) rfl rfl tyP (fun _ => E8.out) hm8.lt hm8 (noSto_apart (by kernel_rfl))
    · refine step_call hs (wants_on 57 rfl rfl (by kernel_rfl) (fun _ => rfl)) rfl fun L u W hJ hG hL hdep K hK => ?_
      have a0 := (show IsFs rP (u 63) [P] from hG 63 (hdep 63 (by kernel_rfl)))
      have a1 := (show IsFs rP (u 64) [P] from hG 64 (hdep 64 (by kernel_rfl)))
      have x0 := (show u 62 = .func (.func 25) #[] #[] from hG 62 (hdep 62 (by kernel_rfl)))
      go_simp
      go_at_call 25
      (with_reducible refine (cPAdd a0 a1 _).mono ?_); rintro e w1 ⟨r, rfl, hr, hb⟩
      have hk := hK.out _ _ hr hb
      simp only [x0] at hk
      exact hk
    · refine step_call hs (wants_on 57 rfl rfl (by kernel_rfl) (fun _ => rfl)) rfl fun L u W hJ hG hL hdep K hK => ?_
      have a0 := (show IsFs rP (u 61) [P] from hG 61 (hdep 61 (by kernel_rfl)))
      have a1 := (show IsFs rP (u 65) [Cp.add P P] from hG 65 (hdep 65 (by kernel_rfl)))
      have x0 := (show u 60 = .func (.func 25) #[] #[] from hG 60 (hdep 60 (by kernel_rfl)))
      go_simp
      go_at_call 25
      (with_reducible refine (cPAdd a0 a1 _).mono ?_); rintro e w1 ⟨r, rfl, hr, hb⟩
      have hk := hK.out _ _ hr hb
      simp only [x0] at hk
      exact hk
    · refine step_callO hs (wants_on 57 rfl rfl (by kernel_rfl) (fun _ => rfl)) rfl fun L u W hJ hG hL hdep K hK => ?_
      have a0 := (show IsFs rP (u 59) [Cp.mul 3 P] from hG 59 (hdep 59 (by kernel_rfl)))
      have a1 := (show IsFs rP (u 66) [Cp.add P (Cp.add P P)] from hG 66 (hdep 66 (by kernel_rfl)))
      go_simp
      go_at_call 19
      (with_reducible refine (cPSame (b := true) (decide_eq_true (mul_three P)) a0 a1 _).mono ?_); rintro e w1 ⟨rfl, hb⟩
      have hk := hK.out _ _ rfl hb
      exact hk
    · exact step_pick true hs (wants_none rfl) rfl rfl (fun L u W hG hdep => (show u 57 = .bool true from hG 57 (hdep 57 (by kernel_rfl)))) (fun L u W hG hdep => (show u 67 = .bool true from hG 67 (hdep 67 (by kernel_rfl))))
    · exact step_pureO hs (wants_none rfl) rfl fun L u W hG hdep => ⟨_, run_move rfl, (show u 68 = .bool true from hG 68 (hdep 68 (by kernel_rfl)))⟩
    · exact step_load q8 0 hs (wants_on 69 rfl rfl (by kernel_rfl) (fun _ => rfl)) rfl rfl tyP (fun _ => E8.out) hm8.lt hm8 (noSto_apart (by kernel_rfl))
    · refine step_call hs (wants_on 69 rfl rfl (by kernel_rfl) (fun _ => rfl)) rfl fun L u W hJ hG hL hdep K hK => ?_
      have a0 := (show IsFs rP (u 70) [P] from hG 70 (hdep 70 (by kernel_rfl)))
      go_simp
      go_at_call 29
      (with_reducible refine (cTimes rfl a0 _).mono ?_); rintro e w1 ⟨r, rfl, hr, hb⟩
      have hk := hK.out _ _ hr hb
      exact hk
    · exact step_load q11 0 hs (wants_on 69 rfl rfl (by kernel_rfl) (fun _ => rfl)) rfl rfl tyP (fun _ => E11.out) hm11.lt hm11 (noSto_apart (by kernel_rfl))
    · refine step_callO hs (wants_on 69 rfl rfl (by kernel_rfl) (fun _ => rfl)) rfl fun L u W hJ hG hL hdep K hK => ?_
      have a0 := (show IsFs rP (u 71) [Cp.zero] from hG 71 (hdep 71 (by kernel_rfl)))
      have a1 := (show IsFs rP (u 72) [Cp.zero] from hG 72 (hdep 72 (by kernel_rfl)))
      go_simp
      go_at_call 19
      (with_reducible refine (cPSame (b := true) (decide_eq_true rfl) a0 a1 _).mono ?_); rintro e w1 ⟨rfl, hb⟩
      have hk := hK.out _ _ rfl hb
      exact hk
    · exact step_pick true hs (wants_none rfl) rfl rfl (fun L u W hG hdep => (show u 69 = .bool true from hG 69 (hdep 69 (by kernel_rfl)))) (fun L u W hG hdep => (show u 73 = .bool true from hG 73 (hdep 73 (by kernel_rfl))))
    · exact step_pureO hs (wants_none rfl) rfl fun L u W hG hdep => ⟨_, run_move rfl, (show u 74 = .bool true from hG 74 (hdep 74 (by kernel_rfl)))⟩
    · exact step_load q8 0 hs (wants_on 75 rfl rfl (by kernel_rfl) (fun _ => rfl)) rfl rfl tyP (fun _ => E8.out) hm8.lt hm8 (noSto_apart (by kernel_rfl))
    · refine step_call hs (wants_on 75 rfl rfl (by kernel_rfl) (fun _ => rfl)) rfl fun L u W hJ hG hL hdep K hK => ?_
      have a0 := (show IsFs rP (u 76) [P] from hG 76 (hdep 76 (by kernel_rfl)))
      go_simp
      go_at_call 29
      (with_reducible refine (cTimes rfl a0 _).mono ?_); rintro e w1 ⟨r, rfl, hr, hb⟩
      have hk := hK.out _ _ hr hb
      exact hk
    · exact step_load q11 0 hs (wants_on 75 rfl rfl (by kernel_rfl) (fun _ => rfl)) rfl rfl tyP (fun _ => E11.out) hm11.lt hm11 (noSto_apart (by kernel_rfl))
    · refine step_callO hs (wants_on 75 rfl rfl (by kernel_rfl) (fun _ => rfl)) rfl fun L u W hJ hG hL hdep K hK => ?_
      have a0 := (show IsFs rP (u 77) [Cp.zero] from hG 77 (hdep 77 (by kernel_rfl)))
      have a1 := (show IsFs rP (u 78) [Cp.zero] from hG 78 (hdep 78 (by kernel_rfl)))
      go_simp
      go_at_call 19
      (with_reducible refine (cPSame (b := true) (decide_eq_true rfl) a0 a1 _).mono ?_); rintro e w1 ⟨rfl, hb⟩
      have hk := hK.out _ _ rfl hb
      exact hk
    · exact step_pick true hs (wants_none rfl) rfl rfl (fun L u W hG hdep => (show u 75 = .bool true from hG 75 (hdep 75 (by kernel_rfl)))) (fun L u W hG hdep => (show u 79 = .bool true from hG 79 (hdep 79 (by kernel_rfl))))
    · exact step_pureO hs (wants_none rfl) rfl fun L u W hG hdep => ⟨_, run_move rfl, (show u 80 = .bool true from hG 80 (hdep 80 (by kernel_rfl)))⟩
    · refine step_callO hs (wants_on 81 rfl rfl (by kernel_rfl) (fun _ => rfl)) rfl fun L u W hJ hG hL hdep K hK => ?_
      go_simp
      go_at_call 9
      (with_reducible refine (law8awake_any _).mono ?_); rintro e w1 ⟨rfl, hb⟩
      have hk := hK.out _ _ rfl hb
      exact hk
    · exact step_pick true hs (wants_none rfl) rfl rfl (fun L u W hG hdep => (show u 81 = .bool true from hG 81 (hdep 81 (by kernel_rfl)))) (fun L u W hG hdep => (show u 82 = .bool true from hG 82 (hdep 82 (by kernel_rfl))))
    · exact step_pureO hs (wants_none rfl) rfl fun L u W hG hdep => ⟨_, run_assign rfl, (show u 83 = .bool true from hG 83 (hdep 83 (by kernel_rfl)))⟩
  intro L7b u7b W7b hall hJ hG
  have hb := hJ.all rfl
  have hbel := Below.call hbel hb
  have hm8 := hm8.later hb
  have hm9 := hm9.later hb
  have hm10 := hm10.later hb
  have hm11 := hm11.later hb
  have ht8 := there_later ht8 hb
  have ht9 := there_later ht9 hb
  have ht10 := there_later ht10 hb
  have ht11 := there_later ht11 hb
  have HC46 := Lib.hid (show u7b 8 = .bool true from hG 8 (by simp))
  have HC47 := Lib.hid (show u7b 9 = .bool true from hG 9 (by simp))
  have HC62 := Lib.hid (show u7b 24 = .bool true from hG 24 (by simp))
  have HC63 := Lib.hid (show u7b 25 = .bool true from hG 25 (by simp))
  have HC64 := Lib.hid (show u7b 26 = .bool true from hG 26 (by simp))
  have HC70 := Lib.hid (show u7b 32 = .bool true from hG 32 (by simp))
  have HC71 := Lib.hid (show u7b 33 = .bool true from hG 33 (by simp))
  have HC72 := Lib.hid (show u7b 34 = .bool true from hG 34 (by simp))
  have HC79 := Lib.hid (show u7b 41 = .bool true from hG 41 (by simp))
  have HC80 := Lib.hid (show u7b 42 = .bool true from hG 42 (by simp))
  have HC81 := Lib.hid (show u7b 43 = .bool true from hG 43 (by simp))
  have HC93 := Lib.hid (show u7b 55 = .bool true from hG 55 (by simp))
  have HC94 := Lib.hid (show u7b 56 = .bool true from hG 56 (by simp))
  have HC95 := Lib.hid (show u7b 57 = .bool true from hG 57 (by simp))
  have HC105 := Lib.hid (show u7b 67 = .bool true from hG 67 (by simp))
  have HC106 := Lib.hid (show u7b 68 = .bool true from hG 68 (by simp))
  have HC107 := Lib.hid (show u7b 69 = .bool true from hG 69 (by simp))
  have HC111 := Lib.hid (show u7b 73 = .bool true from hG 73 (by simp))
  have HC112 := Lib.hid (show u7b 74 = .bool true from hG 74 (by simp))
  have HC113 := Lib.hid (show u7b 75 = .bool true from hG 75 (by simp))
  have HC117 := Lib.hid (show u7b 79 = .bool true from hG 79 (by simp))
  have HC118 := Lib.hid (show u7b 80 = .bool true from hG 80 (by simp))
  have HC119 := Lib.hid (show u7b 81 = .bool true from hG 81 (by simp))
  have HC120 := Lib.hid (show u7b 82 = .bool true from hG 82 (by simp))
  have HC121 := Lib.hid (show u7b 83 = .bool true from hG 83 (by simp))
  have HC6 := Lib.hid (show u7b 84 = .bool true from hG 84 (by simp))
  have hbel0 := hbel
  clear hJ hG hall hb
  rw [HC6.out]
  go_wp2
  go_ret
  exact ⟨rfl, hbel⟩
set_option maxRecDepth 100000 in
theorem pointLaws_any {a : Option Addr} {na capa : Nat} {la : List UInt8} {b : Option Addr} {nb capb : Nat} {lb : List UInt8} {c : Option Addr} {nc capc : Nat} {lc : List UInt8} (w : World) (ha : RdB w a na capa la) (hb : RdB w b nb capb lb) (hc : RdB w c nc capc lc) :
    Calls Try.prog 6 #[.slice a na capa, .slice b nb capb, .slice c nc capc] w fun e w' => e = .returned (.bool true) ∧ Below w.heap.size w w' := by
  by_cases t0 : (100 : Int) < (na : Int)
  · have e0 : decide ((100 : Int) < (na : Int)) = true := decide_eq_true t0
    clear t0
    go_enter Try.func6, Try.ntmps6
    go_wp2_with (go_at_call 9; (with_reducible refine (law8awake_any _).mono ?_); rintro e w2 ⟨rfl, h2⟩)
    go_ret
    exact ⟨rfl, h2⟩
  by_cases t1 : (100 : Int) < (nb : Int)
  · have e0 : decide ((100 : Int) < (na : Int)) = false := decide_eq_false t0
    have e1 : decide ((100 : Int) < (nb : Int)) = true := decide_eq_true t1
    clear t0 t1
    go_enter Try.func6, Try.ntmps6
    go_wp2_with (go_at_call 9; (with_reducible refine (law8awake_any _).mono ?_); rintro e w2 ⟨rfl, h2⟩)
    go_ret
    exact ⟨rfl, h2⟩
  by_cases t2 : (100 : Int) < (nc : Int)
  · have e0 : decide ((100 : Int) < (na : Int)) = false := decide_eq_false t0
    have e1 : decide ((100 : Int) < (nb : Int)) = false := decide_eq_false t1
    have e2 : decide ((100 : Int) < (nc : Int)) = true := decide_eq_true t2
    clear t0 t1 t2
    go_enter Try.func6, Try.ntmps6
    go_wp2_with (go_at_call 9; (with_reducible refine (law8awake_any _).mono ?_); rintro e w2 ⟨rfl, h2⟩)
    go_ret
    exact ⟨rfl, h2⟩
  exact pointLaws_few w ha hb hc t0 t1 t2
namespace pointLawsDone
theorem own : ownKnob Try.prog.godebug = none := by kernel_rfl
theorem laidOut : laidOutB Try.prog = true := by kernel_rfl
set_option maxRecDepth 100000 in
theorem lifted (os : Os) (started : os.Started) (H : Type) (enc : TypeId × Value → H) :
    ReturnsInHanded {} Try.checked os 6 .any (Rows.pointLawsSpec.pre6 enc Try.prog Try.f6 Rows.pointLawsRow.domain false) (Rows.pointLawsSpec.post enc Try.prog Try.f6 false true false false) := by
  refine returnsInHanded_of_change (C := Try.checked) own started (by kernel_rfl) Try.func6
    (ChangeSpec.witness6 (enc := enc) (C := Try.checked) false ⟨#[], #[.slice none 0 0, .slice none 0 0, .slice none 0 0], []⟩ 8 (by kernel_rfl) (by kernel_rfl) (by kernel_rfl) (by kernel_rfl)) ?_
  intro W base args ds gs before hval0 hW hcnd _
  have hval : ∀ (j : Nat) t v, Try.f6.params[j]? = some t → args[j]? = some v → Value.okWide Try.prog W .any base t v := hval0
  have hW' := hW
  obtain ⟨p, q, hA0, hV, rfl, hfz, hnd⟩ := hW
  have hA : DataW.TrodAll enc Try.prog W 0 (fun _ => true) true Try.f6.params.toList args.toList ds p := hA0
  rw [Try.params6] at hA hval
  obtain ⟨v0, vs0, d0, ds0, p0, q0, hargs, rfl, rfl, h0, r0⟩ := trodAll_cons hA
  obtain ⟨v1, vs1, d1, ds1, p1, q1, rfl, rfl, rfl, h1, r1⟩ := trodAll_cons r0
  obtain ⟨v2, vs2, d2, ds2, p2, q2, rfl, rfl, rfl, h2, r2⟩ := trodAll_cons r1
  obtain ⟨rfl, rfl, rfl⟩ := trodAll_nil r2
  obtain rfl : args = #[v0, v1, v2] := by cases args; simp_all
  obtain ⟨rfl, rfl⟩ := trodVars_none hV
  obtain ⟨a0, len0, cap0, rfl⟩ := okWide_slice Try.underlying22 (hval 0 22 v0 rfl rfl)
  have k0 := h0
  have lt0 : ∀ x ∈ p0, x.block < W.heap.size := by obtain ⟨m, hm⟩ := k0; exact DataW.trod_lt m _ _ _ hm
  obtain ⟨l0, w0⟩ : ∃ l, RdB W a0 len0 cap0 l := by
    obtain ⟨fuel, hf⟩ := h0
    rcases open_ints Try.underlying22 Try.underlying5 (by kernel_rfl) hf with ⟨hcs, _⟩ | ⟨x, l, c, zs, hcs, _, hl, hm, hz, _, hcell, hwz⟩
    · simp [Value.cells] at hcs
      obtain ⟨rfl, rfl, rfl⟩ := hcs
      exact ⟨[], RdB.nil _⟩
    · simp [Value.cells] at hcs
      obtain ⟨rfl, rfl, rfl⟩ := hcs
      exact RdB.of_ints (.inr ⟨_, rfl, hl, hm, by simpa using hz, hcell, hwz⟩)
  obtain ⟨a1, len1, cap1, rfl⟩ := okWide_slice Try.underlying22 (hval 1 22 v1 rfl rfl)
  have k1 := h1
  have lt1 : ∀ x ∈ p1, x.block < W.heap.size := by obtain ⟨m, hm⟩ := k1; exact DataW.trod_lt m _ _ _ hm
  obtain ⟨l1, w1⟩ : ∃ l, RdB W a1 len1 cap1 l := by
    obtain ⟨fuel, hf⟩ := h1
    rcases open_ints Try.underlying22 Try.underlying5 (by kernel_rfl) hf with ⟨hcs, _⟩ | ⟨x, l, c, zs, hcs, _, hl, hm, hz, _, hcell, hwz⟩
    · simp [Value.cells] at hcs
      obtain ⟨rfl, rfl, rfl⟩ := hcs
      exact ⟨[], RdB.nil _⟩
    · simp [Value.cells] at hcs
      obtain ⟨rfl, rfl, rfl⟩ := hcs
      exact RdB.of_ints (.inr ⟨_, rfl, hl, hm, by simpa using hz, hcell, hwz⟩)
  obtain ⟨a2, len2, cap2, rfl⟩ := okWide_slice Try.underlying22 (hval 2 22 v2 rfl rfl)
  have k2 := h2
  have lt2 : ∀ x ∈ p2, x.block < W.heap.size := by obtain ⟨m, hm⟩ := k2; exact DataW.trod_lt m _ _ _ hm
  obtain ⟨l2, w2⟩ : ∃ l, RdB W a2 len2 cap2 l := by
    obtain ⟨fuel, hf⟩ := h2
    rcases open_ints Try.underlying22 Try.underlying5 (by kernel_rfl) hf with ⟨hcs, _⟩ | ⟨x, l, c, zs, hcs, _, hl, hm, hz, _, hcell, hwz⟩
    · simp [Value.cells] at hcs
      obtain ⟨rfl, rfl, rfl⟩ := hcs
      exact ⟨[], RdB.nil _⟩
    · simp [Value.cells] at hcs
      obtain ⟨rfl, rfl, rfl⟩ := hcs
      exact RdB.of_ints (.inr ⟨_, rfl, hl, hm, by simpa using hz, hcell, hwz⟩)
  clear hA0 hval0
  refine (pointLaws_any W w0 w1 w2).mono fun e W' ⟨he, bel⟩ => ?_
  subst he
  exact ⟨_, rfl, _, _, _, [], _, [], hW', trodAll_mk1 (shut_bool Try.underlying4 _), (trodAll_cons_mk (Below.trod laidOut (by kernel_rfl) (of_decide_eq_true (by kernel_rfl)) k0 bel lt0) (trodAll_cons_mk (Below.trod laidOut (by kernel_rfl) (of_decide_eq_true (by kernel_rfl)) k1 bel lt1) (trodAll_cons_mk (Below.trod laidOut (by kernel_rfl) (of_decide_eq_true (by kernel_rfl)) k2 bel lt2) trodAll_mk0))), rfl, bel.frame _, fun h => by cases h⟩
theorem over : Rows.pointLawsRow.holds Try.pinned (OpenSpec.ofChange Rows.pointLawsSpec) :=
  OpenClaim.holds_of_wide 6 Try.f6 rfl rfl rfl rfl rfl rfl rfl ⟨rfl, rfl, rfl, rfl, rfl⟩ rfl rfl rfl rfl rfl (by kernel_rfl) Try.func6 (by kernel_rfl)
    (of_decide_eq_true (by kernel_rfl)) (by unfold Func.isWrapper; first | (rw [if_pos (by decide +kernel)]; kernel_rfl) | (rw [if_neg (by decide +kernel)]; exact ⟨rfl, rfl⟩))
    (fun os started H enc _ => lifted os started H enc)
theorem proved : Rows.PointLawsSaid := over
#print axioms proved
end pointLawsDone

end Go.Proofs.Ytjchdhpijopikaa
