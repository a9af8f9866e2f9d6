/- Of chapter 8, PointTimes: for every input the law returns true, and each argument reads behind the call as it read before. No condition. -/
import Derived.Test.YtjchdhpijopikaaZPointTimesD
import Derived.ProofKit
import Derived.ShutString
import Derived.ChangeOld
namespace Go.Proofs.Ytjchdhpijopikaa
open Go Go.ChangeShapes Go.WideShapes Go.ChangeAt Go.RowKit
open Go.ChangeMaps (open_string shut_string)

set_option maxRecDepth 100000 in
set_option maxHeartbeats 8000000 in
theorem pointTimes_few {a : Option Addr} {na capa : Nat} {la : List UInt8} {b : Option Addr} {nb capb : Nat} {lb : List UInt8} {j : Int} {k : Int} (w : World) (ha : RdB w a na capa la) (hb : RdB w b nb capb lb) (t0 : ¬ (100 : Int) < (na : Int)) (t1 : ¬ (100 : Int) < (nb : Int)) (t2 : ¬ (j : Int) < 0) (t3 : ¬ (k : Int) < 0) (t4 : ¬ (1000 : Int) < (j : Int)) (t5 : ¬ (1000 : Int) < (k : Int)) :
    Calls Try.prog 8 #[.slice a na capa, .slice b nb capb, .int .i64 j, .int .i64 k] w fun e w' => e = .returned (.bool true) ∧ Below w.heap.size w w' := by
  have d0 : decide ((100 : Int) < (na : Int)) = false := decide_eq_false t0
  have d1 : decide ((100 : Int) < (nb : Int)) = false := decide_eq_false t1
  have d2 : decide ((j : Int) < 0) = false := decide_eq_false t2
  have d3 : decide ((k : Int) < 0) = false := decide_eq_false t3
  have d4 : decide ((1000 : Int) < (j : Int)) = false := decide_eq_false t4
  have d5 : decide ((1000 : Int) < (k : Int)) = false := decide_eq_false t5
  obtain ⟨sa, hsa⟩ : ∃ s, wS la = s := ⟨_, rfl⟩; have HSa := Lib.hid hsa; clear hsa
  obtain ⟨sb, hsb⟩ : ∃ s, wS lb = s := ⟨_, rfl⟩; have HSb := Lib.hid hsb; clear hsb
  obtain ⟨P, hP⟩ : ∃ P, Cp.mul sa.val base = P := ⟨_, rfl⟩; have HP := Lib.hid hP; clear hP
  obtain ⟨jn, rfl⟩ : ∃ jn : Nat, j = jn := ⟨j.toNat, by omega⟩
  obtain ⟨kn, rfl⟩ : ∃ kn : Nat, k = kn := ⟨k.toNat, by omega⟩
  have HJ : Hid (jn ≤ 1000) := Lib.hid (by omega); have HK : Hid (kn ≤ 1000) := Lib.hid (by omega)
  obtain ⟨mn, hmn⟩ : ∃ m, m = jn + kn := ⟨_, rfl⟩
  have HJK : Hid (IntKind.i64.wrap ((jn : Int) + (kn : Int)) = (mn : Int)) := Lib.hid (by have := HJ.out; have := HK.out; rw [IntKind.wrap_i64]; omega)
  have HMN := Lib.hid hmn; clear hmn
  clear t0 t1 t2 t3 t4 t5
  go_enter Try.func8, Try.ntmps8
  have hbel : Below w.heap.size w w := Below.refl _ _
  have hbel0 := hbel
  go_upto_region 0 with fail
  refine wp_region_turn (fun u => (.slice a na capa :: .slice b nb capb :: .int .i64 (jn : Nat) :: .int .i64 (kn : Nat) :: undef :: undef :: undef :: undef :: u 0 :: undef :: undef :: undef :: undef :: undef :: undef :: undef :: undef :: undef :: undef :: undef :: undef :: undef :: undef :: undef :: undef :: undef :: undef :: undef :: undef :: undef :: undef :: undef :: undef :: undef :: undef :: undef :: undef :: undef :: undef :: undef :: undef :: undef :: undef :: undef :: undef :: undef :: undef :: undef :: undef :: undef :: undef :: undef :: undef :: undef :: undef :: undef :: undef :: undef :: undef :: undef :: undef :: undef :: undef :: undef :: undef :: undef :: undef :: undef :: undef :: undef :: undef :: undef :: undef :: undef :: undef :: undef :: undef :: undef :: undef :: undef :: undef :: undef :: undef :: undef :: undef :: undef :: undef :: undef :: undef :: undef :: undef :: []).toArray) (Holds [.oth (fun v => v = .bool false)] w) (Keep [.oth (fun v => v = .bool false)] w) (fun _ => undef) ?_ (by rfl) Keep.start (holds_soft (by kernel_rfl)) ?_ ?_
  · intro u i v h
    rcases i with _ | i
    all_goals first | (simp [Act.put, putV]; done) | (exfalso; simp at h; omega)
  · intro hs
    refine ⟨?_, trivial⟩
    · exact step_pureO hs (wants_none rfl) rfl fun L u W hG hdep => ⟨_, run_assign rfl, rfl⟩
  intro L0 u0 W0 hall hJ hG
  have hb := hJ.all rfl
  have hbel := Below.call hbel hb
  have HC8 := Lib.hid (show u0 0 = .bool false from hG 0 (by simp))
  have hbel0 := hbel
  clear hJ hG hall hb
  go_upto_region 1 with fail
  refine wp_region_turn (fun u => (.slice a na capa :: .slice b nb capb :: .int .i64 (jn : Nat) :: .int .i64 (kn : Nat) :: undef :: undef :: undef :: undef :: u0 0 :: undef :: undef :: undef :: undef :: u 0 :: u 1 :: u 2 :: u 3 :: u 4 :: u 5 :: u 6 :: u 7 :: u 8 :: u 9 :: u 10 :: u 11 :: u 12 :: u 13 :: u 14 :: u 15 :: u 16 :: u 17 :: u 18 :: u 19 :: u 20 :: u 21 :: u 22 :: u 23 :: undef :: undef :: undef :: undef :: undef :: undef :: undef :: undef :: undef :: undef :: undef :: undef :: undef :: undef :: undef :: undef :: undef :: undef :: undef :: undef :: undef :: undef :: undef :: undef :: undef :: undef :: undef :: undef :: undef :: undef :: undef :: undef :: undef :: undef :: undef :: undef :: undef :: undef :: undef :: undef :: undef :: undef :: undef :: undef :: undef :: undef :: undef :: undef :: undef :: undef :: undef :: undef :: undef :: undef :: []).toArray) (Holds [.oth (fun v => v = .slice a na capa), .oth (fun v => v = .int .i64 (na : Nat)), .oth (fun v => v = .bool false), .oth (fun v => v = .bool false), .oth (fun v => v = .slice b nb capb), .oth (fun v => v = .int .i64 (nb : Nat)), .oth (fun v => v = .bool false), .oth (fun v => v = .bool false), .oth (fun v => v = .bool false), .oth (fun v => v = .int .i64 (jn : Nat)), .oth (fun v => v = .bool false), .oth (fun v => v = .bool false), .oth (fun v => v = .bool false), .oth (fun v => v = .int .i64 (kn : Nat)), .oth (fun v => v = .bool false), .oth (fun v => v = .bool false), .oth (fun v => v = .bool false), .oth (fun v => v = .int .i64 (jn : Nat)), .oth (fun v => v = .bool false), .oth (fun v => v = .bool false), .oth (fun v => v = .bool false), .oth (fun v => v = .int .i64 (kn : Nat)), .oth (fun v => v = .bool false), .oth (fun v => v = .bool false)] W0) (Keep [.oth (fun v => v = .slice a na capa), .oth (fun v => v = .int .i64 (na : Nat)), .oth (fun v => v = .bool false), .oth (fun v => v = .bool false), .oth (fun v => v = .slice b nb capb), .oth (fun v => v = .int .i64 (nb : Nat)), .oth (fun v => v = .bool false), .oth (fun v => v = .bool false), .oth (fun v => v = .bool false), .oth (fun v => v = .int .i64 (jn : Nat)), .oth (fun v => v = .bool false), .oth (fun v => v = .bool false), .oth (fun v => v = .bool false), .oth (fun v => v = .int .i64 (kn : Nat)), .oth (fun v => v = .bool false), .oth (fun v => v = .bool false), .oth (fun v => v = .bool false), .oth (fun v => v = .int .i64 (jn : Nat)), .oth (fun v => v = .bool false), .oth (fun v => v = .bool false), .oth (fun v => v = .bool false), .oth (fun v => v = .int .i64 (kn : Nat)), .oth (fun v => v = .bool false), .oth (fun v => v = .bool false)] W0) (fun _ => undef) ?_ (by rfl) Keep.start (holds_soft (by kernel_rfl)) ?_ ?_
  · intro u i v h
    rcases i with _ | _ | _ | _ | _ | _ | _ | _ | _ | _ | _ | _ | _ | _ | _ | _ | _ | _ | _ | _ | _ | _ | _ | _ | i
    all_goals first | (simp [Act.put, putV]; done) | (exfalso; simp at h; omega)
  · intro hs
    refine ⟨?_, ?_, ?_, ?_, ?_, ?_, ?_, ?_, ?_, ?_, ?_, ?_, ?_, ?_, ?_, ?_, ?_, ?_, ?_, ?_, ?_, ?_, ?_, ?_, trivial⟩
    · exact step_pureO hs (wants_none rfl) rfl fun L u W hG hdep => ⟨_, run_move rfl, rfl⟩
    · refine step_pureO hs (wants_none rfl) rfl fun L u W hG hdep => ⟨_, ?_, rfl⟩
      have e0 := (show u 0 = .slice a na capa from hG 0 (hdep 0 (by kernel_rfl)))
      go_simp
    · refine step_pureO hs (wants_none rfl) rfl fun L u W hG hdep => ⟨_, ?_, rfl⟩
      have e0 := (show u 1 = .int .i64 (na : Nat) from hG 1 (hdep 1 (by kernel_rfl)))
      go_simp
      try simp [bne]
    · exact step_pureO hs (wants_none rfl) rfl fun L u W hG hdep => ⟨_, run_move rfl, (show u 2 = .bool false from hG 2 (hdep 2 (by kernel_rfl)))⟩
    · exact step_pureO hs (wants_on 3 rfl rfl (by kernel_rfl) (fun _ => rfl)) rfl fun L u W hG hdep => ⟨_, run_move rfl, rfl⟩
    · refine step_pureO hs (wants_on 3 rfl rfl (by kernel_rfl) (fun _ => rfl)) rfl fun L u W hG hdep => ⟨_, ?_, rfl⟩
      have e0 := (show u 4 = .slice b nb capb from hG 4 (hdep 4 (by kernel_rfl)))
      go_simp
    · refine step_pureO hs (wants_on 3 rfl rfl (by kernel_rfl) (fun _ => rfl)) rfl fun L u W hG hdep => ⟨_, ?_, rfl⟩
      have e0 := (show u 5 = .int .i64 (nb : Nat) from hG 5 (hdep 5 (by kernel_rfl)))
      go_simp
      try simp [bne]
    · exact step_pick false hs (wants_none rfl) rfl rfl (fun L u W hG hdep => (show u 3 = .bool false from hG 3 (hdep 3 (by kernel_rfl)))) (fun L u W hG hdep => (show u 6 = .bool false from hG 6 (hdep 6 (by kernel_rfl))))
    · exact step_pureO hs (wants_none rfl) rfl fun L u W hG hdep => ⟨_, run_move rfl, (show u 7 = .bool false from hG 7 (hdep 7 (by kernel_rfl)))⟩
    · exact step_pureO hs (wants_on 8 rfl rfl (by kernel_rfl) (fun _ => rfl)) rfl fun L u W hG hdep => ⟨_, run_move rfl, rfl⟩
    · refine step_pureO hs (wants_on 8 rfl rfl (by kernel_rfl) (fun _ => rfl)) rfl fun L u W hG hdep => ⟨_, ?_, rfl⟩
      have e0 := (show u 9 = .int .i64 (jn : Nat) from hG 9 (hdep 9 (by kernel_rfl)))
      go_simp
      try simp [bne]
    · exact step_pick false hs (wants_none rfl) rfl rfl (fun L u W hG hdep => (show u 8 = .bool false from hG 8 (hdep 8 (by kernel_rfl)))) (fun L u W hG hdep => (show u 10 = .bool false from hG 10 (hdep 10 (by kernel_rfl))))
    · exact step_pureO hs (wants_none rfl) rfl fun L u W hG hdep => ⟨_, run_move rfl, (show u 11 = .bool false from hG 11 (hdep 11 (by kernel_rfl)))⟩
    · exact step_pureO hs (wants_on 12 rfl rfl (by kernel_rfl) (fun _ => rfl)) rfl fun L u W hG hdep => ⟨_, run_move rfl, rfl⟩
    · refine step_pureO hs (wants_on 12 rfl rfl (by kernel_rfl) (fun _ => rfl)) rfl fun L u W hG hdep => ⟨_, ?_, rfl⟩
      have e0 := (show u 13 = .int .i64 (kn : Nat) from hG 13 (hdep 13 (by kernel_rfl)))
      go_simp
      try simp [bne]
    · exact step_pick false hs (wants_none rfl) rfl rfl (fun L u W hG hdep => (show u 12 = .bool false from hG 12 (hdep 12 (by kernel_rfl)))) (fun L u W hG hdep => (show u 14 = .bool false from hG 14 (hdep 14 (by kernel_rfl))))
    · exact step_pureO hs (wants_none rfl) rfl fun L u W hG hdep => ⟨_, run_move rfl, (show u 15 = .bool false from hG 15 (hdep 15 (by kernel_rfl)))⟩
    · exact step_pureO hs (wants_on 16 rfl rfl (by kernel_rfl) (fun _ => rfl)) rfl fun L u W hG hdep => ⟨_, run_move rfl, rfl⟩
    · refine step_pureO hs (wants_on 16 rfl rfl (by kernel_rfl) (fun _ => rfl)) rfl fun L u W hG hdep => ⟨_, ?_, rfl⟩
      have e0 := (show u 17 = .int .i64 (jn : Nat) from hG 17 (hdep 17 (by kernel_rfl)))
      go_simp
      try simp [bne]
    · exact step_pick false hs (wants_none rfl) rfl rfl (fun L u W hG hdep => (show u 16 = .bool false from hG 16 (hdep 16 (by kernel_rfl)))) (fun L u W hG hdep => (show u 18 = .bool false from hG 18 (hdep 18 (by kernel_rfl))))
    · exact step_pureO hs (wants_none rfl) rfl fun L u W hG hdep => ⟨_, run_move rfl, (show u 19 = .bool false from hG 19 (hdep 19 (by kernel_rfl)))⟩
    · exact step_pureO hs (wants_on 20 rfl rfl (by kernel_rfl) (fun _ => rfl)) rfl fun L u W hG hdep => ⟨_, run_move rfl, rfl⟩
    · refine step_pureO hs (wants_on 20 rfl rfl (by kernel_rfl) (fun _ => rfl)) rfl fun L u W hG hdep => ⟨_, ?_, rfl⟩
      have e0 := (show u 21 = .int .i64 (kn : Nat) from hG 21 (hdep 21 (by kernel_rfl)))
      go_simp
      try simp [bne]
    · exact step_pick false hs (wants_none rfl) rfl rfl (fun L u W hG hdep => (show u 20 = .bool false from hG 20 (hdep 20 (by kernel_rfl)))) (fun L u W hG hdep => (show u 22 = .bool false from hG 22 (hdep 22 (by kernel_rfl))))
  intro L1 u1 W1 hall hJ hG
  have hb := hJ.all rfl
  have hbel := Below.call hbel hb
  have HC15 := Lib.hid (show u1 2 = .bool false from hG 2 (by simp))
  have HC16 := Lib.hid (show u1 3 = .bool false from hG 3 (by simp))
  have HC19 := Lib.hid (show u1 6 = .bool false from hG 6 (by simp))
  have HC20 := Lib.hid (show u1 7 = .bool false from hG 7 (by simp))
  have HC21 := Lib.hid (show u1 8 = .bool false from hG 8 (by simp))
  have HC23 := Lib.hid (show u1 10 = .bool false from hG 10 (by simp))
  have HC24 := Lib.hid (show u1 11 = .bool false from hG 11 (by simp))
  have HC25 := Lib.hid (show u1 12 = .bool false from hG 12 (by simp))
  have HC27 := Lib.hid (show u1 14 = .bool false from hG 14 (by simp))
  have HC28 := Lib.hid (show u1 15 = .bool false from hG 15 (by simp))
  have HC29 := Lib.hid (show u1 16 = .bool false from hG 16 (by simp))
  have HC31 := Lib.hid (show u1 18 = .bool false from hG 18 (by simp))
  have HC32 := Lib.hid (show u1 19 = .bool false from hG 19 (by simp))
  have HC33 := Lib.hid (show u1 20 = .bool false from hG 20 (by simp))
  have HC35 := Lib.hid (show u1 22 = .bool false from hG 22 (by simp))
  have HC36 := Lib.hid (show u1 23 = .bool false from hG 23 (by simp))
  have hbel0 := hbel
  clear hJ hG hall hb
  have hx : u1 23 = .bool false := HC36.out
  go_wp2_with fail
  rw [hx]
  clear hx
  clear d0 d1 d2 d3 d4 d5
  go_upto_region 3 with fail
  refine wp_region_turn (fun u => (.slice a na capa :: .slice b nb capb :: .int .i64 (jn : Nat) :: .int .i64 (kn : Nat) :: undef :: undef :: undef :: undef :: u0 0 :: u 4 :: undef :: undef :: undef :: u1 0 :: u1 1 :: u1 2 :: u1 3 :: u1 4 :: u1 5 :: u1 6 :: u1 7 :: u1 8 :: u1 9 :: u1 10 :: u1 11 :: u1 12 :: u1 13 :: u1 14 :: u1 15 :: u1 16 :: u1 17 :: u1 18 :: u1 19 :: u1 20 :: u1 21 :: u1 22 :: .bool false :: undef :: u 0 :: u 1 :: u 2 :: u 3 :: undef :: undef :: undef :: undef :: undef :: undef :: undef :: undef :: undef :: undef :: undef :: undef :: undef :: undef :: undef :: undef :: undef :: undef :: undef :: undef :: undef :: undef :: undef :: undef :: undef :: undef :: undef :: undef :: undef :: undef :: undef :: undef :: undef :: undef :: undef :: undef :: undef :: undef :: undef :: undef :: undef :: undef :: undef :: undef :: undef :: undef :: undef :: undef :: undef :: []).toArray) (Holds [.val rP [base], .oth (fun v => v = .slice a na capa), .val rS [sa], .val rP [P], .new 20, .st 4 rP [P]] W1) (Keep [.val rP [base], .oth (fun v => v = .slice a na capa), .val rS [sa], .val rP [P], .new 20, .st 4 rP [P]] W1) (fun _ => undef) ?_ (by rfl) Keep.start (holds_soft (by kernel_rfl)) ?_ ?_
  · intro u i v h
    rcases i with _ | _ | _ | _ | _ | _ | i
    all_goals first | (simp [Act.put, putV]; done) | (exfalso; simp at h; omega)
  · intro hs
    refine ⟨?_, ?_, ?_, ?_, ?_, ?_, trivial⟩
    · refine step_call hs (wants_none rfl) rfl fun L u W hJ hG hL hdep K hK => ?_
      go_simp
      go_at_call 16
      (with_reducible refine (cBase _).mono ?_); rintro e w1 ⟨r, rfl, hr, hb⟩
      have hk := hK.out _ _ hr hb
      exact hk
    · exact step_pureO hs (wants_none rfl) rfl fun L u W hG hdep => ⟨_, run_move rfl, rfl⟩
    · refine step_call hs (wants_none rfl) rfl fun L u W hJ hG hL hdep K hK => ?_
      have x0 := (show u 1 = .slice a na capa from hG 1 (hdep 1 (by kernel_rfl)))
      have hRB0 := (ha.below hbel).below (hJ.all rfl)
      go_simp
      go_at_call 18
      (with_reducible refine (cWide HSa.out hRB0).mono ?_); rintro e w1 ⟨r, rfl, hr, hb⟩
      have hk := hK.out _ _ hr hb
      simp only [x0] at hk
      exact hk
    · refine step_call hs (wants_none rfl) rfl fun L u W hJ hG hL hdep K hK => ?_
      have a0 := (show IsFs rP (u 0) [base] from hG 0 (hdep 0 (by kernel_rfl)))
      have a1 := (show IsFs rS (u 2) [sa] from hG 2 (hdep 2 (by kernel_rfl)))
      go_simp
      go_at_call 17
      (with_reducible refine (cMult HP.out a0 a1 _).mono ?_); rintro e w1 ⟨r, rfl, hr, hb⟩
      have hk := hK.out _ _ hr hb
      exact hk
    · exact step_alloc hs (wants_none rfl) rfl rfl (by omega) rfl allocP
    · exact step_store 4 hs (by kernel_rfl) (wants_none rfl) rfl rfl rfl (by kernel_rfl) (by kernel_rfl) (by kernel_rfl) (by kernel_rfl) (fun _ => rfl) (gives_op 3 rfl (by kernel_rfl) (fun _ => rfl)) tyP rfl
  intro L3 u3 W3 hall hJ hG
  obtain ⟨q9, e9, hq9, _, ht9⟩ := (show ∃ g, u3 4 = .pointer (some ⟨g, 0, none⟩) ∧ W1.heap.size ≤ g ∧ 0 < 20 ∧ W3.there g 0 20 from hG 4 (by simp))
  have hm9 : HasFs rP W3 q9 0 [P] := by
    obtain ⟨g, e, _, h⟩ := (show ∃ g, u3 4 = .pointer (some ⟨g, 0, none⟩) ∧ W1.heap.size ≤ g ∧ HasFs rP W3 g 0 [P] from hG 5 (by simp))
    rw [e9] at e; cases e; exact h
  have hq9 : w.heap.size ≤ q9 := by have := hbel0.size; omega
  have E9 := Lib.hid e9; clear e9
  have hb := hJ.all rfl
  have hbel := Below.call hbel hb
  have hbel0 := hbel
  clear hJ hG hall hb
  go_upto_region 4 with fail
  refine wp_region_turn (fun u => (.slice a na capa :: .slice b nb capb :: .int .i64 (jn : Nat) :: .int .i64 (kn : Nat) :: undef :: undef :: undef :: undef :: u0 0 :: u3 4 :: u 4 :: u 5 :: undef :: u1 0 :: u1 1 :: u1 2 :: u1 3 :: u1 4 :: u1 5 :: u1 6 :: u1 7 :: u1 8 :: u1 9 :: u1 10 :: u1 11 :: u1 12 :: u1 13 :: u1 14 :: u1 15 :: u1 16 :: u1 17 :: u1 18 :: u1 19 :: u1 20 :: u1 21 :: u1 22 :: .bool false :: undef :: u3 0 :: u3 1 :: u3 2 :: u3 3 :: u 0 :: u 1 :: u 2 :: u 3 :: undef :: undef :: undef :: undef :: undef :: undef :: undef :: undef :: undef :: undef :: undef :: undef :: undef :: undef :: undef :: undef :: undef :: undef :: undef :: undef :: undef :: undef :: undef :: undef :: undef :: undef :: undef :: undef :: undef :: undef :: undef :: undef :: undef :: undef :: undef :: undef :: undef :: undef :: undef :: undef :: undef :: undef :: undef :: undef :: undef :: []).toArray) (Holds [.oth (fun v => v = .slice a na capa), .val rS [sa], .oth (fun v => v = .slice b nb capb), .val rS [sb], .new 4, .new 4, .st 4 rS [sa], .st 5 rS [sb]] W3) (Keep [.oth (fun v => v = .slice a na capa), .val rS [sa], .oth (fun v => v = .slice b nb capb), .val rS [sb], .new 4, .new 4, .st 4 rS [sa], .st 5 rS [sb]] W3) (fun _ => undef) ?_ (by rfl) Keep.start (holds_soft (by kernel_rfl)) ?_ ?_
  · intro u i v h
    rcases i with _ | _ | _ | _ | _ | _ | _ | _ | i
    all_goals first | (simp [Act.put, putV]; done) | (exfalso; simp at h; omega)
  · intro hs
    refine ⟨?_, ?_, ?_, ?_, ?_, ?_, ?_, ?_, trivial⟩
    · exact step_pureO hs (wants_none rfl) rfl fun L u W hG hdep => ⟨_, run_move rfl, rfl⟩
    · refine step_call hs (wants_none rfl) rfl fun L u W hJ hG hL hdep K hK => ?_
      have x0 := (show u 0 = .slice a na capa from hG 0 (hdep 0 (by kernel_rfl)))
      have hRB0 := (ha.below hbel).below (hJ.all rfl)
      go_simp
      go_at_call 18
      (with_reducible refine (cWide HSa.out hRB0).mono ?_); rintro e w1 ⟨r, rfl, hr, hb⟩
      have hk := hK.out _ _ hr hb
      simp only [x0] at hk
      exact hk
    · exact step_pureO hs (wants_none rfl) rfl fun L u W hG hdep => ⟨_, run_move rfl, rfl⟩
    · refine step_call hs (wants_none rfl) rfl fun L u W hJ hG hL hdep K hK => ?_
      have x0 := (show u 2 = .slice b nb capb from hG 2 (hdep 2 (by kernel_rfl)))
      have hRB0 := (hb.below hbel).below (hJ.all rfl)
      go_simp
      go_at_call 18
      (with_reducible refine (cWide HSb.out hRB0).mono ?_); rintro e w1 ⟨r, rfl, hr, hb⟩
      have hk := hK.out _ _ hr hb
      simp only [x0] at hk
      exact hk
    · exact step_alloc hs (wants_none rfl) rfl rfl (by omega) rfl allocS
    · exact step_alloc hs (wants_none rfl) rfl rfl (by omega) rfl allocS
    · exact step_store 4 hs (by kernel_rfl) (wants_none rfl) rfl rfl rfl (by kernel_rfl) (by kernel_rfl) (by kernel_rfl) (by kernel_rfl) (fun _ => rfl) (gives_op 1 rfl (by kernel_rfl) (fun _ => rfl)) tyS rfl
    · exact step_store 5 hs (by kernel_rfl) (wants_none rfl) rfl rfl rfl (by kernel_rfl) (by kernel_rfl) (by kernel_rfl) (by kernel_rfl) (fun _ => rfl) (gives_op 3 rfl (by kernel_rfl) (fun _ => rfl)) tyS rfl
  intro L4 u4 W4 hall hJ hG
  obtain ⟨q10, e10, hq10, _, ht10⟩ := (show ∃ g, u4 4 = .pointer (some ⟨g, 0, none⟩) ∧ W3.heap.size ≤ g ∧ 0 < 4 ∧ W4.there g 0 4 from hG 4 (by simp))
  have hm10 : HasFs rS W4 q10 0 [sa] := by
    obtain ⟨g, e, _, h⟩ := (show ∃ g, u4 4 = .pointer (some ⟨g, 0, none⟩) ∧ W3.heap.size ≤ g ∧ HasFs rS W4 g 0 [sa] from hG 6 (by simp))
    rw [e10] at e; cases e; exact h
  have HD10_q9 := Lib.hid (show q9 ≠ q10 by have := there_lt ht9 (by omega); omega)
  have hq10 : w.heap.size ≤ q10 := by have := hbel0.size; omega
  have E10 := Lib.hid e10; clear e10
  obtain ⟨q11, e11, hq11, _, ht11⟩ := (show ∃ g, u4 5 = .pointer (some ⟨g, 0, none⟩) ∧ W3.heap.size ≤ g ∧ 0 < 4 ∧ W4.there g 0 4 from hG 5 (by simp))
  have hm11 : HasFs rS W4 q11 0 [sb] := by
    obtain ⟨g, e, _, h⟩ := (show ∃ g, u4 5 = .pointer (some ⟨g, 0, none⟩) ∧ W3.heap.size ≤ g ∧ HasFs rS W4 g 0 [sb] from hG 7 (by simp))
    rw [e11] at e; cases e; exact h
  have HD11_q9 := Lib.hid (show q9 ≠ q11 by have := there_lt ht9 (by omega); omega)
  have hq11 : w.heap.size ≤ q11 := by have := hbel0.size; omega
  have E11 := Lib.hid e11; clear e11
  have hb := hJ.all rfl
  have hbel := Below.call hbel hb
  have hm9 := hm9.later hb
  have ht9 := there_later ht9 hb
  have HN10_11 := Lib.hid (show q10 ≠ q11 from fun e => hJ.apart 4 5 _ (by omega) (hall _ (by simp)) (hall _ (by simp)) rfl rfl (E10.out.trans (by rw [e])) E11.out)
  have hbel0 := hbel
  clear hJ hG hall hb
  go_upto_region 5 with fail
  refine wp_region_turn (fun u => (.slice a na capa :: .slice b nb capb :: .int .i64 (jn : Nat) :: .int .i64 (kn : Nat) :: undef :: undef :: undef :: undef :: u0 0 :: u3 4 :: u4 4 :: u4 5 :: u 0 :: u1 0 :: u1 1 :: u1 2 :: u1 3 :: u1 4 :: u1 5 :: u1 6 :: u1 7 :: u1 8 :: u1 9 :: u1 10 :: u1 11 :: u1 12 :: u1 13 :: u1 14 :: u1 15 :: u1 16 :: u1 17 :: u1 18 :: u1 19 :: u1 20 :: u1 21 :: u1 22 :: .bool false :: undef :: u3 0 :: u3 1 :: u3 2 :: u3 3 :: u4 0 :: u4 1 :: u4 2 :: u4 3 :: undef :: undef :: undef :: undef :: undef :: undef :: undef :: undef :: undef :: undef :: undef :: undef :: undef :: undef :: undef :: undef :: undef :: undef :: undef :: undef :: undef :: undef :: undef :: undef :: undef :: undef :: undef :: undef :: undef :: undef :: undef :: undef :: undef :: undef :: undef :: undef :: undef :: undef :: undef :: undef :: undef :: undef :: undef :: undef :: undef :: []).toArray) (Holds [.oth (fun v => v = .func (.func 17) #[] #[])] W4) (Keep [.oth (fun v => v = .func (.func 17) #[] #[])] W4) (fun _ => undef) ?_ (by rfl) Keep.start (holds_soft (by kernel_rfl)) ?_ ?_
  · intro u i v h
    rcases i with _ | i
    all_goals first | (simp [Act.put, putV]; done) | (exfalso; simp at h; omega)
  · intro hs
    refine ⟨?_, trivial⟩
    · exact step_pureO hs (wants_none rfl) rfl fun L u W hG hdep => ⟨_, run_assign rfl, rfl⟩
  intro L5 u5 W5 hall hJ hG
  have hb := hJ.all rfl
  have hbel := Below.call hbel hb
  have hm9 := hm9.later hb
  have hm10 := hm10.later hb
  have hm11 := hm11.later hb
  have ht9 := there_later ht9 hb
  have ht10 := there_later ht10 hb
  have ht11 := there_later ht11 hb
  have HC12 := Lib.hid (show u5 0 = .func (.func 17) #[] #[] from hG 0 (by simp))
  have hbel0 := hbel
  clear hJ hG hall hb
  go_upto_region 6 with fail
  refine wp_region_mid (fun u => (.slice a na capa :: .slice b nb capb :: .int .i64 (jn : Nat) :: .int .i64 (kn : Nat) :: undef :: undef :: undef :: undef :: u 45 :: u3 4 :: u4 4 :: u4 5 :: u5 0 :: u1 0 :: u1 1 :: u1 2 :: u1 3 :: u1 4 :: u1 5 :: u1 6 :: u1 7 :: u1 8 :: u1 9 :: u1 10 :: u1 11 :: u1 12 :: u1 13 :: u1 14 :: u1 15 :: u1 16 :: u1 17 :: u1 18 :: u1 19 :: u1 20 :: u1 21 :: u1 22 :: .bool false :: undef :: u3 0 :: u3 1 :: u3 2 :: u3 3 :: u4 0 :: u4 1 :: u4 2 :: u4 3 :: u 0 :: u 1 :: u 2 :: u 3 :: u 4 :: u 5 :: u 6 :: u 7 :: u 8 :: u 9 :: u 10 :: u 11 :: u 12 :: u 13 :: u 14 :: u 15 :: u 16 :: u 17 :: u 18 :: u 19 :: u 20 :: u 21 :: u 22 :: u 23 :: u 24 :: u 25 :: u 26 :: u 27 :: u 28 :: u 29 :: u 30 :: u 31 :: u 32 :: u 33 :: u 34 :: u 35 :: u 36 :: u 37 :: u 38 :: u 39 :: u 40 :: u 41 :: u 42 :: u 43 :: u 44 :: []).toArray) (Holds [.val rP [P], .oth (fun v => v = .int .i64 (jn : Nat)), .val rP [Cp.mul jn P], .val rP [P], .oth (fun v => v = .int .i64 (kn : Nat)), .val rP [Cp.mul kn P], .val rP [Cp.add (Cp.mul jn P) (Cp.mul kn P)], .val rP [P], .oth (fun v => v = .int .i64 (jn : Nat)), .oth (fun v => v = .int .i64 (kn : Nat)), .oth (fun v => v = .int .i64 (mn : Nat)), .val rP [Cp.mul mn P], .oth (fun v => v = .bool true), .oth (fun v => v = .bool true), .oth (fun v => v = .func (.func 17) #[] #[]), .oth (fun v => v = .func (.func 17) #[] #[]), .val rP [base], .val rS [sa], .val rP [P], .val rS [sb], .val rP [Cp.mul sb.val P], .oth (fun v => v = .func (.func 17) #[] #[]), .val rP [base], .val rS [sa], .val rS [sb], .val rS [dM sa sb], .val rP [Cp.mul (dM sa sb).val base], .oth (fun v => v = .bool true), .oth (fun v => v = .bool true), .oth (fun v => v = .bool true), .val rP [P], .val rP [P], .val rP [P], .oth (fun v => v = .bool true), .oth (fun v => v = .bool true), .oth (fun v => v = .bool true), .val rP [base], .val rP [base], .val rP [Cp.neg base], .oth (fun v => v = .bool false), .oth (fun v => v = .bool true), .oth (fun v => v = .bool true), .oth (fun v => v = .bool true), .oth (fun v => v = .bool true), .oth (fun v => v = .bool true), .oth (fun v => v = .bool true)] W5) (Keep [.val rP [P], .oth (fun v => v = .int .i64 (jn : Nat)), .val rP [Cp.mul jn P], .val rP [P], .oth (fun v => v = .int .i64 (kn : Nat)), .val rP [Cp.mul kn P], .val rP [Cp.add (Cp.mul jn P) (Cp.mul kn P)], .val rP [P], .oth (fun v => v = .int .i64 (jn : Nat)), .oth (fun v => v = .int .i64 (kn : Nat)), .oth (fun v => v = .int .i64 (mn : Nat)), .val rP [Cp.mul mn P], .oth (fun v => v = .bool true), .oth (fun v => v = .bool true), .oth (fun v => v = .func (.func 17) #[] #[]), .oth (fun v => v = .func (.func 17) #[] #[]), .val rP [base], .val rS [sa], .val rP [P], .val rS [sb], .val rP [Cp.mul sb.val P], .oth (fun v => v = .func (.func 17) #[] #[]), .val rP [base], .val rS [sa], .val rS [sb], .val rS [dM sa sb], .val rP [Cp.mul (dM sa sb).val base], .oth (fun v => v = .bool true), .oth (fun v => v = .bool true), .oth (fun v => v = .bool true), .val rP [P], .val rP [P], .val rP [P], .oth (fun v => v = .bool true), .oth (fun v => v = .bool true), .oth (fun v => v = .bool true), .val rP [base], .val rP [base], .val rP [Cp.neg base], .oth (fun v => v = .bool false), .oth (fun v => v = .bool true), .oth (fun v => v = .bool true), .oth (fun v => v = .bool true), .oth (fun v => v = .bool true), .oth (fun v => v = .bool true), .oth (fun v => v = .bool true)] W5) (fun k => ([undef, undef, undef, undef, undef, undef, undef, undef, undef, undef, undef, undef, undef, undef, undef, undef, undef, undef, undef, undef, undef, undef, undef, undef, undef, undef, undef, undef, undef, undef, undef, undef, undef, undef, undef, undef, undef, undef, undef, undef, undef, undef, undef, undef, undef, u0 0] : List Value).getD k undef) (by kernel_rfl) (by kernel_rfl) ?_ (by rfl) Keep.drew (holds_soft (by kernel_rfl)) ?_ ?_
  · intro u i v h
    rcases i with _ | _ | _ | _ | _ | _ | _ | _ | _ | _ | _ | _ | _ | _ | _ | _ | _ | _ | _ | _ | _ | _ | _ | _ | _ | _ | _ | _ | _ | _ | _ | _ | _ | _ | _ | _ | _ | _ | _ | _ | _ | _ | _ | _ | _ | _ | i
    iterate 46 kernel_rfl
    exfalso; simp at h; omega
  · intro hs
    refine ⟨?_, ?_, ?_, ?_, ?_, ?_, ?_, ?_, ?_, ?_, ?_, ?_, ?_, ?_, ?_, ?_, ?_, ?_, ?_, ?_, ?_, ?_, ?_, ?_, ?_, ?_, ?_, ?_, ?_, ?_, ?_, ?_, ?_, ?_, ?_, ?_, ?_, ?_, ?_, ?_, ?_, ?_, ?_, ?_, ?_, ?_, trivial⟩
    · exact step_load q9 0 hs (wants_none rfl) rfl rfl tyP (fun _ => E9.out) hm9.lt hm9 (noSto_apart (by kernel_rfl))
    · exact step_pureO hs (wants_none rfl) rfl fun L u W hG hdep => ⟨_, run_move rfl, rfl⟩
    · refine step_call hs (wants_none rfl) rfl fun L u W hJ hG hL hdep K hK => ?_
      have a0 := (show IsFs rP (u 0) [P] from hG 0 (hdep 0 (by kernel_rfl)))
      have x0 := (show u 1 = .int .i64 (jn : Nat) from hG 1 (hdep 1 (by kernel_rfl)))
      go_simp
      go_at_call 29
      (with_reducible refine (cTimes (times_nat (k := jn) (by have := HJ.out; omega)) a0 _).mono ?_); rintro e w1 ⟨r, rfl, hr, hb⟩
      have hk := hK.out _ _ hr hb
      simp only [x0] at hk
      exact hk
    · exact step_load q9 0 hs (wants_none rfl) rfl rfl tyP (fun _ => E9.out) hm9.lt hm9 (noSto_apart (by kernel_rfl))
    · exact step_pureO hs (wants_none rfl) rfl fun L u W hG hdep => ⟨_, run_move rfl, rfl⟩
    · refine step_call hs (wants_none rfl) rfl fun L u W hJ hG hL hdep K hK => ?_
      have a0 := (show IsFs rP (u 3) [P] from hG 3 (hdep 3 (by kernel_rfl)))
      have x0 := (show u 4 = .int .i64 (kn : Nat) from hG 4 (hdep 4 (by kernel_rfl)))
      go_simp
      go_at_call 29
      (with_reducible refine (cTimes (times_nat (k := kn) (by have := HK.out; omega)) a0 _).mono ?_); rintro e w1 ⟨r, rfl, hr, hb⟩
      have hk := hK.out _ _ hr hb
      simp only [x0] at hk
      exact hk
    · refine step_call hs (wants_none rfl) rfl fun L u W hJ hG hL hdep K hK => ?_
      have a0 := (show IsFs rP (u 2) [Cp.mul jn P] from hG 2 (hdep 2 (by kernel_rfl)))
      have a1 := (show IsFs rP (u 5) [Cp.mul kn P] from hG 5 (hdep 5 (by kernel_rfl)))
      go_simp
      go_at_call 25
      (with_reducible refine (cPAdd a0 a1 _).mono ?_); rintro e w1 ⟨r, rfl, hr, hb⟩
      have hk := hK.out _ _ hr hb
      exact hk
    · exact step_load q9 0 hs (wants_none rfl) rfl rfl tyP (fun _ => E9.out) hm9.lt hm9 (noSto_apart (by kernel_rfl))
    · exact step_pureO hs (wants_none rfl) rfl fun L u W hG hdep => ⟨_, run_move rfl, rfl⟩
    · exact step_pureO hs (wants_none rfl) rfl fun L u W hG hdep => ⟨_, run_move rfl, rfl⟩
    · refine step_pureO hs (wants_none rfl) rfl fun L u W hG hdep => ⟨_, ?_, rfl⟩
      have e0 := (show u 8 = .int .i64 (jn : Nat) from hG 8 (hdep 8 (by kernel_rfl)))
      have e1 := (show u 9 = .int .i64 (kn : Nat) from hG 9 (hdep 9 (by kernel_rfl)))
      have e9 := HJK.out
      go_simp
    · refine step_call hs (wants_none rfl) rfl fun L u W hJ hG hL hdep K hK => ?_
      have a0 := (show IsFs rP (u 7) [P] from hG 7 (hdep 7 (by kernel_rfl)))
      have x0 := (show u 10 = .int .i64 (mn : Nat) from hG 10 (hdep 10 (by kernel_rfl)))
      go_simp
      go_at_call 29
      (with_reducible refine (cTimes (times_nat (k := mn) (by have := HJ.out; have := HK.out; have := HMN.out; omega)) a0 _).mono ?_); rintro e w1 ⟨r, rfl, hr, hb⟩
      have hk := hK.out _ _ hr hb
      simp only [x0] at hk
      exact hk
    · refine step_callO hs (wants_none rfl) rfl fun L u W hJ hG hL hdep K hK => ?_
      have a0 := (show IsFs rP (u 6) [Cp.add (Cp.mul jn P) (Cp.mul kn P)] from hG 6 (hdep 6 (by kernel_rfl)))
      have a1 := (show IsFs rP (u 11) [Cp.mul mn P] from hG 11 (hdep 11 (by kernel_rfl)))
      go_simp
      go_at_call 19
      (with_reducible refine (cPSame (b := true) (decide_eq_true (by rw [HMN.out]; exact (Cp.mul_add jn kn P).symm)) a0 a1 _).mono ?_); rintro e w1 ⟨rfl, hb⟩
      have hk := hK.out _ _ rfl hb
      exact hk
    · exact step_pureO hs (wants_none rfl) rfl fun L u W hG hdep => ⟨_, run_move rfl, (show u 12 = .bool true from hG 12 (hdep 12 (by kernel_rfl)))⟩
    · exact step_pureO hs (wants_on 13 rfl rfl (by kernel_rfl) (fun _ => rfl)) rfl fun L u W hG hdep => ⟨_, run_move rfl, HC12.out⟩
    · exact step_pureO hs (wants_on 13 rfl rfl (by kernel_rfl) (fun _ => rfl)) rfl fun L u W hG hdep => ⟨_, run_move rfl, HC12.out⟩
    · refine step_call hs (wants_on 13 rfl rfl (by kernel_rfl) (fun _ => rfl)) rfl fun L u W hJ hG hL hdep K hK => ?_
      go_simp
      go_at_call 16
      (with_reducible refine (cBase _).mono ?_); rintro e w1 ⟨r, rfl, hr, hb⟩
      have hk := hK.out _ _ hr hb
      exact hk
    · exact step_load q10 0 hs (wants_on 13 rfl rfl (by kernel_rfl) (fun _ => rfl)) rfl rfl tyS (fun _ => E10.out) hm10.lt hm10 (noSto_apart (by kernel_rfl))
    · refine step_call hs (wants_on 13 rfl rfl (by kernel_rfl) (fun _ => rfl)) rfl fun L u W hJ hG hL hdep K hK => ?_
      have a0 := (show IsFs rP (u 16) [base] from hG 16 (hdep 16 (by kernel_rfl)))
      have a1 := (show IsFs rS (u 17) [sa] from hG 17 (hdep 17 (by kernel_rfl)))
      have x0 := (show u 15 = .func (.func 17) #[] #[] from hG 15 (hdep 15 (by kernel_rfl)))
      go_simp
      go_at_call 17
      (with_reducible refine (cMult HP.out a0 a1 _).mono ?_); rintro e w1 ⟨r, rfl, hr, hb⟩
      have hk := hK.out _ _ hr hb
      simp only [x0] at hk
      exact hk
    · exact step_load q11 0 hs (wants_on 13 rfl rfl (by kernel_rfl) (fun _ => rfl)) rfl rfl tyS (fun _ => E11.out) hm11.lt hm11 (noSto_apart (by kernel_rfl))
    · refine step_call hs (wants_on 13 rfl rfl (by kernel_rfl) (fun _ => rfl)) rfl fun L u W hJ hG hL hdep K hK => ?_
      have a0 := (show IsFs rP (u 18) [P] from hG 18 (hdep 18 (by kernel_rfl)))
      have a1 := (show IsFs rS (u 19) [sb] from hG 19 (hdep 19 (by kernel_rfl)))
      have x0 := (show u 14 = .func (.func 17) #[] #[] from hG 14 (hdep 14 (by kernel_rfl)))
      go_simp
      go_at_call 17
      (with_reducible refine (cMult rfl a0 a1 _).mono ?_); rintro e w1 ⟨r, rfl, hr, hb⟩
      have hk := hK.out _ _ hr hb
      simp only [x0] at hk
      exact hk
    · exact step_pureO hs (wants_on 13 rfl rfl (by kernel_rfl) (fun _ => rfl)) rfl fun L u W hG hdep => ⟨_, run_move rfl, HC12.out⟩
    · refine step_call hs (wants_on 13 rfl rfl (by kernel_rfl) (fun _ => rfl)) rfl fun L u W hJ hG hL hdep K hK => ?_
      go_simp
      go_at_call 16
      (with_reducible refine (cBase _).mono ?_); rintro e w1 ⟨r, rfl, hr, hb⟩
      have hk := hK.out _ _ hr hb
      exact hk
    · exact step_load q10 0 hs (wants_on 13 rfl rfl (by kernel_rfl) (fun _ => rfl)) rfl rfl tyS (fun _ => E10.out) hm10.lt hm10 (noSto_apart (by kernel_rfl))
    · exact step_load q11 0 hs (wants_on 13 rfl rfl (by kernel_rfl) (fun _ => rfl)) rfl rfl tyS (fun _ => E11.out) hm11.lt hm11 (noSto_apart (by kernel_rfl))
    · refine step_call hs (wants_on 13 rfl rfl (by kernel_rfl) (fun _ => rfl)) rfl fun L u W hJ hG hL hdep K hK => ?_
      have a0 := (show IsFs rS (u 23) [sa] from hG 23 (hdep 23 (by kernel_rfl)))
      have a1 := (show IsFs rS (u 24) [sb] from hG 24 (hdep 24 (by kernel_rfl)))
      go_simp
      go_at_call 34
      (with_reducible refine (cScMul a0 a1 _).mono ?_); rintro e w1 ⟨r, rfl, hr, hb⟩
      have hk := hK.out _ _ hr hb
      exact hk
    · refine step_call hs (wants_on 13 rfl rfl (by kernel_rfl) (fun _ => rfl)) rfl fun L u W hJ hG hL hdep K hK => ?_
      have a0 := (show IsFs rP (u 22) [base] from hG 22 (hdep 22 (by kernel_rfl)))
      have a1 := (show IsFs rS (u 25) [dM sa sb] from hG 25 (hdep 25 (by kernel_rfl)))
      have x0 := (show u 21 = .func (.func 17) #[] #[] from hG 21 (hdep 21 (by kernel_rfl)))
      go_simp
      go_at_call 17
      (with_reducible refine (cMult rfl a0 a1 _).mono ?_); rintro e w1 ⟨r, rfl, hr, hb⟩
      have hk := hK.out _ _ hr hb
      simp only [x0] at hk
      exact hk
    · refine step_callO hs (wants_on 13 rfl rfl (by kernel_rfl) (fun _ => rfl)) rfl fun L u W hJ hG hL hdep K hK => ?_
      have a0 := (show IsFs rP (u 20) [Cp.mul sb.val P] from hG 20 (hdep 20 (by kernel_rfl)))
      have a1 := (show IsFs rP (u 26) [Cp.mul (dM sa sb).val base] from hG 26 (hdep 26 (by kernel_rfl)))
      go_simp
      go_at_call 19
      (with_reducible refine (cPSame (b := true) (decide_eq_true (by rw [← HP.out]; exact mulb_prod)) a0 a1 _).mono ?_); rintro e w1 ⟨rfl, hb⟩
      have hk := hK.out _ _ rfl hb
      exact hk
    · exact step_pick true hs (wants_none rfl) rfl rfl (fun L u W hG hdep => (show u 13 = .bool true from hG 13 (hdep 13 (by kernel_rfl)))) (fun L u W hG hdep => (show u 27 = .bool true from hG 27 (hdep 27 (by kernel_rfl))))
    · exact step_pureO hs (wants_none rfl) rfl fun L u W hG hdep => ⟨_, run_move rfl, (show u 28 = .bool true from hG 28 (hdep 28 (by kernel_rfl)))⟩
    · exact step_load q9 0 hs (wants_on 29 rfl rfl (by kernel_rfl) (fun _ => rfl)) rfl rfl tyP (fun _ => E9.out) hm9.lt hm9 (noSto_apart (by kernel_rfl))
    · refine step_call hs (wants_on 29 rfl rfl (by kernel_rfl) (fun _ => rfl)) rfl fun L u W hJ hG hL hdep K hK => ?_
      have a0 := (show IsFs rP (u 30) [P] from hG 30 (hdep 30 (by kernel_rfl)))
      go_simp
      go_at_call 29
      (with_reducible refine (cTimes (times_one P) a0 _).mono ?_); rintro e w1 ⟨r, rfl, hr, hb⟩
      have hk := hK.out _ _ hr hb
      exact hk
    · exact step_load q9 0 hs (wants_on 29 rfl rfl (by kernel_rfl) (fun _ => rfl)) rfl rfl tyP (fun _ => E9.out) hm9.lt hm9 (noSto_apart (by kernel_rfl))
    · refine step_callO hs (wants_on 29 rfl rfl (by kernel_rfl) (fun _ => rfl)) rfl fun L u W hJ hG hL hdep K hK => ?_
      have a0 := (show IsFs rP (u 31) [P] from hG 31 (hdep 31 (by kernel_rfl)))
      have a1 := (show IsFs rP (u 32) [P] from hG 32 (hdep 32 (by kernel_rfl)))
      go_simp
      go_at_call 19
      (with_reducible refine (cPSame (b := true) (decide_eq_true rfl) a0 a1 _).mono ?_); rintro e w1 ⟨rfl, hb⟩
      have hk := hK.out _ _ rfl hb
      exact hk
    · exact step_pick true hs (wants_none rfl) rfl rfl (fun L u W hG hdep => (show u 29 = .bool true from hG 29 (hdep 29 (by kernel_rfl)))) (fun L u W hG hdep => (show u 33 = .bool true from hG 33 (hdep 33 (by kernel_rfl))))
    · exact step_pureO hs (wants_none rfl) rfl fun L u W hG hdep => ⟨_, run_move rfl, (show u 34 = .bool true from hG 34 (hdep 34 (by kernel_rfl)))⟩
    · refine step_call hs (wants_on 35 rfl rfl (by kernel_rfl) (fun _ => rfl)) rfl fun L u W hJ hG hL hdep K hK => ?_
      go_simp
      go_at_call 16
      (with_reducible refine (cBase _).mono ?_); rintro e w1 ⟨r, rfl, hr, hb⟩
      have hk := hK.out _ _ hr hb
      exact hk
    · refine step_call hs (wants_on 35 rfl rfl (by kernel_rfl) (fun _ => rfl)) rfl fun L u W hJ hG hL hdep K hK => ?_
      go_simp
      go_at_call 16
      (with_reducible refine (cBase _).mono ?_); rintro e w1 ⟨r, rfl, hr, hb⟩
      have hk := hK.out _ _ hr hb
      exact hk
    · refine step_call hs (wants_on 35 rfl rfl (by kernel_rfl) (fun _ => rfl)) rfl fun L u W hJ hG hL hdep K hK => ?_
      have a0 := (show IsFs rP (u 37) [base] from hG 37 (hdep 37 (by kernel_rfl)))
      go_simp
      go_at_call 21
      (with_reducible refine (cPNeg a0 _).mono ?_); rintro e w1 ⟨r, rfl, hr, hb⟩
      have hk := hK.out _ _ hr hb
      exact hk
    · refine step_callO hs (wants_on 35 rfl rfl (by kernel_rfl) (fun _ => rfl)) rfl fun L u W hJ hG hL hdep K hK => ?_
      have a0 := (show IsFs rP (u 36) [base] from hG 36 (hdep 36 (by kernel_rfl)))
      have a1 := (show IsFs rP (u 38) [Cp.neg base] from hG 38 (hdep 38 (by kernel_rfl)))
      go_simp
      go_at_call 19
      (with_reducible refine (cPSame (b := false) (decide_eq_false base_neg_ne) a0 a1 _).mono ?_); rintro e w1 ⟨rfl, hb⟩
      have hk := hK.out _ _ rfl hb
      exact hk
    · refine step_pureO hs (wants_on 35 rfl rfl (by kernel_rfl) (fun _ => rfl)) rfl fun L u W hG hdep => ⟨_, ?_, rfl⟩
      have e0 := (show u 39 = .bool false from hG 39 (hdep 39 (by kernel_rfl)))
      go_simp
    · exact step_pick true hs (wants_none rfl) rfl rfl (fun L u W hG hdep => (show u 35 = .bool true from hG 35 (hdep 35 (by kernel_rfl)))) (fun L u W hG hdep => (show u 40 = .bool true from hG 40 (hdep 40 (by kernel_rfl))))
    · exact step_pureO hs (wants_none rfl) rfl fun L u W hG hdep => ⟨_, run_move rfl, (show u 41 = .bool true from hG 41 (hdep 41 (by kernel_rfl)))⟩
    · refine step_callO hs (wants_on 42 rfl rfl (by kernel_rfl) (fun _ => rfl)) rfl fun L u W hJ hG hL hdep K hK => ?_
      go_simp
      go_at_call 9
      (with_reducible refine (law8awake_any _).mono ?_); rintro e w1 ⟨rfl, hb⟩
      have hk := hK.out _ _ rfl hb
      exact hk
    · exact step_pick true hs (wants_none rfl) rfl rfl (fun L u W hG hdep => (show u 42 = .bool true from hG 42 (hdep 42 (by kernel_rfl)))) (fun L u W hG hdep => (show u 43 = .bool true from hG 43 (hdep 43 (by kernel_rfl))))
    · exact step_pureO hs (wants_none rfl) rfl fun L u W hG hdep => ⟨_, run_assign rfl, (show u 44 = .bool true from hG 44 (hdep 44 (by kernel_rfl)))⟩
  intro L6 u6 W6 hall hJ hG
  have hb := hJ.all rfl
  have hbel := Below.call hbel hb
  have hm9 := hm9.later hb
  have hm10 := hm10.later hb
  have hm11 := hm11.later hb
  have ht9 := there_later ht9 hb
  have ht10 := there_later ht10 hb
  have ht11 := there_later ht11 hb
  have HC58 := Lib.hid (show u6 12 = .bool true from hG 12 (by simp))
  have HC59 := Lib.hid (show u6 13 = .bool true from hG 13 (by simp))
  have HC73 := Lib.hid (show u6 27 = .bool true from hG 27 (by simp))
  have HC74 := Lib.hid (show u6 28 = .bool true from hG 28 (by simp))
  have HC75 := Lib.hid (show u6 29 = .bool true from hG 29 (by simp))
  have HC79 := Lib.hid (show u6 33 = .bool true from hG 33 (by simp))
  have HC80 := Lib.hid (show u6 34 = .bool true from hG 34 (by simp))
  have HC81 := Lib.hid (show u6 35 = .bool true from hG 35 (by simp))
  have HC85 := Lib.hid (show u6 39 = .bool false from hG 39 (by simp))
  have HC86 := Lib.hid (show u6 40 = .bool true from hG 40 (by simp))
  have HC87 := Lib.hid (show u6 41 = .bool true from hG 41 (by simp))
  have HC88 := Lib.hid (show u6 42 = .bool true from hG 42 (by simp))
  have HC89 := Lib.hid (show u6 43 = .bool true from hG 43 (by simp))
  have HC90 := Lib.hid (show u6 44 = .bool true from hG 44 (by simp))
  have HC8 := Lib.hid (show u6 45 = .bool true from hG 45 (by simp))
  have hbel0 := hbel
  clear hJ hG hall hb
  rw [HC8.out]
  go_wp2
  go_ret
  exact ⟨rfl, hbel⟩
set_option maxRecDepth 100000 in
theorem pointTimes_any {a : Option Addr} {na capa : Nat} {la : List UInt8} {b : Option Addr} {nb capb : Nat} {lb : List UInt8} {j : Int} {k : Int} (w : World) (ha : RdB w a na capa la) (hb : RdB w b nb capb lb) (_hwj : (Lit.int .i64 j).wf = true) (_hwk : (Lit.int .i64 k).wf = true) :
    Calls Try.prog 8 #[.slice a na capa, .slice b nb capb, .int .i64 j, .int .i64 k] w fun e w' => e = .returned (.bool true) ∧ Below w.heap.size w w' := by
  by_cases t0 : (100 : Int) < (na : Int)
  · have e0 : decide ((100 : Int) < (na : Int)) = true := decide_eq_true t0
    clear t0
    go_enter Try.func8, Try.ntmps8
    go_wp2_with (go_at_call 9; (with_reducible refine (law8awake_any _).mono ?_); rintro e w2 ⟨rfl, h2⟩)
    go_ret
    exact ⟨rfl, h2⟩
  by_cases t1 : (100 : Int) < (nb : Int)
  · have e0 : decide ((100 : Int) < (na : Int)) = false := decide_eq_false t0
    have e1 : decide ((100 : Int) < (nb : Int)) = true := decide_eq_true t1
    clear t0 t1
    go_enter Try.func8, Try.ntmps8
    go_wp2_with (go_at_call 9; (with_reducible refine (law8awake_any _).mono ?_); rintro e w2 ⟨rfl, h2⟩)
    go_ret
    exact ⟨rfl, h2⟩
  by_cases t2 : (j : Int) < 0
  · have e0 : decide ((100 : Int) < (na : Int)) = false := decide_eq_false t0
    have e1 : decide ((100 : Int) < (nb : Int)) = false := decide_eq_false t1
    have e2 : decide ((j : Int) < 0) = true := decide_eq_true t2
    clear t0 t1 t2
    go_enter Try.func8, Try.ntmps8
    go_wp2_with (go_at_call 9; (with_reducible refine (law8awake_any _).mono ?_); rintro e w2 ⟨rfl, h2⟩)
    go_ret
    exact ⟨rfl, h2⟩
  by_cases t3 : (k : Int) < 0
  · have e0 : decide ((100 : Int) < (na : Int)) = false := decide_eq_false t0
    have e1 : decide ((100 : Int) < (nb : Int)) = false := decide_eq_false t1
    have e2 : decide ((j : Int) < 0) = false := decide_eq_false t2
    have e3 : decide ((k : Int) < 0) = true := decide_eq_true t3
    clear t0 t1 t2 t3
    go_enter Try.func8, Try.ntmps8
    go_wp2_with (go_at_call 9; (with_reducible refine (law8awake_any _).mono ?_); rintro e w2 ⟨rfl, h2⟩)
    go_ret
    exact ⟨rfl, h2⟩
  by_cases t4 : (1000 : Int) < (j : Int)
  · have e0 : decide ((100 : Int) < (na : Int)) = false := decide_eq_false t0
    have e1 : decide ((100 : Int) < (nb : Int)) = false := decide_eq_false t1
    have e2 : decide ((j : Int) < 0) = false := decide_eq_false t2
    have e3 : decide ((k : Int) < 0) = false := decide_eq_false t3
    have e4 : decide ((1000 : Int) < (j : Int)) = true := decide_eq_true t4
    clear t0 t1 t2 t3 t4
    go_enter Try.func8, Try.ntmps8
    go_wp2_with (go_at_call 9; (with_reducible refine (law8awake_any _).mono ?_); rintro e w2 ⟨rfl, h2⟩)
    go_ret
    exact ⟨rfl, h2⟩
  by_cases t5 : (1000 : Int) < (k : Int)
  · have e0 : decide ((100 : Int) < (na : Int)) = false := decide_eq_false t0
    have e1 : decide ((100 : Int) < (nb : Int)) = false := decide_eq_false t1
    have e2 : decide ((j : Int) < 0) = false := decide_eq_false t2
    have e3 : decide ((k : Int) < 0) = false := decide_eq_false t3
    have e4 : decide ((1000 : Int) < (j : Int)) = false := decide_eq_false t4
    have e5 : decide ((1000 : Int) < (k : Int)) = true := decide_eq_true t5
    clear t0 t1 t2 t3 t4 t5
    go_enter Try.func8, Try.ntmps8
    go_wp2_with (go_at_call 9; (with_reducible refine (law8awake_any _).mono ?_); rintro e w2 ⟨rfl, h2⟩)
    go_ret
    exact ⟨rfl, h2⟩
  exact pointTimes_few w ha hb t0 t1 t2 t3 t4 t5
namespace pointTimesDone
theorem own : ownKnob Try.prog.godebug = none := by kernel_rfl
theorem laidOut : laidOutB Try.prog = true := by kernel_rfl
set_option maxRecDepth 100000 in
theorem lifted (os : Os) (started : os.Started) (H : Type) (enc : TypeId × Value → H) :
    ReturnsInHanded {} Try.checked os 8 .any (Rows.pointTimesSpec.pre6 enc Try.prog Try.f8 Rows.pointTimesRow.domain false) (Rows.pointTimesSpec.post enc Try.prog Try.f8 false true false false) := by
  refine returnsInHanded_of_change (C := Try.checked) own started (by kernel_rfl) Try.func8
    (ChangeSpec.witness6 (enc := enc) (C := Try.checked) false ⟨#[], #[.slice none 0 0, .slice none 0 0, .int .i64 0, .int .i64 0], []⟩ 8 (by kernel_rfl) (by kernel_rfl) (by kernel_rfl) (by kernel_rfl)) ?_
  intro W base args ds gs before hval0 hW hcnd _
  have hval : ∀ (j : Nat) t v, Try.f8.params[j]? = some t → args[j]? = some v → Value.okWide Try.prog W .any base t v := hval0
  have hW' := hW
  obtain ⟨p, q, hA0, hV, rfl, hfz, hnd⟩ := hW
  have hA : DataW.TrodAll enc Try.prog W 0 (fun _ => true) true Try.f8.params.toList args.toList ds p := hA0
  rw [Try.params8] at hA hval
  obtain ⟨v0, vs0, d0, ds0, p0, q0, hargs, rfl, rfl, h0, r0⟩ := trodAll_cons hA
  obtain ⟨v1, vs1, d1, ds1, p1, q1, rfl, rfl, rfl, h1, r1⟩ := trodAll_cons r0
  obtain ⟨v2, vs2, d2, ds2, p2, q2, rfl, rfl, rfl, h2, r2⟩ := trodAll_cons r1
  obtain ⟨v3, vs3, d3, ds3, p3, q3, rfl, rfl, rfl, h3, r3⟩ := trodAll_cons r2
  obtain ⟨rfl, rfl, rfl⟩ := trodAll_nil r3
  obtain rfl : args = #[v0, v1, v2, v3] := by cases args; simp_all
  obtain ⟨rfl, rfl⟩ := trodVars_none hV
  obtain ⟨a0, len0, cap0, rfl⟩ := okWide_slice Try.underlying22 (hval 0 22 v0 rfl rfl)
  have k0 := h0
  have lt0 : ∀ x ∈ p0, x.block < W.heap.size := by obtain ⟨m, hm⟩ := k0; exact DataW.trod_lt m _ _ _ hm
  obtain ⟨l0, w0⟩ : ∃ l, RdB W a0 len0 cap0 l := by
    obtain ⟨fuel, hf⟩ := h0
    rcases open_ints Try.underlying22 Try.underlying5 (by kernel_rfl) hf with ⟨hcs, _⟩ | ⟨x, l, c, zs, hcs, _, hl, hm, hz, _, hcell, hwz⟩
    · simp [Value.cells] at hcs
      obtain ⟨rfl, rfl, rfl⟩ := hcs
      exact ⟨[], RdB.nil _⟩
    · simp [Value.cells] at hcs
      obtain ⟨rfl, rfl, rfl⟩ := hcs
      exact RdB.of_ints (.inr ⟨_, rfl, hl, hm, by simpa using hz, hcell, hwz⟩)
  obtain ⟨a1, len1, cap1, rfl⟩ := okWide_slice Try.underlying22 (hval 1 22 v1 rfl rfl)
  have k1 := h1
  have lt1 : ∀ x ∈ p1, x.block < W.heap.size := by obtain ⟨m, hm⟩ := k1; exact DataW.trod_lt m _ _ _ hm
  obtain ⟨l1, w1⟩ : ∃ l, RdB W a1 len1 cap1 l := by
    obtain ⟨fuel, hf⟩ := h1
    rcases open_ints Try.underlying22 Try.underlying5 (by kernel_rfl) hf with ⟨hcs, _⟩ | ⟨x, l, c, zs, hcs, _, hl, hm, hz, _, hcell, hwz⟩
    · simp [Value.cells] at hcs
      obtain ⟨rfl, rfl, rfl⟩ := hcs
      exact ⟨[], RdB.nil _⟩
    · simp [Value.cells] at hcs
      obtain ⟨rfl, rfl, rfl⟩ := hcs
      exact RdB.of_ints (.inr ⟨_, rfl, hl, hm, by simpa using hz, hcell, hwz⟩)
  obtain ⟨a2, rfl, rfl, rfl, w2⟩ := open_int Try.underlying3 (hval 2 3 v2 rfl rfl) h2
  obtain ⟨a3, rfl, rfl, rfl, w3⟩ := open_int Try.underlying3 (hval 3 3 v3 rfl rfl) h3
  clear hA0 hval0
  refine (pointTimes_any W w0 w1 w2 w3).mono fun e W' ⟨he, bel⟩ => ?_
  subst he
  exact ⟨_, rfl, _, _, _, [], _, [], hW', trodAll_mk1 (shut_bool Try.underlying4 _), (trodAll_cons_mk (Below.trod laidOut (by kernel_rfl) (of_decide_eq_true (by kernel_rfl)) k0 bel lt0) (trodAll_cons_mk (Below.trod laidOut (by kernel_rfl) (of_decide_eq_true (by kernel_rfl)) k1 bel lt1) (trodAll_cons_mk (shut_int Try.underlying3 w2) (trodAll_cons_mk (shut_int Try.underlying3 w3) trodAll_mk0)))), rfl, bel.frame _, fun h => by cases h⟩
theorem over : Rows.pointTimesRow.holds Try.pinned (OpenSpec.ofChange Rows.pointTimesSpec) :=
  OpenClaim.holds_of_wide 8 Try.f8 rfl rfl rfl rfl rfl rfl rfl ⟨rfl, rfl, rfl, rfl, rfl⟩ rfl rfl rfl rfl rfl (by kernel_rfl) Try.func8 (by kernel_rfl)
    (of_decide_eq_true (by kernel_rfl)) (by unfold Func.isWrapper; first | (rw [if_pos (by decide +kernel)]; kernel_rfl) | (rw [if_neg (by decide +kernel)]; exact ⟨rfl, rfl⟩))
    (fun os started H enc _ => lifted os started H enc)
theorem proved : Rows.PointTimesSaid := over
#print axioms proved
end pointTimesDone

end Go.Proofs.Ytjchdhpijopikaa
