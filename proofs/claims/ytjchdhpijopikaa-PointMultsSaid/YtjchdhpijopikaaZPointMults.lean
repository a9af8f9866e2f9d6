/- Of chapter 8, PointMults: for every input the law returns true, and each argument reads behind the call as it read before. No condition. -/
import Derived.Test.YtjchdhpijopikaaZPBF
import Derived.ProofKit
import Derived.ShutString
import Derived.ChangeOld
namespace Go.Proofs.Ytjchdhpijopikaa
open Go Go.ChangeShapes Go.WideShapes Go.ChangeAt Go.RowKit
open Go.ChangeMaps (open_string shut_string)

set_option maxRecDepth 100000 in
set_option maxHeartbeats 8000000 in
theorem pointMults_few {a : Option Addr} {na capa : Nat} {la : List UInt8} {b : Option Addr} {nb capb : Nat} {lb : List UInt8} {k : Int} (w : World) (ha : RdB w a na capa la) (hb : RdB w b nb capb lb) (t0 : ¬ (100 : Int) < (na : Int)) (t1 : ¬ (100 : Int) < (nb : Int)) (t2 : ¬ (k : Int) < 0) (t3 : ¬ (2147483648 : Int) < (k : Int)) :
    Calls Try.prog 5 #[.slice a na capa, .slice b nb capb, .int .i64 k] w fun e w' => e = .returned (.bool true) ∧ Below w.heap.size w w' := by
  have d0 : decide ((100 : Int) < (na : Int)) = false := decide_eq_false t0
  have d1 : decide ((100 : Int) < (nb : Int)) = false := decide_eq_false t1
  have d2 : decide ((k : Int) < 0) = false := decide_eq_false t2
  have d3 : decide ((2147483648 : Int) < (k : Int)) = false := decide_eq_false t3
  obtain ⟨sa, hsa⟩ : ∃ s, wS la = s := ⟨_, rfl⟩; have HSa := Lib.hid hsa; clear hsa
  obtain ⟨sb, hsb⟩ : ∃ s, wS lb = s := ⟨_, rfl⟩; have HSb := Lib.hid hsb; clear hsb
  obtain ⟨P, hP⟩ : ∃ P, Cp.mul sa.val base = P := ⟨_, rfl⟩; have HP := Lib.hid hP; clear hP
  obtain ⟨Q, hQ⟩ : ∃ P, Cp.mul sb.val base = P := ⟨_, rfl⟩; have HQ := Lib.hid hQ; clear hQ
  obtain ⟨q, hqq⟩ : ∃ q, decide (P = Q) = q := ⟨_, rfl⟩
  have HQQ := Lib.hid hqq; clear hqq
  obtain ⟨kn, rfl⟩ : ∃ kn : Nat, k = kn := ⟨k.toNat, by omega⟩
  have HK : Hid (kn ≤ 2147483648) := Lib.hid (by omega)
  obtain ⟨c0, hc0⟩ : ∃ c, UInt8.ofNat (kn / 1) = c := ⟨_, rfl⟩; have HC0 : Hid (IntKind.u8.wrap ((kn : Int)) = (c0.toNat : Int)) := Lib.hid (by rw [← hc0]; exact byte_0 kn)
  obtain ⟨c1, hc1⟩ : ∃ c, UInt8.ofNat (kn / 256) = c := ⟨_, rfl⟩; have HC1 : Hid (IntKind.u8.wrap ((kn : Int) / 256) = (c1.toNat : Int)) := Lib.hid (by rw [← hc1]; exact byte_k kn 256)
  obtain ⟨c2, hc2⟩ : ∃ c, UInt8.ofNat (kn / 65536) = c := ⟨_, rfl⟩; have HC2 : Hid (IntKind.u8.wrap ((kn : Int) / 65536) = (c2.toNat : Int)) := Lib.hid (by rw [← hc2]; exact byte_k kn 65536)
  obtain ⟨c3, hc3⟩ : ∃ c, UInt8.ofNat (kn / 16777216) = c := ⟨_, rfl⟩; have HC3 : Hid (IntKind.u8.wrap ((kn : Int) / 16777216) = (c3.toNat : Int)) := Lib.hid (by rw [← hc3]; exact byte_k kn 16777216)
  have HW : Hid (wS [c0, c1, c2, c3] = fn kn) := Lib.hid (by rw [← hc0, ← hc1, ← hc2, ← hc3]; exact wide_four HK.out)
  clear hc0 hc1 hc2 hc3
  clear t0 t1 t2 t3
  go_enter Try.func5, Try.ntmps5
  have hbel : Below w.heap.size w w := Below.refl _ _
  have hbel0 := hbel
  go_upto_region 0 with fail
  refine wp_region_turn (fun u => (.slice a na capa :: .slice b nb capb :: .int .i64 (kn : Nat) :: undef :: undef :: undef :: u 0 :: undef :: undef :: undef :: undef :: undef :: undef :: undef :: undef :: undef :: undef :: undef :: undef :: undef :: undef :: undef :: undef :: undef :: undef :: undef :: undef :: undef :: undef :: undef :: undef :: undef :: undef :: undef :: undef :: undef :: undef :: undef :: undef :: undef :: undef :: undef :: undef :: undef :: undef :: undef :: undef :: undef :: undef :: undef :: undef :: undef :: undef :: undef :: undef :: undef :: undef :: undef :: undef :: undef :: undef :: undef :: undef :: undef :: undef :: undef :: undef :: undef :: undef :: undef :: undef :: undef :: undef :: undef :: undef :: undef :: undef :: undef :: undef :: undef :: undef :: undef :: undef :: undef :: undef :: undef :: undef :: undef :: undef :: undef :: undef :: undef :: undef :: undef :: undef :: undef :: undef :: undef :: []).toArray) (Holds [.oth (fun v => v = .bool false)] w) (Keep [.oth (fun v => v = .bool false)] w) (fun _ => undef) ?_ (by rfl) Keep.start (holds_soft (by kernel_rfl)) ?_ ?_
  · intro u i v h
    rcases i with _ | i
    all_goals first | (simp [Act.put, putV]; done) | (exfalso; simp at h; omega)
  · intro hs
    refine ⟨?_, trivial⟩
    · exact step_pureO hs (wants_none rfl) rfl fun L u W hG hdep => ⟨_, run_assign rfl, rfl⟩
  intro L0 u0 W0 hall hJ hG
  have hb := hJ.all rfl
  have hbel := Below.call hbel hb
  have HC6 := Lib.hid (show u0 0 = .bool false from hG 0 (by simp))
  have hbel0 := hbel
  clear hJ hG hall hb
  go_upto_region 1 with fail
  refine wp_region_turn (fun u => (.slice a na capa :: .slice b nb capb :: .int .i64 (kn : Nat) :: undef :: undef :: undef :: u0 0 :: undef :: undef :: undef :: undef :: undef :: u 0 :: u 1 :: u 2 :: u 3 :: u 4 :: u 5 :: u 6 :: u 7 :: u 8 :: u 9 :: u 10 :: u 11 :: u 12 :: u 13 :: u 14 :: u 15 :: undef :: undef :: undef :: undef :: undef :: undef :: undef :: undef :: undef :: undef :: undef :: undef :: undef :: undef :: undef :: undef :: undef :: undef :: undef :: undef :: undef :: undef :: undef :: undef :: undef :: undef :: undef :: undef :: undef :: undef :: undef :: undef :: undef :: undef :: undef :: undef :: undef :: undef :: undef :: undef :: undef :: undef :: undef :: undef :: undef :: undef :: undef :: undef :: undef :: undef :: undef :: undef :: undef :: undef :: undef :: undef :: undef :: undef :: undef :: undef :: undef :: undef :: undef :: undef :: undef :: undef :: undef :: undef :: undef :: undef :: []).toArray) (Holds [.oth (fun v => v = .slice a na capa), .oth (fun v => v = .int .i64 (na : Nat)), .oth (fun v => v = .bool false), .oth (fun v => v = .bool false), .oth (fun v => v = .slice b nb capb), .oth (fun v => v = .int .i64 (nb : Nat)), .oth (fun v => v = .bool false), .oth (fun v => v = .bool false), .oth (fun v => v = .bool false), .oth (fun v => v = .int .i64 (kn : Nat)), .oth (fun v => v = .bool false), .oth (fun v => v = .bool false), .oth (fun v => v = .bool false), .oth (fun v => v = .int .i64 (kn : Nat)), .oth (fun v => v = .bool false), .oth (fun v => v = .bool false)] W0) (Keep [.oth (fun v => v = .slice a na capa), .oth (fun v => v = .int .i64 (na : Nat)), .oth (fun v => v = .bool false), .oth (fun v => v = .bool false), .oth (fun v => v = .slice b nb capb), .oth (fun v => v = .int .i64 (nb : Nat)), .oth (fun v => v = .bool false), .oth (fun v => v = .bool false), .oth (fun v => v = .bool false), .oth (fun v => v = .int .i64 (kn : Nat)), .oth (fun v => v = .bool false), .oth (fun v => v = .bool false), .oth (fun v => v = .bool false), .oth (fun v => v = .int .i64 (kn : Nat)), .oth (fun v => v = .bool false), .oth (fun v => v = .bool false)] W0) (fun _ => undef) ?_ (by rfl) Keep.start (holds_soft (by kernel_rfl)) ?_ ?_
  · intro u i v h
    rcases i with _ | _ | _ | _ | _ | _ | _ | _ | _ | _ | _ | _ | _ | _ | _ | _ | i
    all_goals first | (simp [Act.put, putV]; done) | (exfalso; simp at h; omega)
  · intro hs
    refine ⟨?_, ?_, ?_, ?_, ?_, ?_, ?_, ?_, ?_, ?_, ?_, ?_, ?_, ?_, ?_, ?_, trivial⟩
    · exact step_pureO hs (wants_none rfl) rfl fun L u W hG hdep => ⟨_, run_move rfl, rfl⟩
    · refine step_pureO hs (wants_none rfl) rfl fun L u W hG hdep => ⟨_, ?_, rfl⟩
      have e0 := (show u 0 = .slice a na capa from hG 0 (hdep 0 (by kernel_rfl)))
      go_simp
    · refine step_pureO hs (wants_none rfl) rfl fun L u W hG hdep => ⟨_, ?_, rfl⟩
      have e0 := (show u 1 = .int .i64 (na : Nat) from hG 1 (hdep 1 (by kernel_rfl)))
      go_simp
      try simp [bne]
    · exact step_pureO hs (wants_none rfl) rfl fun L u W hG hdep => ⟨_, run_move rfl, (show u 2 = .bool false from hG 2 (hdep 2 (by kernel_rfl)))⟩
    · exact step_pureO hs (wants_on 3 rfl rfl (by kernel_rfl) (fun _ => rfl)) rfl fun L u W hG hdep => ⟨_, run_move rfl, rfl⟩
    · refine step_pureO hs (wants_on 3 rfl rfl (by kernel_rfl) (fun _ => rfl)) rfl fun L u W hG hdep => ⟨_, ?_, rfl⟩
      have e0 := (show u 4 = .slice b nb capb from hG 4 (hdep 4 (by kernel_rfl)))
      go_simp
    · refine step_pureO hs (wants_on 3 rfl rfl (by kernel_rfl) (fun _ => rfl)) rfl fun L u W hG hdep => ⟨_, ?_, rfl⟩
      have e0 := (show u 5 = .int .i64 (nb : Nat) from hG 5 (hdep 5 (by kernel_rfl)))
      go_simp
      try simp [bne]
    · exact step_pick false hs (wants_none rfl) rfl rfl (fun L u W hG hdep => (show u 3 = .bool false from hG 3 (hdep 3 (by kernel_rfl)))) (fun L u W hG hdep => (show u 6 = .bool false from hG 6 (hdep 6 (by kernel_rfl))))
    · exact step_pureO hs (wants_none rfl) rfl fun L u W hG hdep => ⟨_, run_move rfl, (show u 7 = .bool false from hG 7 (hdep 7 (by kernel_rfl)))⟩
    · exact step_pureO hs (wants_on 8 rfl rfl (by kernel_rfl) (fun _ => rfl)) rfl fun L u W hG hdep => ⟨_, run_move rfl, rfl⟩
    · refine step_pureO hs (wants_on 8 rfl rfl (by kernel_rfl) (fun _ => rfl)) rfl fun L u W hG hdep => ⟨_, ?_, rfl⟩
      have e0 := (show u 9 = .int .i64 (kn : Nat) from hG 9 (hdep 9 (by kernel_rfl)))
      go_simp
      try simp [bne]
    · exact step_pick false hs (wants_none rfl) rfl rfl (fun L u W hG hdep => (show u 8 = .bool false from hG 8 (hdep 8 (by kernel_rfl)))) (fun L u W hG hdep => (show u 10 = .bool false from hG 10 (hdep 10 (by kernel_rfl))))
    · exact step_pureO hs (wants_none rfl) rfl fun L u W hG hdep => ⟨_, run_move rfl, (show u 11 = .bool false from hG 11 (hdep 11 (by kernel_rfl)))⟩
    · exact step_pureO hs (wants_on 12 rfl rfl (by kernel_rfl) (fun _ => rfl)) rfl fun L u W hG hdep => ⟨_, run_move rfl, rfl⟩
    · refine step_pureO hs (wants_on 12 rfl rfl (by kernel_rfl) (fun _ => rfl)) rfl fun L u W hG hdep => ⟨_, ?_, rfl⟩
      have e0 := (show u 13 = .int .i64 (kn : Nat) from hG 13 (hdep 13 (by kernel_rfl)))
      go_simp
      try simp [bne]
    · exact step_pick false hs (wants_none rfl) rfl rfl (fun L u W hG hdep => (show u 12 = .bool false from hG 12 (hdep 12 (by kernel_rfl)))) (fun L u W hG hdep => (show u 14 = .bool false from hG 14 (hdep 14 (by kernel_rfl))))
  intro L1 u1 W1 hall hJ hG
  have hb := hJ.all rfl
  have hbel := Below.call hbel hb
  have HC14 := Lib.hid (show u1 2 = .bool false from hG 2 (by simp))
  have HC15 := Lib.hid (show u1 3 = .bool false from hG 3 (by simp))
  have HC18 := Lib.hid (show u1 6 = .bool false from hG 6 (by simp))
  have HC19 := Lib.hid (show u1 7 = .bool false from hG 7 (by simp))
  have HC20 := Lib.hid (show u1 8 = .bool false from hG 8 (by simp))
  have HC22 := Lib.hid (show u1 10 = .bool false from hG 10 (by simp))
  have HC23 := Lib.hid (show u1 11 = .bool false from hG 11 (by simp))
  have HC24 := Lib.hid (show u1 12 = .bool false from hG 12 (by simp))
  have HC26 := Lib.hid (show u1 14 = .bool false from hG 14 (by simp))
  have HC27 := Lib.hid (show u1 15 = .bool false from hG 15 (by simp))
  have hbel0 := hbel
  clear hJ hG hall hb
  have hx : u1 15 = .bool false := HC27.out
  go_wp2_with fail
  rw [hx]
  clear hx
  clear d0 d1 d2 d3
  go_upto_region 3 with fail
  refine wp_region_turn (fun u => (.slice a na capa :: .slice b nb capb :: .int .i64 (kn : Nat) :: undef :: undef :: undef :: u0 0 :: u 4 :: undef :: undef :: undef :: undef :: u1 0 :: u1 1 :: u1 2 :: u1 3 :: u1 4 :: u1 5 :: u1 6 :: u1 7 :: u1 8 :: u1 9 :: u1 10 :: u1 11 :: u1 12 :: u1 13 :: u1 14 :: .bool false :: undef :: u 0 :: u 1 :: u 2 :: u 3 :: undef :: undef :: undef :: undef :: undef :: undef :: undef :: undef :: undef :: undef :: undef :: undef :: undef :: undef :: undef :: undef :: undef :: undef :: undef :: undef :: undef :: undef :: undef :: undef :: undef :: undef :: undef :: undef :: undef :: undef :: undef :: undef :: undef :: undef :: undef :: undef :: undef :: undef :: undef :: undef :: undef :: undef :: undef :: undef :: undef :: undef :: undef :: undef :: undef :: undef :: undef :: undef :: undef :: undef :: undef :: undef :: undef :: undef :: undef :: undef :: undef :: undef :: undef :: undef :: undef :: []).toArray) (Holds [.val rP [base], .oth (fun v => v = .slice a na capa), .val rS [sa], .val rP [P], .new 20, .st 4 rP [P]] W1) (Keep [.val rP [base], .oth (fun v => v = .slice a na capa), .val rS [sa], .val rP [P], .new 20, .st 4 rP [P]] W1) (fun _ => undef) ?_ (by rfl) Keep.start (holds_soft (by kernel_rfl)) ?_ ?_
  · intro u i v h
    rcases i with _ | _ | _ | _ | _ | _ | i
    all_goals first | (simp [Act.put, putV]; done) | (exfalso; simp at h; omega)
  · intro hs
    refine ⟨?_, ?_, ?_, ?_, ?_, ?_, trivial⟩
    · refine step_call hs (wants_none rfl) rfl fun L u W hJ hG hL hdep K hK => ?_
      go_simp
      go_at_call 16
      (with_reducible refine (cBase _).mono ?_); rintro e w1 ⟨r, rfl, hr, hb⟩
      have hk := hK.out _ _ hr hb
      exact hk
    · exact step_pureO hs (wants_none rfl) rfl fun L u W hG hdep => ⟨_, run_move rfl, rfl⟩
    · refine step_call hs (wants_none rfl) rfl fun L u W hJ hG hL hdep K hK => ?_
      have x0 := (show u 1 = .slice a na capa from hG 1 (hdep 1 (by kernel_rfl)))
      have hRB0 := (ha.below hbel).below (hJ.all rfl)
      go_simp
      go_at_call 18
      (with_reducible refine (cWide HSa.out hRB0).mono ?_); rintro e w1 ⟨r, rfl, hr, hb⟩
      have hk := hK.out _ _ hr hb
      simp only [x0] at hk
      exact hk
    · refine step_call hs (wants_none rfl) rfl fun L u W hJ hG hL hdep K hK => ?_
      have a0 := (show IsFs rP (u 0) [base] from hG 0 (hdep 0 (by kernel_rfl)))
      have a1 := (show IsFs rS (u 2) [sa] from hG 2 (hdep 2 (by kernel_rfl)))
      go_simp
      go_at_call 17
      (with_reducible refine (cMult HP.out a0 a1 _).mono ?_); rintro e w1 ⟨r, rfl, hr, hb⟩
      have hk := hK.out _ _ hr hb
      exact hk
    · exact step_alloc hs (wants_none rfl) rfl rfl (by omega) rfl allocP
    · exact step_store 4 hs (by kernel_rfl) (wants_none rfl) rfl rfl rfl (by kernel_rfl) (by kernel_rfl) (by kernel_rfl) (by kernel_rfl) (fun _ => rfl) (gives_op 3 rfl (by kernel_rfl) (fun _ => rfl)) tyP rfl
  intro L3 u3 W3 hall hJ hG
  obtain ⟨q7, e7, hq7, _, ht7⟩ := (show ∃ g, u3 4 = .pointer (some ⟨g, 0, none⟩) ∧ W1.heap.size ≤ g ∧ 0 < 20 ∧ W3.there g 0 20 from hG 4 (by simp))
  have hm7 : HasFs rP W3 q7 0 [P] := by
    obtain ⟨g, e, _, h⟩ := (show ∃ g, u3 4 = .pointer (some ⟨g, 0, none⟩) ∧ W1.heap.size ≤ g ∧ HasFs rP W3 g 0 [P] from hG 5 (by simp))
    rw [e7] at e; cases e; exact h
  have hq7 : w.heap.size ≤ q7 := by have := hbel0.size; omega
  have E7 := Lib.hid e7; clear e7
  have hb := hJ.all rfl
  have hbel := Below.call hbel hb
  have hbel0 := hbel
  clear hJ hG hall hb
  go_upto_region 4 with fail
  refine wp_region_turn (fun u => (.slice a na capa :: .slice b nb capb :: .int .i64 (kn : Nat) :: undef :: undef :: undef :: u0 0 :: u3 4 :: u 4 :: undef :: undef :: undef :: u1 0 :: u1 1 :: u1 2 :: u1 3 :: u1 4 :: u1 5 :: u1 6 :: u1 7 :: u1 8 :: u1 9 :: u1 10 :: u1 11 :: u1 12 :: u1 13 :: u1 14 :: .bool false :: undef :: u3 0 :: u3 1 :: u3 2 :: u3 3 :: u 0 :: u 1 :: u 2 :: u 3 :: undef :: undef :: undef :: undef :: undef :: undef :: undef :: undef :: undef :: undef :: undef :: undef :: undef :: undef :: undef :: undef :: undef :: undef :: undef :: undef :: undef :: undef :: undef :: undef :: undef :: undef :: undef :: undef :: undef :: undef :: undef :: undef :: undef :: undef :: undef :: undef :: undef :: undef :: undef :: undef :: undef :: undef :: undef :: undef :: undef :: undef :: undef :: undef :: undef :: undef :: undef :: undef :: undef :: undef :: undef :: undef :: undef :: undef :: undef :: undef :: undef :: []).toArray) (Holds [.val rQ [base], .oth (fun v => v = .slice a na capa), .val rC [sa], .val rQ [P], .new 48, .st 4 rQ [P]] W3) (Keep [.val rQ [base], .oth (fun v => v = .slice a na capa), .val rC [sa], .val rQ [P], .new 48, .st 4 rQ [P]] W3) (fun _ => undef) ?_ (by rfl) Keep.start (holds_soft (by kernel_rfl)) ?_ ?_
  · intro u i v h
    rcases i with _ | _ | _ | _ | _ | _ | i
    all_goals first | (simp [Act.put, putV]; done) | (exfalso; simp at h; omega)
  · intro hs
    refine ⟨?_, ?_, ?_, ?_, ?_, ?_, trivial⟩
    · refine step_call hs (wants_none rfl) rfl fun L u W hJ hG hL hdep K hK => ?_
      go_simp
      go_at_call 22
      (with_reducible refine (kBase _).mono ?_); rintro e w1 ⟨r, rfl, hr, hb⟩
      have hk := hK.out _ _ hr hb
      exact hk
    · exact step_pureO hs (wants_none rfl) rfl fun L u W hG hdep => ⟨_, run_move rfl, rfl⟩
    · refine step_call hs (wants_none rfl) rfl fun L u W hJ hG hL hdep K hK => ?_
      have x0 := (show u 1 = .slice a na capa from hG 1 (hdep 1 (by kernel_rfl)))
      have hRB0 := (ha.below hbel).below (hJ.all rfl)
      go_simp
      go_at_call 24
      (with_reducible refine (kWide HSa.out hRB0).mono ?_); rintro e w1 ⟨r, rfl, hr, hb⟩
      have hk := hK.out _ _ hr hb
      simp only [x0] at hk
      exact hk
    · refine step_call hs (wants_none rfl) rfl fun L u W hJ hG hL hdep K hK => ?_
      have a0 := (show IsFs rQ (u 0) [base] from hG 0 (hdep 0 (by kernel_rfl)))
      have a1 := (show IsFs rC (u 2) [sa] from hG 2 (hdep 2 (by kernel_rfl)))
      go_simp
      go_at_call 23
      (with_reducible refine (kMult HP.out a0 a1 _).mono ?_); rintro e w1 ⟨r, rfl, hr, hb⟩
      have hk := hK.out _ _ hr hb
      exact hk
    · exact step_alloc hs (wants_none rfl) rfl rfl (by omega) rfl allocPt
    · exact step_store 4 hs (by kernel_rfl) (wants_none rfl) rfl rfl rfl (by kernel_rfl) (by kernel_rfl) (by kernel_rfl) (by kernel_rfl) (fun _ => rfl) (gives_op 3 rfl (by kernel_rfl) (fun _ => rfl)) tyPt rfl
  intro L4 u4 W4 hall hJ hG
  obtain ⟨q8, e8, hq8, _, ht8⟩ := (show ∃ g, u4 4 = .pointer (some ⟨g, 0, none⟩) ∧ W3.heap.size ≤ g ∧ 0 < 48 ∧ W4.there g 0 48 from hG 4 (by simp))
  have hm8 : HasFs rQ W4 q8 0 [P] := by
    obtain ⟨g, e, _, h⟩ := (show ∃ g, u4 4 = .pointer (some ⟨g, 0, none⟩) ∧ W3.heap.size ≤ g ∧ HasFs rQ W4 g 0 [P] from hG 5 (by simp))
    rw [e8] at e; cases e; exact h
  have HD8_q7 := Lib.hid (show q7 ≠ q8 by have := there_lt ht7 (by omega); omega)
  have hq8 : w.heap.size ≤ q8 := by have := hbel0.size; omega
  have E8 := Lib.hid e8; clear e8
  have hb := hJ.all rfl
  have hbel := Below.call hbel hb
  have hm7 := hm7.later hb
  have ht7 := there_later ht7 hb
  have hbel0 := hbel
  clear hJ hG hall hb
  go_upto_region 5 with fail
  refine wp_region_turn (fun u => (.slice a na capa :: .slice b nb capb :: .int .i64 (kn : Nat) :: undef :: undef :: undef :: u0 0 :: u3 4 :: u4 4 :: u 4 :: undef :: undef :: u1 0 :: u1 1 :: u1 2 :: u1 3 :: u1 4 :: u1 5 :: u1 6 :: u1 7 :: u1 8 :: u1 9 :: u1 10 :: u1 11 :: u1 12 :: u1 13 :: u1 14 :: .bool false :: undef :: u3 0 :: u3 1 :: u3 2 :: u3 3 :: u4 0 :: u4 1 :: u4 2 :: u4 3 :: u 0 :: u 1 :: u 2 :: u 3 :: undef :: undef :: undef :: undef :: undef :: undef :: undef :: undef :: undef :: undef :: undef :: undef :: undef :: undef :: undef :: undef :: undef :: undef :: undef :: undef :: undef :: undef :: undef :: undef :: undef :: undef :: undef :: undef :: undef :: undef :: undef :: undef :: undef :: undef :: undef :: undef :: undef :: undef :: undef :: undef :: undef :: undef :: undef :: undef :: undef :: undef :: undef :: undef :: undef :: undef :: undef :: undef :: undef :: undef :: undef :: undef :: undef :: []).toArray) (Holds [.val rP [base], .oth (fun v => v = .slice b nb capb), .val rS [sb], .val rP [Q], .new 20, .st 4 rP [Q]] W4) (Keep [.val rP [base], .oth (fun v => v = .slice b nb capb), .val rS [sb], .val rP [Q], .new 20, .st 4 rP [Q]] W4) (fun _ => undef) ?_ (by rfl) Keep.start (holds_soft (by kernel_rfl)) ?_ ?_
  · intro u i v h
    rcases i with _ | _ | _ | _ | _ | _ | i
    all_goals first | (simp [Act.put, putV]; done) | (exfalso; simp at h; omega)
  · intro hs
    refine ⟨?_, ?_, ?_, ?_, ?_, ?_, trivial⟩
    · refine step_call hs (wants_none rfl) rfl fun L u W hJ hG hL hdep K hK => ?_
      go_simp
      go_at_call 16
      (with_reducible refine (cBase _).mono ?_); rintro e w1 ⟨r, rfl, hr, hb⟩
      have hk := hK.out _ _ hr hb
      exact hk
    · exact step_pureO hs (wants_none rfl) rfl fun L u W hG hdep => ⟨_, run_move rfl, rfl⟩
    · refine step_call hs (wants_none rfl) rfl fun L u W hJ hG hL hdep K hK => ?_
      have x0 := (show u 1 = .slice b nb capb from hG 1 (hdep 1 (by kernel_rfl)))
      have hRB0 := (hb.below hbel).below (hJ.all rfl)
      go_simp
      go_at_call 18
      (with_reducible refine (cWide HSb.out hRB0).mono ?_); rintro e w1 ⟨r, rfl, hr, hb⟩
      have hk := hK.out _ _ hr hb
      simp only [x0] at hk
      exact hk
    · refine step_call hs (wants_none rfl) rfl fun L u W hJ hG hL hdep K hK => ?_
      have a0 := (show IsFs rP (u 0) [base] from hG 0 (hdep 0 (by kernel_rfl)))
      have a1 := (show IsFs rS (u 2) [sb] from hG 2 (hdep 2 (by kernel_rfl)))
      go_simp
      go_at_call 17
      (with_reducible refine (cMult HQ.out a0 a1 _).mono ?_); rintro e w1 ⟨r, rfl, hr, hb⟩
      have hk := hK.out _ _ hr hb
      exact hk
    · exact step_alloc hs (wants_none rfl) rfl rfl (by omega) rfl allocP
    · exact step_store 4 hs (by kernel_rfl) (wants_none rfl) rfl rfl rfl (by kernel_rfl) (by kernel_rfl) (by kernel_rfl) (by kernel_rfl) (fun _ => rfl) (gives_op 3 rfl (by kernel_rfl) (fun _ => rfl)) tyP rfl
  intro L5 u5 W5 hall hJ hG
  obtain ⟨q9, e9, hq9, _, ht9⟩ := (show ∃ g, u5 4 = .pointer (some ⟨g, 0, none⟩) ∧ W4.heap.size ≤ g ∧ 0 < 20 ∧ W5.there g 0 20 from hG 4 (by simp))
  have hm9 : HasFs rP W5 q9 0 [Q] := by
    obtain ⟨g, e, _, h⟩ := (show ∃ g, u5 4 = .pointer (some ⟨g, 0, none⟩) ∧ W4.heap.size ≤ g ∧ HasFs rP W5 g 0 [Q] from hG 5 (by simp))
    rw [e9] at e; cases e; exact h
  have HD9_q7 := Lib.hid (show q7 ≠ q9 by have := there_lt ht7 (by omega); omega)
  have HD9_q8 := Lib.hid (show q8 ≠ q9 by have := there_lt ht8 (by omega); omega)
  have hq9 : w.heap.size ≤ q9 := by have := hbel0.size; omega
  have E9 := Lib.hid e9; clear e9
  have hb := hJ.all rfl
  have hbel := Below.call hbel hb
  have hm7 := hm7.later hb
  have hm8 := hm8.later hb
  have ht7 := there_later ht7 hb
  have ht8 := there_later ht8 hb
  have hbel0 := hbel
  clear hJ hG hall hb
  go_upto_region 6 with fail
  refine wp_region_turn (fun u => (.slice a na capa :: .slice b nb capb :: .int .i64 (kn : Nat) :: undef :: undef :: undef :: u0 0 :: u3 4 :: u4 4 :: u5 4 :: u 4 :: undef :: u1 0 :: u1 1 :: u1 2 :: u1 3 :: u1 4 :: u1 5 :: u1 6 :: u1 7 :: u1 8 :: u1 9 :: u1 10 :: u1 11 :: u1 12 :: u1 13 :: u1 14 :: .bool false :: undef :: u3 0 :: u3 1 :: u3 2 :: u3 3 :: u4 0 :: u4 1 :: u4 2 :: u4 3 :: u5 0 :: u5 1 :: u5 2 :: u5 3 :: u 0 :: u 1 :: u 2 :: u 3 :: undef :: undef :: undef :: undef :: undef :: undef :: undef :: undef :: undef :: undef :: undef :: undef :: undef :: undef :: undef :: undef :: undef :: undef :: undef :: undef :: undef :: undef :: undef :: undef :: undef :: undef :: undef :: undef :: undef :: undef :: undef :: undef :: undef :: undef :: undef :: undef :: undef :: undef :: undef :: undef :: undef :: undef :: undef :: undef :: undef :: undef :: undef :: undef :: undef :: undef :: undef :: undef :: undef :: []).toArray) (Holds [.val rQ [base], .oth (fun v => v = .slice b nb capb), .val rC [sb], .val rQ [Q], .new 48, .st 4 rQ [Q]] W5) (Keep [.val rQ [base], .oth (fun v => v = .slice b nb capb), .val rC [sb], .val rQ [Q], .new 48, .st 4 rQ [Q]] W5) (fun _ => undef) ?_ (by rfl) Keep.start (holds_soft (by kernel_rfl)) ?_ ?_
  · intro u i v h
    rcases i with _ | _ | _ | _ | _ | _ | i
    all_goals first | (simp [Act.put, putV]; done) | (exfalso; simp at h; omega)
  · intro hs
    refine ⟨?_, ?_, ?_, ?_, ?_, ?_, trivial⟩
    · refine step_call hs (wants_none rfl) rfl fun L u W hJ hG hL hdep K hK => ?_
      go_simp
      go_at_call 22
      (with_reducible refine (kBase _).mono ?_); rintro e w1 ⟨r, rfl, hr, hb⟩
      have hk := hK.out _ _ hr hb
      exact hk
    · exact step_pureO hs (wants_none rfl) rfl fun L u W hG hdep => ⟨_, run_move rfl, rfl⟩
    · refine step_call hs (wants_none rfl) rfl fun L u W hJ hG hL hdep K hK => ?_
      have x0 := (show u 1 = .slice b nb capb from hG 1 (hdep 1 (by kernel_rfl)))
      have hRB0 := (hb.below hbel).below (hJ.all rfl)
      go_simp
      go_at_call 24
      (with_reducible refine (kWide HSb.out hRB0).mono ?_); rintro e w1 ⟨r, rfl, hr, hb⟩
      have hk := hK.out _ _ hr hb
      simp only [x0] at hk
      exact hk
    · refine step_call hs (wants_none rfl) rfl fun L u W hJ hG hL hdep K hK => ?_
      have a0 := (show IsFs rQ (u 0) [base] from hG 0 (hdep 0 (by kernel_rfl)))
      have a1 := (show IsFs rC (u 2) [sb] from hG 2 (hdep 2 (by kernel_rfl)))
      go_simp
      go_at_call 23
      (with_reducible refine (kMult HQ.out a0 a1 _).mono ?_); rintro e w1 ⟨r, rfl, hr, hb⟩
      have hk := hK.out _ _ hr hb
      exact hk
    · exact step_alloc hs (wants_none rfl) rfl rfl (by omega) rfl allocPt
    · exact step_store 4 hs (by kernel_rfl) (wants_none rfl) rfl rfl rfl (by kernel_rfl) (by kernel_rfl) (by kernel_rfl) (by kernel_rfl) (fun _ => rfl) (gives_op 3 rfl (by kernel_rfl) (fun _ => rfl)) tyPt rfl
  intro L6 u6 W6 hall hJ hG
  obtain ⟨q10, e10, hq10, _, ht10⟩ := (show ∃ g, u6 4 = .pointer (some ⟨g, 0, none⟩) ∧ W5.heap.size ≤ g ∧ 0 < 48 ∧ W6.there g 0 48 from hG 4 (by simp))
  have hm10 : HasFs rQ W6 q10 0 [Q] := by
    obtain ⟨g, e, _, h⟩ := (show ∃ g, u6 4 = .pointer (some ⟨g, 0, none⟩) ∧ W5.heap.size ≤ g ∧ HasFs rQ W6 g 0 [Q] from hG 5 (by simp))
    rw [e10] at e; cases e; exact h
  have HD10_q7 := Lib.hid (show q7 ≠ q10 by have := there_lt ht7 (by omega); omega)
  have HD10_q8 := Lib.hid (show q8 ≠ q10 by have := there_lt ht8 (by omega); omega)
  have HD10_q9 := Lib.hid (show q9 ≠ q10 by have := there_lt ht9 (by omega); omega)
  have hq10 : w.heap.size ≤ q10 := by have := hbel0.size; omega
  have E10 := Lib.hid e10; clear e10
  have hb := hJ.all rfl
  have hbel := Below.call hbel hb
  have hm7 := hm7.later hb
  have hm8 := hm8.later hb
  have hm9 := hm9.later hb
  have ht7 := there_later ht7 hb
  have ht8 := there_later ht8 hb
  have ht9 := there_later ht9 hb
  have hbel0 := hbel
  clear hJ hG hall hb
  go_upto_region 7 with fail
  refine wp_region_turn (fun u => (.slice a na capa :: .slice b nb capb :: .int .i64 (kn : Nat) :: undef :: undef :: undef :: u0 0 :: u3 4 :: u4 4 :: u5 4 :: u6 4 :: u 12 :: u1 0 :: u1 1 :: u1 2 :: u1 3 :: u1 4 :: u1 5 :: u1 6 :: u1 7 :: u1 8 :: u1 9 :: u1 10 :: u1 11 :: u1 12 :: u1 13 :: u1 14 :: .bool false :: undef :: u3 0 :: u3 1 :: u3 2 :: u3 3 :: u4 0 :: u4 1 :: u4 2 :: u4 3 :: u5 0 :: u5 1 :: u5 2 :: u5 3 :: u6 0 :: u6 1 :: u6 2 :: u6 3 :: u 0 :: u 1 :: u 2 :: u 3 :: u 4 :: u 5 :: u 6 :: u 7 :: u 8 :: u 9 :: u 10 :: u 11 :: undef :: undef :: undef :: undef :: undef :: undef :: undef :: undef :: undef :: undef :: undef :: undef :: undef :: undef :: undef :: undef :: undef :: undef :: undef :: undef :: undef :: undef :: undef :: undef :: undef :: undef :: undef :: undef :: undef :: undef :: undef :: undef :: undef :: undef :: undef :: undef :: undef :: undef :: undef :: undef :: undef :: []).toArray) (Holds [.oth (fun v => v = .int .i64 (kn : Nat)), .oth (fun v => v = .int .u8 (c0.toNat : Int)), .oth (fun v => v = .int .i64 (kn : Nat)), .oth (fun v => v = .int .i64 ((kn : Int) / 256)), .oth (fun v => v = .int .u8 (c1.toNat : Int)), .oth (fun v => v = .int .i64 (kn : Nat)), .oth (fun v => v = .int .i64 ((kn : Int) / 65536)), .oth (fun v => v = .int .u8 (c2.toNat : Int)), .oth (fun v => v = .int .i64 (kn : Nat)), .oth (fun v => v = .int .i64 ((kn : Int) / 16777216)), .oth (fun v => v = .int .u8 (c3.toNat : Int)), .rd [c0, c1, c2, c3], .rd ([c0, c1, c2, c3])] W6) (Keep [.oth (fun v => v = .int .i64 (kn : Nat)), .oth (fun v => v = .int .u8 (c0.toNat : Int)), .oth (fun v => v = .int .i64 (kn : Nat)), .oth (fun v => v = .int .i64 ((kn : Int) / 256)), .oth (fun v => v = .int .u8 (c1.toNat : Int)), .oth (fun v => v = .int .i64 (kn : Nat)), .oth (fun v => v = .int .i64 ((kn : Int) / 65536)), .oth (fun v => v = .int .u8 (c2.toNat : Int)), .oth (fun v => v = .int .i64 (kn : Nat)), .oth (fun v => v = .int .i64 ((kn : Int) / 16777216)), .oth (fun v => v = .int .u8 (c3.toNat : Int)), .rd [c0, c1, c2, c3], .rd ([c0, c1, c2, c3])] W6) (fun _ => undef) ?_ (by rfl) Keep.start (holds_soft (by kernel_rfl)) ?_ ?_
  · intro u i v h
    rcases i with _ | _ | _ | _ | _ | _ | _ | _ | _ | _ | _ | _ | _ | i
    all_goals first | (simp [Act.put, putV]; done) | (exfalso; simp at h; omega)
  · intro hs
    refine ⟨?_, ?_, ?_, ?_, ?_, ?_, ?_, ?_, ?_, ?_, ?_, ?_, ?_, trivial⟩
    · exact step_pureO hs (wants_none rfl) rfl fun L u W hG hdep => ⟨_, run_move rfl, rfl⟩
    · refine step_pureO hs (wants_none rfl) rfl fun L u W hG hdep => ⟨_, ?_, rfl⟩
      have e0 := (show u 0 = .int .i64 (kn : Nat) from hG 0 (hdep 0 (by kernel_rfl)))
      have e9 := HC0.out
      go_simp
      try exact e9
      try simpa using e9
    · exact step_pureO hs (wants_none rfl) rfl fun L u W hG hdep => ⟨_, run_move rfl, rfl⟩
    · refine step_pureO hs (wants_none rfl) rfl fun L u W hG hdep => ⟨_, ?_, rfl⟩
      have e0 := (show u 2 = .int .i64 (kn : Nat) from hG 2 (hdep 2 (by kernel_rfl)))
      go_simp
    · refine step_pureO hs (wants_none rfl) rfl fun L u W hG hdep => ⟨_, ?_, rfl⟩
      have e0 := (show u 3 = .int .i64 ((kn : Int) / 256) from hG 3 (hdep 3 (by kernel_rfl)))
      have e9 := HC1.out
      go_simp
      try exact e9
      try simpa using e9
    · exact step_pureO hs (wants_none rfl) rfl fun L u W hG hdep => ⟨_, run_move rfl, rfl⟩
    · refine step_pureO hs (wants_none rfl) rfl fun L u W hG hdep => ⟨_, ?_, rfl⟩
      have e0 := (show u 5 = .int .i64 (kn : Nat) from hG 5 (hdep 5 (by kernel_rfl)))
      go_simp
    · refine step_pureO hs (wants_none rfl) rfl fun L u W hG hdep => ⟨_, ?_, rfl⟩
      have e0 := (show u 6 = .int .i64 ((kn : Int) / 65536) from hG 6 (hdep 6 (by kernel_rfl)))
      have e9 := HC2.out
      go_simp
      try exact e9
      try simpa using e9
    · exact step_pureO hs (wants_none rfl) rfl fun L u W hG hdep => ⟨_, run_move rfl, rfl⟩
    · refine step_pureO hs (wants_none rfl) rfl fun L u W hG hdep => ⟨_, ?_, rfl⟩
      have e0 := (show u 8 = .int .i64 (kn : Nat) from hG 8 (hdep 8 (by kernel_rfl)))
      go_simp
    · refine step_pureO hs (wants_none rfl) rfl fun L u W hG hdep => ⟨_, ?_, rfl⟩
      have e0 := (show u 9 = .int .i64 ((kn : Int) / 16777216) from hG 9 (hdep 9 (by kernel_rfl)))
      have e9 := HC3.out
      go_simp
      try exact e9
      try simpa using e9
    · refine step_buildB (n := 4) hs (wants_none rfl) rfl rfl (by unfold maxLen; omega) fun L u W hG hdep => ?_
      have e0 := (show u 1 = .int .u8 (c0.toNat : Int) from hG 1 (hdep 1 (by kernel_rfl)))
      have e1 := (show u 4 = .int .u8 (c1.toNat : Int) from hG 4 (hdep 4 (by kernel_rfl)))
      have e2 := (show u 7 = .int .u8 (c2.toNat : Int) from hG 7 (hdep 7 (by kernel_rfl)))
      have e3 := (show u 10 = .int .u8 (c3.toNat : Int) from hG 10 (hdep 10 (by kernel_rfl)))
      unfold execOp
      go_simp
      try rfl
    · exact step_moveB 11 hs (wants_none rfl) rfl (by first | exact .inl rfl | exact .inr rfl) rfl (by kernel_rfl) (fun _ => rfl)
  intro L7 u7 W7 hall hJ hG
  obtain ⟨gB12, nB12, cB12, rB12, eB12, hgB12, hB12, hlB12, hcB12, hmB12⟩ := (show ∃ g n cap r, u7 12 = .slice (some ⟨g, 0, none⟩) n cap ∧ W6.heap.size ≤ g ∧ Blk W7 g (([c0, c1, c2, c3]).map bV ++ r) 5 ∧ ([c0, c1, c2, c3]).length = n ∧ n ≤ cap ∧ cap ≤ maxLen from hG 12 (by simp))
  have hgB12 : w.heap.size ≤ gB12 := by have := hbel0.size; omega
  have EB12 := Lib.hid eB12; clear eB12
  have HB12 := Lib.hid hB12; clear hB12
  have HE12_q7 := Lib.hid (show q7 ≠ gB12 by have := there_lt ht7 (by omega); omega)
  have HE12_q8 := Lib.hid (show q8 ≠ gB12 by have := there_lt ht8 (by omega); omega)
  have HE12_q9 := Lib.hid (show q9 ≠ gB12 by have := there_lt ht9 (by omega); omega)
  have HE12_q10 := Lib.hid (show q10 ≠ gB12 by have := there_lt ht10 (by omega); omega)
  have hb := hJ.all rfl
  have hbel := Below.call hbel hb
  have hm7 := hm7.later hb
  have hm8 := hm8.later hb
  have hm9 := hm9.later hb
  have hm10 := hm10.later hb
  have ht7 := there_later ht7 hb
  have ht8 := there_later ht8 hb
  have ht9 := there_later ht9 hb
  have ht10 := there_later ht10 hb
  have hbel0 := hbel
  clear hJ hG hall hb
  go_upto_region 8 with fail
  refine wp_region_mid (fun u => (.slice a na capa :: .slice b nb capb :: .int .i64 (kn : Nat) :: undef :: undef :: undef :: u 41 :: u3 4 :: u4 4 :: u5 4 :: u6 4 :: u7 12 :: u1 0 :: u1 1 :: u1 2 :: u1 3 :: u1 4 :: u1 5 :: u1 6 :: u1 7 :: u1 8 :: u1 9 :: u1 10 :: u1 11 :: u1 12 :: u1 13 :: u1 14 :: .bool false :: undef :: u3 0 :: u3 1 :: u3 2 :: u3 3 :: u4 0 :: u4 1 :: u4 2 :: u4 3 :: u5 0 :: u5 1 :: u5 2 :: u5 3 :: u6 0 :: u6 1 :: u6 2 :: u6 3 :: u7 0 :: u7 1 :: u7 2 :: u7 3 :: u7 4 :: u7 5 :: u7 6 :: u7 7 :: u7 8 :: u7 9 :: u7 10 :: u7 11 :: u 0 :: u 1 :: u 2 :: u 3 :: u 4 :: u 5 :: u 6 :: u 7 :: u 8 :: u 9 :: u 10 :: u 11 :: u 12 :: u 13 :: u 14 :: u 15 :: u 16 :: u 17 :: u 18 :: u 19 :: u 20 :: u 21 :: u 22 :: u 23 :: u 24 :: u 25 :: u 26 :: u 27 :: u 28 :: u 29 :: u 30 :: u 31 :: u 32 :: u 33 :: u 34 :: u 35 :: u 36 :: u 37 :: u 38 :: u 39 :: u 40 :: []).toArray) (Holds [.val rP [P], .val rQ [P], .oth (fun v => v = .bool true), .oth (fun v => v = .bool true), .val rP [P], .val rP [Q], .val rP [Cp.add P Q], .val rQ [P], .val rQ [Q], .val rQ [Cp.add P Q], .oth (fun v => v = .bool true), .oth (fun v => v = .bool true), .oth (fun v => v = .bool true), .val rP [P], .val rP [Cp.neg P], .val rQ [P], .val rQ [Cp.neg P], .oth (fun v => v = .bool true), .oth (fun v => v = .bool true), .oth (fun v => v = .bool true), .val rP [P], .val rP [Q], .oth (fun v => v = .bool q), .val rQ [P], .val rQ [Q], .oth (fun v => v = .bool q), .oth (fun v => v = .bool true), .oth (fun v => v = .bool true), .oth (fun v => v = .bool true), .val rP [P], .oth (fun v => v = .int .i64 (kn : Nat)), .val rP [Cp.mul kn P], .val rQ [P], .oth (fun v => v = .slice (some ⟨gB12, 0, none⟩) nB12 cB12), .val rC [(fn kn)], .val rQ [Cp.mul kn P], .oth (fun v => v = .bool true), .oth (fun v => v = .bool true), .oth (fun v => v = .bool true), .oth (fun v => v = .bool true), .oth (fun v => v = .bool true), .oth (fun v => v = .bool true)] W7) (Keep [.val rP [P], .val rQ [P], .oth (fun v => v = .bool true), .oth (fun v => v = .bool true), .val rP [P], .val rP [Q], .val rP [Cp.add P Q], .val rQ [P], .val rQ [Q], .val rQ [Cp.add P Q], .oth (fun v => v = .bool true), .oth (fun v => v = .bool true), .oth (fun v => v = .bool true), .val rP [P], .val rP [Cp.neg P], .val rQ [P], .val rQ [Cp.neg P], .oth (fun v => v = .bool true), .oth (fun v => v = .bool true), .oth (fun v => v = .bool true), .val rP [P], .val rP [Q], .oth (fun v => v = .bool q), .val rQ [P], .val rQ [Q], .oth (fun v => v = .bool q), .oth (fun v => v = .bool true), .oth (fun v => v = .bool true), .oth (fun v => v = .bool true), .val rP [P], .oth (fun v => v = .int .i64 (kn : Nat)), .val rP [Cp.mul kn P], .val rQ [P], .oth (fun v => v = .slice (some ⟨gB12, 0, none⟩) nB12 cB12), .val rC [(fn kn)], .val rQ [Cp.mul kn P], .oth (fun v => v = .bool true), .oth (fun v => v = .bool true), .oth (fun v => v = .bool true), .oth (fun v => v = .bool true), .oth (fun v => v = .bool true), .oth (fun v => v = .bool true)] W7) (fun k => ((undef :: undef :: undef :: undef :: undef :: undef :: undef :: undef :: undef :: undef :: undef :: undef :: undef :: undef :: undef :: undef :: undef :: undef :: undef :: undef :: undef :: undef :: undef :: undef :: undef :: undef :: undef :: undef :: undef :: undef :: undef :: undef :: undef :: undef :: undef :: undef :: undef :: undef :: undef :: undef :: undef :: u0 0 :: []) : List Value).getD k undef) (by kernel_rfl) (by kernel_rfl) ?_ (by rfl) Keep.drew (holds_soft (by kernel_rfl)) ?_ ?_
  · intro u i v h
    rcases i with _ | _ | _ | _ | _ | _ | _ | _ | _ | _ | _ | _ | _ | _ | _ | _ | _ | _ | _ | _ | _ | _ | _ | _ | _ | _ | _ | _ | _ | _ | _ | _ | _ | _ | _ | _ | _ | _ | _ | _ | _ | _ | i
    iterate 42 kernel_rfl
    exfalso; simp at h; omega
  · intro hs
    refine ⟨?_, ?_, ?_, ?_, ?_, ?_, ?_, ?_, ?_, ?_, ?_, ?_, ?_, ?_, ?_, ?_, ?_, ?_, ?_, ?_, ?_, ?_, ?_, ?_, ?_, ?_, ?_, ?_, ?_, ?_, ?_, ?_, ?_, ?_, ?_, ?_, ?_, ?_, ?_, ?_, ?_, ?_, trivial⟩
    · exact step_load q7 0 hs (wants_none rfl) rfl rfl tyP (fun _ => E7.out) hm7.lt hm7 (noSto_apart (by kernel_rfl))
    · exact step_load q8 0 hs (wants_none rfl) rfl rfl tyPt (fun _ => E8.out) hm8.lt hm8 (noSto_apart (by kernel_rfl))
    · refine step_callO hs (wants_none rfl) rfl fun L u W hJ hG hL hdep K hK => ?_
      have a0 := (show IsFs rP (u 0) [P] from hG 0 (hdep 0 (by kernel_rfl)))
      have a1 := (show IsFs rQ (u 1) [P] from hG 1 (hdep 1 (by kernel_rfl)))
      go_simp
      go_at_call 12
      (with_reducible refine (cIsP a0 a1 _).mono ?_); rintro e w1 ⟨rfl, hb⟩
      have hk := hK.out _ _ rfl hb
      exact hk
    · exact step_pureO hs (wants_none rfl) rfl fun L u W hG hdep => ⟨_, run_move rfl, (show u 2 = .bool true from hG 2 (hdep 2 (by kernel_rfl)))⟩
    · exact step_load q7 0 hs (wants_on 3 rfl rfl (by kernel_rfl) (fun _ => rfl)) rfl rfl tyP (fun _ => E7.out) hm7.lt hm7 (noSto_apart (by kernel_rfl))
    · exact step_load q9 0 hs (wants_on 3 rfl rfl (by kernel_rfl) (fun _ => rfl)) rfl rfl tyP (fun _ => E9.out) hm9.lt hm9 (noSto_apart (by kernel_rfl))
    · refine step_call hs (wants_on 3 rfl rfl (by kernel_rfl) (fun _ => rfl)) rfl fun L u W hJ hG hL hdep K hK => ?_
      have a0 := (show IsFs rP (u 4) [P] from hG 4 (hdep 4 (by kernel_rfl)))
      have a1 := (show IsFs rP (u 5) [Q] from hG 5 (hdep 5 (by kernel_rfl)))
      go_simp
      go_at_call 25
      (with_reducible refine (cPAdd a0 a1 _).mono ?_); rintro e w1 ⟨r, rfl, hr, hb⟩
      have hk := hK.out _ _ hr hb
      exact hk
    · exact step_load q8 0 hs (wants_on 3 rfl rfl (by kernel_rfl) (fun _ => rfl)) rfl rfl tyPt (fun _ => E8.out) hm8.lt hm8 (noSto_apart (by kernel_rfl))
    · exact step_load q10 0 hs (wants_on 3 rfl rfl (by kernel_rfl) (fun _ => rfl)) rfl rfl tyPt (fun _ => E10.out) hm10.lt hm10 (noSto_apart (by kernel_rfl))
    · refine step_call hs (wants_on 3 rfl rfl (by kernel_rfl) (fun _ => rfl)) rfl fun L u W hJ hG hL hdep K hK => ?_
      have a0 := (show IsFs rQ (u 7) [P] from hG 7 (hdep 7 (by kernel_rfl)))
      have a1 := (show IsFs rQ (u 8) [Q] from hG 8 (hdep 8 (by kernel_rfl)))
      go_simp
      go_at_call 26
      (with_reducible refine (kPAdd a0 a1 _).mono ?_); rintro e w1 ⟨r, rfl, hr, hb⟩
      have hk := hK.out _ _ hr hb
      exact hk
    · refine step_callO hs (wants_on 3 rfl rfl (by kernel_rfl) (fun _ => rfl)) rfl fun L u W hJ hG hL hdep K hK => ?_
      have a0 := (show IsFs rP (u 6) [Cp.add P Q] from hG 6 (hdep 6 (by kernel_rfl)))
      have a1 := (show IsFs rQ (u 9) [Cp.add P Q] from hG 9 (hdep 9 (by kernel_rfl)))
      go_simp
      go_at_call 12
      (with_reducible refine (cIsP a0 a1 _).mono ?_); rintro e w1 ⟨rfl, hb⟩
      have hk := hK.out _ _ rfl hb
      exact hk
    · exact step_pick true hs (wants_none rfl) rfl rfl (fun L u W hG hdep => (show u 3 = .bool true from hG 3 (hdep 3 (by kernel_rfl)))) (fun L u W hG hdep => (show u 10 = .bool true from hG 10 (hdep 10 (by kernel_rfl))))
    · exact step_pureO hs (wants_none rfl) rfl fun L u W hG hdep => ⟨_, run_move rfl, (show u 11 = .bool true from hG 11 (hdep 11 (by kernel_rfl)))⟩
    · exact step_load q7 0 hs (wants_on 12 rfl rfl (by kernel_rfl) (fun _ => rfl)) rfl rfl tyP (fun _ => E7.out) hm7.lt hm7 (noSto_apart (by kernel_rfl))
    · refine step_call hs (wants_on 12 rfl rfl (by kernel_rfl) (fun _ => rfl)) rfl fun L u W hJ hG hL hdep K hK => ?_
      have a0 := (show IsFs rP (u 13) [P] from hG 13 (hdep 13 (by kernel_rfl)))
      go_simp
      go_at_call 21
      (with_reducible refine (cPNeg a0 _).mono ?_); rintro e w1 ⟨r, rfl, hr, hb⟩
      have hk := hK.out _ _ hr hb
      exact hk
    · exact step_load q8 0 hs (wants_on 12 rfl rfl (by kernel_rfl) (fun _ => rfl)) rfl rfl tyPt (fun _ => E8.out) hm8.lt hm8 (noSto_apart (by kernel_rfl))
    · refine step_call hs (wants_on 12 rfl rfl (by kernel_rfl) (fun _ => rfl)) rfl fun L u W hJ hG hL hdep K hK => ?_
      have a0 := (show IsFs rQ (u 15) [P] from hG 15 (hdep 15 (by kernel_rfl)))
      go_simp
      go_at_call 27
      (with_reducible refine (kPNeg a0 _).mono ?_); rintro e w1 ⟨r, rfl, hr, hb⟩
      have hk := hK.out _ _ hr hb
      exact hk
    · refine step_callO hs (wants_on 12 rfl rfl (by kernel_rfl) (fun _ => rfl)) rfl fun L u W hJ hG hL hdep K hK => ?_
      have a0 := (show IsFs rP (u 14) [Cp.neg P] from hG 14 (hdep 14 (by kernel_rfl)))
      have a1 := (show IsFs rQ (u 16) [Cp.neg P] from hG 16 (hdep 16 (by kernel_rfl)))
      go_simp
      go_at_call 12
      (with_reducible refine (cIsP a0 a1 _).mono ?_); rintro e w1 ⟨rfl, hb⟩
      have hk := hK.out _ _ rfl hb
      exact hk
    · exact step_pick true hs (wants_none rfl) rfl rfl (fun L u W hG hdep => (show u 12 = .bool true from hG 12 (hdep 12 (by kernel_rfl)))) (fun L u W hG hdep => (show u 17 = .bool true from hG 17 (hdep 17 (by kernel_rfl))))
    · exact step_pureO hs (wants_none rfl) rfl fun L u W hG hdep => ⟨_, run_move rfl, (show u 18 = .bool true from hG 18 (hdep 18 (by kernel_rfl)))⟩
    · exact step_load q7 0 hs (wants_on 19 rfl rfl (by kernel_rfl) (fun _ => rfl)) rfl rfl tyP (fun _ => E7.out) hm7.lt hm7 (noSto_apart (by kernel_rfl))
    · exact step_load q9 0 hs (wants_on 19 rfl rfl (by kernel_rfl) (fun _ => rfl)) rfl rfl tyP (fun _ => E9.out) hm9.lt hm9 (noSto_apart (by kernel_rfl))
    · refine step_callO hs (wants_on 19 rfl rfl (by kernel_rfl) (fun _ => rfl)) rfl fun L u W hJ hG hL hdep K hK => ?_
      have a0 := (show IsFs rP (u 20) [P] from hG 20 (hdep 20 (by kernel_rfl)))
      have a1 := (show IsFs rP (u 21) [Q] from hG 21 (hdep 21 (by kernel_rfl)))
      go_simp
      go_at_call 19
      (with_reducible refine (cPSame (b := q) (HQQ.out) a0 a1 _).mono ?_); rintro e w1 ⟨rfl, hb⟩
      have hk := hK.out _ _ rfl hb
      exact hk
    · exact step_load q8 0 hs (wants_on 19 rfl rfl (by kernel_rfl) (fun _ => rfl)) rfl rfl tyPt (fun _ => E8.out) hm8.lt hm8 (noSto_apart (by kernel_rfl))
    · exact step_load q10 0 hs (wants_on 19 rfl rfl (by kernel_rfl) (fun _ => rfl)) rfl rfl tyPt (fun _ => E10.out) hm10.lt hm10 (noSto_apart (by kernel_rfl))
    · refine step_callO hs (wants_on 19 rfl rfl (by kernel_rfl) (fun _ => rfl)) rfl fun L u W hJ hG hL hdep K hK => ?_
      have a0 := (show IsFs rQ (u 23) [P] from hG 23 (hdep 23 (by kernel_rfl)))
      have a1 := (show IsFs rQ (u 24) [Q] from hG 24 (hdep 24 (by kernel_rfl)))
      go_simp
      go_at_call 28
      (with_reducible refine (kPSame (b := q) (HQQ.out) a0 a1 _).mono ?_); rintro e w1 ⟨rfl, hb⟩
      have hk := hK.out _ _ rfl hb
      exact hk
    · refine step_pureO hs (wants_on 19 rfl rfl (by kernel_rfl) (fun _ => rfl)) rfl fun L u W hG hdep => ⟨_, ?_, rfl⟩
      have e0 := (show u 22 = .bool q from hG 22 (hdep 22 (by kernel_rfl)))
      have e1 := (show u 25 = .bool q from hG 25 (hdep 25 (by kernel_rfl)))
      go_simp
      try simp
    · exact step_pick true hs (wants_none rfl) rfl rfl (fun L u W hG hdep => (show u 19 = .bool true from hG 19 (hdep 19 (by kernel_rfl)))) (fun L u W hG hdep => (show u 26 = .bool true from hG 26 (hdep 26 (by kernel_rfl))))
    · exact step_pureO hs (wants_none rfl) rfl fun L u W hG hdep => ⟨_, run_move rfl, (show u 27 = .bool true from hG 27 (hdep 27 (by kernel_rfl)))⟩
    · exact step_load q7 0 hs (wants_on 28 rfl rfl (by kernel_rfl) (fun _ => rfl)) rfl rfl tyP (fun _ => E7.out) hm7.lt hm7 (noSto_apart (by kernel_rfl))
    · exact step_pureO hs (wants_on 28 rfl rfl (by kernel_rfl) (fun _ => rfl)) rfl fun L u W hG hdep => ⟨_, run_move rfl, rfl⟩
    · refine step_call hs (wants_on 28 rfl rfl (by kernel_rfl) (fun _ => rfl)) rfl fun L u W hJ hG hL hdep K hK => ?_
      have a0 := (show IsFs rP (u 29) [P] from hG 29 (hdep 29 (by kernel_rfl)))
      have x0 := (show u 30 = .int .i64 (kn : Nat) from hG 30 (hdep 30 (by kernel_rfl)))
      go_simp
      go_at_call 29
      (with_reducible refine (cTimes (times_nat (k := kn) HK.out) a0 _).mono ?_); rintro e w1 ⟨r, rfl, hr, hb⟩
      have hk := hK.out _ _ hr hb
      simp only [x0] at hk
      exact hk
    · exact step_load q8 0 hs (wants_on 28 rfl rfl (by kernel_rfl) (fun _ => rfl)) rfl rfl tyPt (fun _ => E8.out) hm8.lt hm8 (noSto_apart (by kernel_rfl))
    · exact step_pureO hs (wants_on 28 rfl rfl (by kernel_rfl) (fun _ => rfl)) rfl fun L u W hG hdep => ⟨_, run_move rfl, EB12.out⟩
    · refine step_call hs (wants_on 28 rfl rfl (by kernel_rfl) (fun _ => rfl)) rfl fun L u W hJ hG hL hdep K hK => ?_
      have x0 := (show u 33 = .slice (some ⟨gB12, 0, none⟩) nB12 cB12 from hG 33 (hdep 33 (by kernel_rfl)))
      have hRB0 := (RdB.blk rB12 HB12.out hlB12 hcB12 hmB12).below (hJ.all rfl)
      go_simp
      go_at_call 24
      (with_reducible refine (kWide HW.out hRB0).mono ?_); rintro e w1 ⟨r, rfl, hr, hb⟩
      have hk := hK.out _ _ hr hb
      simp only [x0] at hk
      exact hk
    · refine step_call hs (wants_on 28 rfl rfl (by kernel_rfl) (fun _ => rfl)) rfl fun L u W hJ hG hL hdep K hK => ?_
      have a0 := (show IsFs rQ (u 32) [P] from hG 32 (hdep 32 (by kernel_rfl)))
      have a1 := (show IsFs rC (u 34) [(fn kn)] from hG 34 (hdep 34 (by kernel_rfl)))
      go_simp
      go_at_call 23
      (with_reducible refine (kMult (by rw [fn_31 HK.out]) a0 a1 _).mono ?_); rintro e w1 ⟨r, rfl, hr, hb⟩
      have hk := hK.out _ _ hr hb
      exact hk
    · refine step_callO hs (wants_on 28 rfl rfl (by kernel_rfl) (fun _ => rfl)) rfl fun L u W hJ hG hL hdep K hK => ?_
      have a0 := (show IsFs rP (u 31) [Cp.mul kn P] from hG 31 (hdep 31 (by kernel_rfl)))
      have a1 := (show IsFs rQ (u 35) [Cp.mul kn P] from hG 35 (hdep 35 (by kernel_rfl)))
      go_simp
      go_at_call 12
      (with_reducible refine (cIsP a0 a1 _).mono ?_); rintro e w1 ⟨rfl, hb⟩
      have hk := hK.out _ _ rfl hb
      exact hk
    · exact step_pick true hs (wants_none rfl) rfl rfl (fun L u W hG hdep => (show u 28 = .bool true from hG 28 (hdep 28 (by kernel_rfl)))) (fun L u W hG hdep => (show u 36 = .bool true from hG 36 (hdep 36 (by kernel_rfl))))
    · exact step_pureO hs (wants_none rfl) rfl fun L u W hG hdep => ⟨_, run_move rfl, (show u 37 = .bool true from hG 37 (hdep 37 (by kernel_rfl)))⟩
    · refine step_callO hs (wants_on 38 rfl rfl (by kernel_rfl) (fun _ => rfl)) rfl fun L u W hJ hG hL hdep K hK => ?_
      go_simp
      go_at_call 9
      (with_reducible refine (law8awake_any _).mono ?_); rintro e w1 ⟨rfl, hb⟩
      have hk := hK.out _ _ rfl hb
      exact hk
    · exact step_pick true hs (wants_none rfl) rfl rfl (fun L u W hG hdep => (show u 38 = .bool true from hG 38 (hdep 38 (by kernel_rfl)))) (fun L u W hG hdep => (show u 39 = .bool true from hG 39 (hdep 39 (by kernel_rfl))))
    · exact step_pureO hs (wants_none rfl) rfl fun L u W hG hdep => ⟨_, run_assign rfl, (show u 40 = .bool true from hG 40 (hdep 40 (by kernel_rfl)))⟩
  intro L8 u8 W8 hall hJ hG
  have hb := hJ.all rfl
  have hbel := Below.call hbel hb
  have hm7 := hm7.later hb
  have hm8 := hm8.later hb
  have hm9 := hm9.later hb
  have hm10 := hm10.later hb
  have ht7 := there_later ht7 hb
  have ht8 := there_later ht8 hb
  have ht9 := there_later ht9 hb
  have ht10 := there_later ht10 hb
  have HB12 := Lib.hid (HB12.out.below' hb)
  have HC59 := Lib.hid (show u8 2 = .bool true from hG 2 (by simp))
  have HC60 := Lib.hid (show u8 3 = .bool true from hG 3 (by simp))
  have HC67 := Lib.hid (show u8 10 = .bool true from hG 10 (by simp))
  have HC68 := Lib.hid (show u8 11 = .bool true from hG 11 (by simp))
  have HC69 := Lib.hid (show u8 12 = .bool true from hG 12 (by simp))
  have HC74 := Lib.hid (show u8 17 = .bool true from hG 17 (by simp))
  have HC75 := Lib.hid (show u8 18 = .bool true from hG 18 (by simp))
  have HC76 := Lib.hid (show u8 19 = .bool true from hG 19 (by simp))
  have HC79 := Lib.hid (show u8 22 = .bool q from hG 22 (by simp))
  have HC82 := Lib.hid (show u8 25 = .bool q from hG 25 (by simp))
  have HC83 := Lib.hid (show u8 26 = .bool true from hG 26 (by simp))
  have HC84 := Lib.hid (show u8 27 = .bool true from hG 27 (by simp))
  have HC85 := Lib.hid (show u8 28 = .bool true from hG 28 (by simp))
  have HC93 := Lib.hid (show u8 36 = .bool true from hG 36 (by simp))
  have HC94 := Lib.hid (show u8 37 = .bool true from hG 37 (by simp))
  have HC95 := Lib.hid (show u8 38 = .bool true from hG 38 (by simp))
  have HC96 := Lib.hid (show u8 39 = .bool true from hG 39 (by simp))
  have HC97 := Lib.hid (show u8 40 = .bool true from hG 40 (by simp))
  have HC6 := Lib.hid (show u8 41 = .bool true from hG 41 (by simp))
  have hbel0 := hbel
  clear hJ hG hall hb
  rw [HC6.out]
  go_wp2
  go_ret
  exact ⟨rfl, hbel⟩
set_option maxRecDepth 100000 in
theorem pointMults_any {a : Option Addr} {na capa : Nat} {la : List UInt8} {b : Option Addr} {nb capb : Nat} {lb : List UInt8} {k : Int} (w : World) (ha : RdB w a na capa la) (hb : RdB w b nb capb lb) (_hwk : (Lit.int .i64 k).wf = true) :
    Calls Try.prog 5 #[.slice a na capa, .slice b nb capb, .int .i64 k] w fun e w' => e = .returned (.bool true) ∧ Below w.heap.size w w' := by
  by_cases t0 : (100 : Int) < (na : Int)
  · have e0 : decide ((100 : Int) < (na : Int)) = true := decide_eq_true t0
    clear t0
    go_enter Try.func5, Try.ntmps5
    go_wp2_with (go_at_call 9; (with_reducible refine (law8awake_any _).mono ?_); rintro e w2 ⟨rfl, h2⟩)
    go_ret
    exact ⟨rfl, h2⟩
  by_cases t1 : (100 : Int) < (nb : Int)
  · have e0 : decide ((100 : Int) < (na : Int)) = false := decide_eq_false t0
    have e1 : decide ((100 : Int) < (nb : Int)) = true := decide_eq_true t1
    clear t0 t1
    go_enter Try.func5, Try.ntmps5
    go_wp2_with (go_at_call 9; (with_reducible refine (law8awake_any _).mono ?_); rintro e w2 ⟨rfl, h2⟩)
    go_ret
    exact ⟨rfl, h2⟩
  by_cases t2 : (k : Int) < 0
  · have e0 : decide ((100 : Int) < (na : Int)) = false := decide_eq_false t0
    have e1 : decide ((100 : Int) < (nb : Int)) = false := decide_eq_false t1
    have e2 : decide ((k : Int) < 0) = true := decide_eq_true t2
    clear t0 t1 t2
    go_enter Try.func5, Try.ntmps5
    go_wp2_with (go_at_call 9; (with_reducible refine (law8awake_any _).mono ?_); rintro e w2 ⟨rfl, h2⟩)
    go_ret
    exact ⟨rfl, h2⟩
  by_cases t3 : (2147483648 : Int) < (k : Int)
  · have e0 : decide ((100 : Int) < (na : Int)) = false := decide_eq_false t0
    have e1 : decide ((100 : Int) < (nb : Int)) = false := decide_eq_false t1
    have e2 : decide ((k : Int) < 0) = false := decide_eq_false t2
    have e3 : decide ((2147483648 : Int) < (k : Int)) = true := decide_eq_true t3
    clear t0 t1 t2 t3
    go_enter Try.func5, Try.ntmps5
    go_wp2_with (go_at_call 9; (with_reducible refine (law8awake_any _).mono ?_); rintro e w2 ⟨rfl, h2⟩)
    go_ret
    exact ⟨rfl, h2⟩
  exact pointMults_few w ha hb t0 t1 t2 t3
namespace pointMultsDone
theorem own : ownKnob Try.prog.godebug = none := by kernel_rfl
theorem laidOut : laidOutB Try.prog = true := by kernel_rfl
set_option maxRecDepth 100000 in
theorem lifted (os : Os) (started : os.Started) (H : Type) (enc : TypeId × Value → H) :
    ReturnsInHanded {} Try.checked os 5 .any (Rows.pointMultsSpec.pre6 enc Try.prog Try.f5 Rows.pointMultsRow.domain false) (Rows.pointMultsSpec.post enc Try.prog Try.f5 false true false false) := by
  refine returnsInHanded_of_change (C := Try.checked) own started (by kernel_rfl) Try.func5
    (ChangeSpec.witness6 (enc := enc) (C := Try.checked) false ⟨#[], #[.slice none 0 0, .slice none 0 0, .int .i64 0], []⟩ 8 (by kernel_rfl) (by kernel_rfl) (by kernel_rfl) (by kernel_rfl)) ?_
  intro W base args ds gs before hval0 hW hcnd _
  have hval : ∀ (j : Nat) t v, Try.f5.params[j]? = some t → args[j]? = some v → Value.okWide Try.prog W .any base t v := hval0
  have hW' := hW
  obtain ⟨p, q, hA0, hV, rfl, hfz, hnd⟩ := hW
  have hA : DataW.TrodAll enc Try.prog W 0 (fun _ => true) true Try.f5.params.toList args.toList ds p := hA0
  rw [Try.params5] at hA hval
  obtain ⟨v0, vs0, d0, ds0, p0, q0, hargs, rfl, rfl, h0, r0⟩ := trodAll_cons hA
  obtain ⟨v1, vs1, d1, ds1, p1, q1, rfl, rfl, rfl, h1, r1⟩ := trodAll_cons r0
  obtain ⟨v2, vs2, d2, ds2, p2, q2, rfl, rfl, rfl, h2, r2⟩ := trodAll_cons r1
  obtain ⟨rfl, rfl, rfl⟩ := trodAll_nil r2
  obtain rfl : args = #[v0, v1, v2] := by cases args; simp_all
  obtain ⟨rfl, rfl⟩ := trodVars_none hV
  obtain ⟨a0, len0, cap0, rfl⟩ := okWide_slice Try.underlying22 (hval 0 22 v0 rfl rfl)
  have k0 := h0
  have lt0 : ∀ x ∈ p0, x.block < W.heap.size := by obtain ⟨m, hm⟩ := k0; exact DataW.trod_lt m _ _ _ hm
  obtain ⟨l0, w0⟩ : ∃ l, RdB W a0 len0 cap0 l := by
    obtain ⟨fuel, hf⟩ := h0
    rcases open_ints Try.underlying22 Try.underlying5 (by kernel_rfl) hf with ⟨hcs, _⟩ | ⟨x, l, c, zs, hcs, _, hl, hm, hz, _, hcell, hwz⟩
    · simp [Value.cells] at hcs
      obtain ⟨rfl, rfl, rfl⟩ := hcs
      exact ⟨[], RdB.nil _⟩
    · simp [Value.cells] at hcs
      obtain ⟨rfl, rfl, rfl⟩ := hcs
      exact RdB.of_ints (.inr ⟨_, rfl, hl, hm, by simpa using hz, hcell, hwz⟩)
  obtain ⟨a1, len1, cap1, rfl⟩ := okWide_slice Try.underlying22 (hval 1 22 v1 rfl rfl)
  have k1 := h1
  have lt1 : ∀ x ∈ p1, x.block < W.heap.size := by obtain ⟨m, hm⟩ := k1; exact DataW.trod_lt m _ _ _ hm
  obtain ⟨l1, w1⟩ : ∃ l, RdB W a1 len1 cap1 l := by
    obtain ⟨fuel, hf⟩ := h1
    rcases open_ints Try.underlying22 Try.underlying5 (by kernel_rfl) hf with ⟨hcs, _⟩ | ⟨x, l, c, zs, hcs, _, hl, hm, hz, _, hcell, hwz⟩
    · simp [Value.cells] at hcs
      obtain ⟨rfl, rfl, rfl⟩ := hcs
      exact ⟨[], RdB.nil _⟩
    · simp [Value.cells] at hcs
      obtain ⟨rfl, rfl, rfl⟩ := hcs
      exact RdB.of_ints (.inr ⟨_, rfl, hl, hm, by simpa using hz, hcell, hwz⟩)
  obtain ⟨a2, rfl, rfl, rfl, w2⟩ := open_int Try.underlying3 (hval 2 3 v2 rfl rfl) h2
  clear hA0 hval0
  refine (pointMults_any W w0 w1 w2).mono fun e W' ⟨he, bel⟩ => ?_
  subst he
  exact ⟨_, rfl, _, _, _, [], _, [], hW', trodAll_mk1 (shut_bool Try.underlying4 _), (trodAll_cons_mk (Below.trod laidOut (by kernel_rfl) (of_decide_eq_true (by kernel_rfl)) k0 bel lt0) (trodAll_cons_mk (Below.trod laidOut (by kernel_rfl) (of_decide_eq_true (by kernel_rfl)) k1 bel lt1) (trodAll_cons_mk (shut_int Try.underlying3 w2) trodAll_mk0))), rfl, bel.frame _, fun h => by cases h⟩
theorem over : Rows.pointMultsRow.holds Try.pinned (OpenSpec.ofChange Rows.pointMultsSpec) :=
  OpenClaim.holds_of_wide 5 Try.f5 rfl rfl rfl rfl rfl rfl rfl ⟨rfl, rfl, rfl, rfl, rfl⟩ rfl rfl rfl rfl rfl (by kernel_rfl) Try.func5 (by kernel_rfl)
    (of_decide_eq_true (by kernel_rfl)) (by unfold Func.isWrapper; first | (rw [if_pos (by decide +kernel)]; kernel_rfl) | (rw [if_neg (by decide +kernel)]; exact ⟨rfl, rfl⟩))
    (fun os started H enc _ => lifted os started H enc)
theorem proved : Rows.PointMultsSaid := over
#print axioms proved
end pointMultsDone

end Go.Proofs.Ytjchdhpijopikaa
