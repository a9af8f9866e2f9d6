/- The walk of x25519.step: both points behind a step of the ladder. -/
import Derived.Test.YtmoggjbnlimepaaXpt
namespace Go.Proofs.Ytmoggjbnlimepaa
open Go Go.RowKit

set_option maxHeartbeats 4000000 in
theorem step_any {v0 v1 v2 : Value} {U X Z X' Z' : F} (h0 : IsFs rE v0 [U]) (h1 : IsFs rE v1 [X, Z]) (h2 : IsFs rE v2 [X', Z']) (w : World) :
    Calls Try.prog 24 #[v0, v1, v2] w fun e w' => ∃ r1 r2, e = .returned (.tuple #[r1, r2]) ∧ IsFs rE r1 [(lstep U ⟨X, Z⟩ ⟨X', Z'⟩).1.x, (lstep U ⟨X, Z⟩ ⟨X', Z'⟩).1.z] ∧ IsFs rE r2 [(lstep U ⟨X, Z⟩ ⟨X', Z'⟩).2.x, (lstep U ⟨X, Z⟩ ⟨X', Z'⟩).2.z] ∧ Below w.heap.size w w' := by
  go_enter Try.func24, Try.ntmps24
  have hbel : Below w.heap.size w w := Below.refl _ _
  have hbel0 := hbel
  go_upto_region 0 with fail
  refine wp_region_turn (fun u => (v0 :: v1 :: v2 :: u 0 :: u 1 :: u 2 :: u 3 :: u 4 :: undef :: undef :: undef :: undef :: undef :: undef :: undef :: undef :: undef :: undef :: undef :: undef :: undef :: undef :: undef :: undef :: undef :: undef :: undef :: undef :: undef :: undef :: undef :: undef :: undef :: undef :: undef :: undef :: undef :: undef :: undef :: undef :: undef :: undef :: undef :: undef :: undef :: undef :: undef :: undef :: undef :: undef :: undef :: undef :: undef :: undef :: undef :: undef :: undef :: undef :: undef :: undef :: undef :: undef :: undef :: undef :: undef :: undef :: undef :: undef :: undef :: undef :: undef :: undef :: undef :: undef :: undef :: undef :: undef :: undef :: []).toArray) (Holds [.box rE [U], .box rE [X, Z], .box rE [X', Z'], .new 10, .new 10] w) (Keep [.box rE [U], .box rE [X, Z], .box rE [X', Z'], .new 10, .new 10] w) (fun _ => undef) ?_ (by rfl) Keep.start (holds_soft (by kernel_rfl)) ?_ ?_
  · intro u i v h
    rcases i with _ | _ | _ | _ | _ | i
    all_goals first | (simp [Act.put, putV]; done) | (exfalso; simp at h; omega)
  · intro hs
    refine ⟨?_, ?_, ?_, ?_, ?_, trivial⟩
    · exact step_box hs (wants_none rfl) rfl rfl (gives_c h0 (fun _ => rfl))
    · exact step_box hs (wants_none rfl) rfl rfl (gives_c h1 (fun _ => rfl))
    · exact step_box hs (wants_none rfl) rfl rfl (gives_c h2 (fun _ => rfl))
    · exact step_alloc hs (wants_none rfl) rfl rfl (by omega) rfl allocpoint
    · exact step_alloc hs (wants_none rfl) rfl rfl (by omega) rfl allocpoint
  intro L0 u0 W0 hall hJ hG
  obtain ⟨q3, e3, ⟨hq3, _⟩, ht3, hm3⟩ := (show ∃ g, u0 0 = .pointer (some ⟨g, 0, none⟩) ∧ (w.heap.size ≤ g ∧ g < W0.heap.size) ∧ W0.there g 0 5 ∧ HasFs rE W0 g 0 [U] from hG 0 (by simp))
  have hq3 : w.heap.size ≤ q3 := by have := hbel0.size; omega
  have E3 := Lib.hid e3; clear e3
  obtain ⟨q4, e4, ⟨hq4, _⟩, ht4, hm4⟩ := (show ∃ g, u0 1 = .pointer (some ⟨g, 0, none⟩) ∧ (w.heap.size ≤ g ∧ g < W0.heap.size) ∧ W0.there g 0 10 ∧ HasFs rE W0 g 0 [X, Z] from hG 1 (by simp))
  have hq4 : w.heap.size ≤ q4 := by have := hbel0.size; omega
  have E4 := Lib.hid e4; clear e4
  obtain ⟨q5, e5, ⟨hq5, _⟩, ht5, hm5⟩ := (show ∃ g, u0 2 = .pointer (some ⟨g, 0, none⟩) ∧ (w.heap.size ≤ g ∧ g < W0.heap.size) ∧ W0.there g 0 10 ∧ HasFs rE W0 g 0 [X', Z'] from hG 2 (by simp))
  have hq5 : w.heap.size ≤ q5 := by have := hbel0.size; omega
  have E5 := Lib.hid e5; clear e5
  obtain ⟨q6, e6, hq6, _, ht6⟩ := (show ∃ g, u0 3 = .pointer (some ⟨g, 0, none⟩) ∧ w.heap.size ≤ g ∧ 0 < 10 ∧ W0.there g 0 10 from hG 3 (by simp))
  have hq6 : w.heap.size ≤ q6 := by have := hbel0.size; omega
  have E6 := Lib.hid e6; clear e6
  obtain ⟨q7, e7, hq7, _, ht7⟩ := (show ∃ g, u0 4 = .pointer (some ⟨g, 0, none⟩) ∧ w.heap.size ≤ g ∧ 0 < 10 ∧ W0.there g 0 10 from hG 4 (by simp))
  have hq7 : w.heap.size ≤ q7 := by have := hbel0.size; omega
  have E7 := Lib.hid e7; clear e7
  have hb := hJ.all rfl
  have hbel := Below.call hbel hb
  have HN3_4 := Lib.hid (show q3 ≠ q4 from fun e => hJ.apart 0 1 _ (by omega) (hall _ (by simp)) (hall _ (by simp)) rfl rfl (E3.out.trans (by rw [e])) E4.out)
  have HN3_5 := Lib.hid (show q3 ≠ q5 from fun e => hJ.apart 0 2 _ (by omega) (hall _ (by simp)) (hall _ (by simp)) rfl rfl (E3.out.trans (by rw [e])) E5.out)
  have HN3_6 := Lib.hid (show q3 ≠ q6 from fun e => hJ.apart 0 3 _ (by omega) (hall _ (by simp)) (hall _ (by simp)) rfl rfl (E3.out.trans (by rw [e])) E6.out)
  have HN3_7 := Lib.hid (show q3 ≠ q7 from fun e => hJ.apart 0 4 _ (by omega) (hall _ (by simp)) (hall _ (by simp)) rfl rfl (E3.out.trans (by rw [e])) E7.out)
  have HN4_5 := Lib.hid (show q4 ≠ q5 from fun e => hJ.apart 1 2 _ (by omega) (hall _ (by simp)) (hall _ (by simp)) rfl rfl (E4.out.trans (by rw [e])) E5.out)
  have HN4_6 := Lib.hid (show q4 ≠ q6 from fun e => hJ.apart 1 3 _ (by omega) (hall _ (by simp)) (hall _ (by simp)) rfl rfl (E4.out.trans (by rw [e])) E6.out)
  have HN4_7 := Lib.hid (show q4 ≠ q7 from fun e => hJ.apart 1 4 _ (by omega) (hall _ (by simp)) (hall _ (by simp)) rfl rfl (E4.out.trans (by rw [e])) E7.out)
  have HN5_6 := Lib.hid (show q5 ≠ q6 from fun e => hJ.apart 2 3 _ (by omega) (hall _ (by simp)) (hall _ (by simp)) rfl rfl (E5.out.trans (by rw [e])) E6.out)
  have HN5_7 := Lib.hid (show q5 ≠ q7 from fun e => hJ.apart 2 4 _ (by omega) (hall _ (by simp)) (hall _ (by simp)) rfl rfl (E5.out.trans (by rw [e])) E7.out)
  have HN6_7 := Lib.hid (show q6 ≠ q7 from fun e => hJ.apart 3 4 _ (by omega) (hall _ (by simp)) (hall _ (by simp)) rfl rfl (E6.out.trans (by rw [e])) E7.out)
  have hbel0 := hbel
  clear hJ hG hall hb
  go_upto_region 1 with fail
  refine wp_region_mid (fun u => (v0 :: v1 :: v2 :: u0 0 :: u0 1 :: u0 2 :: u0 3 :: u0 4 :: u 10 :: u 11 :: undef :: undef :: undef :: undef :: undef :: undef :: undef :: undef :: u 0 :: u 1 :: u 2 :: u 3 :: u 4 :: u 5 :: u 6 :: u 7 :: u 8 :: u 9 :: undef :: undef :: undef :: undef :: undef :: undef :: undef :: undef :: undef :: undef :: undef :: undef :: undef :: undef :: undef :: undef :: undef :: undef :: undef :: undef :: undef :: undef :: undef :: undef :: undef :: undef :: undef :: undef :: undef :: undef :: undef :: undef :: undef :: undef :: undef :: undef :: undef :: undef :: undef :: undef :: undef :: undef :: undef :: undef :: undef :: undef :: undef :: undef :: undef :: undef :: []).toArray) (Holds [.ptr q4 0, .val rE [X], .ptr q4 5, .val rE [Z], .val rE [X + Z], .ptr q4 0, .val rE [X], .ptr q4 5, .val rE [Z], .val rE [X - Z], .new 5, .new 5, .st 10 rE [X + Z], .st 11 rE [X - Z]] W0) (Keep [.ptr q4 0, .val rE [X], .ptr q4 5, .val rE [Z], .val rE [X + Z], .ptr q4 0, .val rE [X], .ptr q4 5, .val rE [Z], .val rE [X - Z], .new 5, .new 5, .st 10 rE [X + Z], .st 11 rE [X - Z]] W0) (fun _ => undef) (by kernel_rfl) (by kernel_rfl) ?_ (by rfl) Keep.drew (holds_soft (by kernel_rfl)) ?_ ?_
  · intro u i v h
    rcases i with _ | _ | _ | _ | _ | _ | _ | _ | _ | _ | _ | _ | _ | _ | i
    all_goals first | (simp [Act.put, putV]; done) | (exfalso; simp at h; omega)
  · intro hs
    refine ⟨?_, ?_, ?_, ?_, ?_, ?_, ?_, ?_, ?_, ?_, ?_, ?_, ?_, ?_, trivial⟩
    · exact step_field hs (wants_none rfl) rfl rfl (fun _ => E4.out) (field_point0 _)
    · exact step_loadF 0 q4 0 hs (wants_none rfl) rfl rfl tyE (fun _ => rfl) rfl (by kernel_rfl) hm4.lt (hm4.fld 0 1) (noSto_apart (by kernel_rfl))
    · exact step_field hs (wants_none rfl) rfl rfl (fun _ => E4.out) (field_point1 _)
    · exact step_loadF 2 q4 5 hs (wants_none rfl) rfl rfl tyE (fun _ => rfl) rfl (by kernel_rfl) hm4.lt (hm4.fld 1 1) (noSto_apart (by kernel_rfl))
    · refine step_call hs (wants_none rfl) rfl fun L u W hJ hG hL hdep K hK => ?_
      have a0 := (show IsFs rE (u 1) [X] from hG 1 (hdep 1 (by kernel_rfl)))
      have a1 := (show IsFs rE (u 3) [Z] from hG 3 (hdep 3 (by kernel_rfl)))
      go_simp
      go_at_call 38
      (with_reducible refine (cAdd a0 a1 _).mono ?_); rintro e w1 ⟨r, rfl, hr, hb⟩
      have hk := hK.out _ _ hr hb
      exact hk
    · exact step_field hs (wants_none rfl) rfl rfl (fun _ => E4.out) (field_point0 _)
    · exact step_loadF 5 q4 0 hs (wants_none rfl) rfl rfl tyE (fun _ => rfl) rfl (by kernel_rfl) hm4.lt (hm4.fld 0 1) (noSto_apart (by kernel_rfl))
    · exact step_field hs (wants_none rfl) rfl rfl (fun _ => E4.out) (field_point1 _)
    · exact step_loadF 7 q4 5 hs (wants_none rfl) rfl rfl tyE (fun _ => rfl) rfl (by kernel_rfl) hm4.lt (hm4.fld 1 1) (noSto_apart (by kernel_rfl))
    · refine step_call hs (wants_none rfl) rfl fun L u W hJ hG hL hdep K hK => ?_
      have a0 := (show IsFs rE (u 6) [X] from hG 6 (hdep 6 (by kernel_rfl)))
      have a1 := (show IsFs rE (u 8) [Z] from hG 8 (hdep 8 (by kernel_rfl)))
      go_simp
      go_at_call 39
      (with_reducible refine (cSub a0 a1 _).mono ?_); rintro e w1 ⟨r, rfl, hr, hb⟩
      have hk := hK.out _ _ hr hb
      exact hk
    · exact step_alloc hs (wants_none rfl) rfl rfl (by omega) rfl allocE
    · exact step_alloc hs (wants_none rfl) rfl rfl (by omega) rfl allocE
    · exact step_store 10 hs (by kernel_rfl) (wants_none rfl) rfl rfl rfl (by kernel_rfl) (by kernel_rfl) (by kernel_rfl) (by kernel_rfl) (fun _ => rfl) (gives_op 4 rfl (by kernel_rfl) (fun _ => rfl)) tyE rfl
    · exact step_store 11 hs (by kernel_rfl) (wants_none rfl) rfl rfl rfl (by kernel_rfl) (by kernel_rfl) (by kernel_rfl) (by kernel_rfl) (fun _ => rfl) (gives_op 9 rfl (by kernel_rfl) (fun _ => rfl)) tyE rfl
  intro L1 u1 W1 hall hJ hG
  obtain ⟨q8, e8, hq8, _, ht8⟩ := (show ∃ g, u1 10 = .pointer (some ⟨g, 0, none⟩) ∧ W0.heap.size ≤ g ∧ 0 < 5 ∧ W1.there g 0 5 from hG 10 (by simp))
  have hm8 : HasFs rE W1 q8 0 [X + Z] := by
    obtain ⟨g, e, _, h⟩ := (show ∃ g, u1 10 = .pointer (some ⟨g, 0, none⟩) ∧ W0.heap.size ≤ g ∧ HasFs rE W1 g 0 [X + Z] from hG 12 (by simp))
    rw [e8] at e; cases e; exact h
  have HD8_q3 := Lib.hid (show q3 ≠ q8 by have := there_lt ht3 (by omega); omega)
  have HD8_q4 := Lib.hid (show q4 ≠ q8 by have := there_lt ht4 (by omega); omega)
  have HD8_q5 := Lib.hid (show q5 ≠ q8 by have := there_lt ht5 (by omega); omega)
  have HD8_q6 := Lib.hid (show q6 ≠ q8 by have := there_lt ht6 (by omega); omega)
  have HD8_q7 := Lib.hid (show q7 ≠ q8 by have := there_lt ht7 (by omega); omega)
  have hq8 : w.heap.size ≤ q8 := by have := hbel0.size; omega
  have E8 := Lib.hid e8; clear e8
  obtain ⟨q9, e9, hq9, _, ht9⟩ := (show ∃ g, u1 11 = .pointer (some ⟨g, 0, none⟩) ∧ W0.heap.size ≤ g ∧ 0 < 5 ∧ W1.there g 0 5 from hG 11 (by simp))
  have hm9 : HasFs rE W1 q9 0 [X - Z] := by
    obtain ⟨g, e, _, h⟩ := (show ∃ g, u1 11 = .pointer (some ⟨g, 0, none⟩) ∧ W0.heap.size ≤ g ∧ HasFs rE W1 g 0 [X - Z] from hG 13 (by simp))
    rw [e9] at e; cases e; exact h
  have HD9_q3 := Lib.hid (show q3 ≠ q9 by have := there_lt ht3 (by omega); omega)
  have HD9_q4 := Lib.hid (show q4 ≠ q9 by have := there_lt ht4 (by omega); omega)
  have HD9_q5 := Lib.hid (show q5 ≠ q9 by have := there_lt ht5 (by omega); omega)
  have HD9_q6 := Lib.hid (show q6 ≠ q9 by have := there_lt ht6 (by omega); omega)
  have HD9_q7 := Lib.hid (show q7 ≠ q9 by have := there_lt ht7 (by omega); omega)
  have hq9 : w.heap.size ≤ q9 := by have := hbel0.size; omega
  have E9 := Lib.hid e9; clear e9
  have hb := hJ.all rfl
  have hbel := Below.call hbel hb
  have hm3 := hm3.later hb
  have hm4 := hm4.later hb
  have hm5 := hm5.later hb
  have ht3 := there_later ht3 hb
  have ht4 := there_later ht4 hb
  have ht5 := there_later ht5 hb
  have ht6 := there_later ht6 hb
  have ht7 := there_later ht7 hb
  have HN8_9 := Lib.hid (show q8 ≠ q9 from fun e => hJ.apart 10 11 _ (by omega) (hall _ (by simp)) (hall _ (by simp)) rfl rfl (E8.out.trans (by rw [e])) E9.out)
  have hbel0 := hbel
  clear hJ hG hall hb
  go_upto_region 2 with fail
  refine wp_region_mid (fun u => (v0 :: v1 :: v2 :: u0 0 :: u0 1 :: u0 2 :: u0 3 :: u0 4 :: u1 10 :: u1 11 :: u 6 :: u 7 :: undef :: undef :: undef :: undef :: undef :: undef :: u1 0 :: u1 1 :: u1 2 :: u1 3 :: u1 4 :: u1 5 :: u1 6 :: u1 7 :: u1 8 :: u1 9 :: u 0 :: u 1 :: u 2 :: u 3 :: u 4 :: u 5 :: undef :: undef :: undef :: undef :: undef :: undef :: undef :: undef :: undef :: undef :: undef :: undef :: undef :: undef :: undef :: undef :: undef :: undef :: undef :: undef :: undef :: undef :: undef :: undef :: undef :: undef :: undef :: undef :: undef :: undef :: undef :: undef :: undef :: undef :: undef :: undef :: undef :: undef :: undef :: undef :: undef :: undef :: undef :: undef :: []).toArray) (Holds [.val rE [X + Z], .val rE [X + Z], .val rE [(X + Z) * (X + Z)], .val rE [X - Z], .val rE [X - Z], .val rE [(X - Z) * (X - Z)], .new 5, .new 5, .st 6 rE [(X + Z) * (X + Z)], .st 7 rE [(X - Z) * (X - Z)]] W1) (Keep [.val rE [X + Z], .val rE [X + Z], .val rE [(X + Z) * (X + Z)], .val rE [X - Z], .val rE [X - Z], .val rE [(X - Z) * (X - Z)], .new 5, .new 5, .st 6 rE [(X + Z) * (X + Z)], .st 7 rE [(X - Z) * (X - Z)]] W1) (fun _ => undef) (by kernel_rfl) (by kernel_rfl) ?_ (by rfl) Keep.drew (holds_soft (by kernel_rfl)) ?_ ?_
  · intro u i v h
    rcases i with _ | _ | _ | _ | _ | _ | _ | _ | _ | _ | i
    all_goals first | (simp [Act.put, putV]; done) | (exfalso; simp at h; omega)
  · intro hs
    refine ⟨?_, ?_, ?_, ?_, ?_, ?_, ?_, ?_, ?_, ?_, trivial⟩
    · exact step_load q8 0 hs (wants_none rfl) rfl rfl tyE (fun _ => E8.out) hm8.lt hm8 (noSto_apart (by kernel_rfl))
    · exact step_load q8 0 hs (wants_none rfl) rfl rfl tyE (fun _ => E8.out) hm8.lt hm8 (noSto_apart (by kernel_rfl))
    · refine step_call hs (wants_none rfl) rfl fun L u W hJ hG hL hdep K hK => ?_
      have a0 := (show IsFs rE (u 0) [X + Z] from hG 0 (hdep 0 (by kernel_rfl)))
      have a1 := (show IsFs rE (u 1) [X + Z] from hG 1 (hdep 1 (by kernel_rfl)))
      go_simp
      go_at_call 25
      (with_reducible refine (cMul a0 a1 _).mono ?_); rintro e w1 ⟨r, rfl, hr, hb⟩
      have hk := hK.out _ _ hr hb
      exact hk
    · exact step_load q9 0 hs (wants_none rfl) rfl rfl tyE (fun _ => E9.out) hm9.lt hm9 (noSto_apart (by kernel_rfl))
    · exact step_load q9 0 hs (wants_none rfl) rfl rfl tyE (fun _ => E9.out) hm9.lt hm9 (noSto_apart (by kernel_rfl))
    · refine step_call hs (wants_none rfl) rfl fun L u W hJ hG hL hdep K hK => ?_
      have a0 := (show IsFs rE (u 3) [X - Z] from hG 3 (hdep 3 (by kernel_rfl)))
      have a1 := (show IsFs rE (u 4) [X - Z] from hG 4 (hdep 4 (by kernel_rfl)))
      go_simp
      go_at_call 25
      (with_reducible refine (cMul a0 a1 _).mono ?_); rintro e w1 ⟨r, rfl, hr, hb⟩
      have hk := hK.out _ _ hr hb
      exact hk
    · exact step_alloc hs (wants_none rfl) rfl rfl (by omega) rfl allocE
    · exact step_alloc hs (wants_none rfl) rfl rfl (by omega) rfl allocE
    · exact step_store 6 hs (by kernel_rfl) (wants_none rfl) rfl rfl rfl (by kernel_rfl) (by kernel_rfl) (by kernel_rfl) (by kernel_rfl) (fun _ => rfl) (gives_op 2 rfl (by kernel_rfl) (fun _ => rfl)) tyE rfl
    · exact step_store 7 hs (by kernel_rfl) (wants_none rfl) rfl rfl rfl (by kernel_rfl) (by kernel_rfl) (by kernel_rfl) (by kernel_rfl) (fun _ => rfl) (gives_op 5 rfl (by kernel_rfl) (fun _ => rfl)) tyE rfl
  intro L2 u2 W2 hall hJ hG
  obtain ⟨q10, e10, hq10, _, ht10⟩ := (show ∃ g, u2 6 = .pointer (some ⟨g, 0, none⟩) ∧ W1.heap.size ≤ g ∧ 0 < 5 ∧ W2.there g 0 5 from hG 6 (by simp))
  have hm10 : HasFs rE W2 q10 0 [(X + Z) * (X + Z)] := by
    obtain ⟨g, e, _, h⟩ := (show ∃ g, u2 6 = .pointer (some ⟨g, 0, none⟩) ∧ W1.heap.size ≤ g ∧ HasFs rE W2 g 0 [(X + Z) * (X + Z)] from hG 8 (by simp))
    rw [e10] at e; cases e; exact h
  have HD10_q3 := Lib.hid (show q3 ≠ q10 by have := there_lt ht3 (by omega); omega)
  have HD10_q4 := Lib.hid (show q4 ≠ q10 by have := there_lt ht4 (by omega); omega)
  have HD10_q5 := Lib.hid (show q5 ≠ q10 by have := there_lt ht5 (by omega); omega)
  have HD10_q6 := Lib.hid (show q6 ≠ q10 by have := there_lt ht6 (by omega); omega)
  have HD10_q7 := Lib.hid (show q7 ≠ q10 by have := there_lt ht7 (by omega); omega)
  have HD10_q8 := Lib.hid (show q8 ≠ q10 by have := there_lt ht8 (by omega); omega)
  have HD10_q9 := Lib.hid (show q9 ≠ q10 by have := there_lt ht9 (by omega); omega)
  have hq10 : w.heap.size ≤ q10 := by have := hbel0.size; omega
  have E10 := Lib.hid e10; clear e10
  obtain ⟨q11, e11, hq11, _, ht11⟩ := (show ∃ g, u2 7 = .pointer (some ⟨g, 0, none⟩) ∧ W1.heap.size ≤ g ∧ 0 < 5 ∧ W2.there g 0 5 from hG 7 (by simp))
  have hm11 : HasFs rE W2 q11 0 [(X - Z) * (X - Z)] := by
    obtain ⟨g, e, _, h⟩ := (show ∃ g, u2 7 = .pointer (some ⟨g, 0, none⟩) ∧ W1.heap.size ≤ g ∧ HasFs rE W2 g 0 [(X - Z) * (X - Z)] from hG 9 (by simp))
    rw [e11] at e; cases e; exact h
  have HD11_q3 := Lib.hid (show q3 ≠ q11 by have := there_lt ht3 (by omega); omega)
  have HD11_q4 := Lib.hid (show q4 ≠ q11 by have := there_lt ht4 (by omega); omega)
  have HD11_q5 := Lib.hid (show q5 ≠ q11 by have := there_lt ht5 (by omega); omega)
  have HD11_q6 := Lib.hid (show q6 ≠ q11 by have := there_lt ht6 (by omega); omega)
  have HD11_q7 := Lib.hid (show q7 ≠ q11 by have := there_lt ht7 (by omega); omega)
  have HD11_q8 := Lib.hid (show q8 ≠ q11 by have := there_lt ht8 (by omega); omega)
  have HD11_q9 := Lib.hid (show q9 ≠ q11 by have := there_lt ht9 (by omega); omega)
  have hq11 : w.heap.size ≤ q11 := by have := hbel0.size; omega
  have E11 := Lib.hid e11; clear e11
  have hb := hJ.all rfl
  have hbel := Below.call hbel hb
  have hm3 := hm3.later hb
  have hm4 := hm4.later hb
  have hm5 := hm5.later hb
  have hm8 := hm8.later hb
  have hm9 := hm9.later hb
  have ht3 := there_later ht3 hb
  have ht4 := there_later ht4 hb
  have ht5 := there_later ht5 hb
  have ht6 := there_later ht6 hb
  have ht7 := there_later ht7 hb
  have ht8 := there_later ht8 hb
  have ht9 := there_later ht9 hb
  have HN10_11 := Lib.hid (show q10 ≠ q11 from fun e => hJ.apart 6 7 _ (by omega) (hall _ (by simp)) (hall _ (by simp)) rfl rfl (E10.out.trans (by rw [e])) E11.out)
  have hbel0 := hbel
  clear hJ hG hall hb
  go_upto_region 3 with fail
  refine wp_region_turn (fun u => (v0 :: v1 :: v2 :: u0 0 :: u0 1 :: u0 2 :: u0 3 :: u0 4 :: u1 10 :: u1 11 :: u2 6 :: u2 7 :: u 3 :: undef :: undef :: undef :: undef :: undef :: u1 0 :: u1 1 :: u1 2 :: u1 3 :: u1 4 :: u1 5 :: u1 6 :: u1 7 :: u1 8 :: u1 9 :: u2 0 :: u2 1 :: u2 2 :: u2 3 :: u2 4 :: u2 5 :: u 0 :: u 1 :: u 2 :: undef :: undef :: undef :: undef :: undef :: undef :: undef :: undef :: undef :: undef :: undef :: undef :: undef :: undef :: undef :: undef :: undef :: undef :: undef :: undef :: undef :: undef :: undef :: undef :: undef :: undef :: undef :: undef :: undef :: undef :: undef :: undef :: undef :: undef :: undef :: undef :: undef :: undef :: undef :: undef :: undef :: []).toArray) (Holds [.val rE [(X + Z) * (X + Z)], .val rE [(X - Z) * (X - Z)], .val rE [((X + Z) * (X + Z)) - ((X - Z) * (X - Z))], .new 5, .st 3 rE [((X + Z) * (X + Z)) - ((X - Z) * (X - Z))]] W2) (Keep [.val rE [(X + Z) * (X + Z)], .val rE [(X - Z) * (X - Z)], .val rE [((X + Z) * (X + Z)) - ((X - Z) * (X - Z))], .new 5, .st 3 rE [((X + Z) * (X + Z)) - ((X - Z) * (X - Z))]] W2) (fun _ => undef) ?_ (by rfl) Keep.start (holds_soft (by kernel_rfl)) ?_ ?_
  · intro u i v h
    rcases i with _ | _ | _ | _ | _ | i
    all_goals first | (simp [Act.put, putV]; done) | (exfalso; simp at h; omega)
  · intro hs
    refine ⟨?_, ?_, ?_, ?_, ?_, trivial⟩
    · exact step_load q10 0 hs (wants_none rfl) rfl rfl tyE (fun _ => E10.out) hm10.lt hm10 (noSto_apart (by kernel_rfl))
    · exact step_load q11 0 hs (wants_none rfl) rfl rfl tyE (fun _ => E11.out) hm11.lt hm11 (noSto_apart (by kernel_rfl))
    · refine step_call hs (wants_none rfl) rfl fun L u W hJ hG hL hdep K hK => ?_
      have a0 := (show IsFs rE (u 0) [(X + Z) * (X + Z)] from hG 0 (hdep 0 (by kernel_rfl)))
      have a1 := (show IsFs rE (u 1) [(X - Z) * (X - Z)] from hG 1 (hdep 1 (by kernel_rfl)))
      go_simp
      go_at_call 39
      (with_reducible refine (cSub a0 a1 _).mono ?_); rintro e w1 ⟨r, rfl, hr, hb⟩
      have hk := hK.out _ _ hr hb
      exact hk
    · exact step_alloc hs (wants_none rfl) rfl rfl (by omega) rfl allocE
    · exact step_store 3 hs (by kernel_rfl) (wants_none rfl) rfl rfl rfl (by kernel_rfl) (by kernel_rfl) (by kernel_rfl) (by kernel_rfl) (fun _ => rfl) (gives_op 2 rfl (by kernel_rfl) (fun _ => rfl)) tyE rfl
  intro L3 u3 W3 hall hJ hG
  obtain ⟨q12, e12, hq12, _, ht12⟩ := (show ∃ g, u3 3 = .pointer (some ⟨g, 0, none⟩) ∧ W2.heap.size ≤ g ∧ 0 < 5 ∧ W3.there g 0 5 from hG 3 (by simp))
  have hm12 : HasFs rE W3 q12 0 [((X + Z) * (X + Z)) - ((X - Z) * (X - Z))] := by
    obtain ⟨g, e, _, h⟩ := (show ∃ g, u3 3 = .pointer (some ⟨g, 0, none⟩) ∧ W2.heap.size ≤ g ∧ HasFs rE W3 g 0 [((X + Z) * (X + Z)) - ((X - Z) * (X - Z))] from hG 4 (by simp))
    rw [e12] at e; cases e; exact h
  have HD12_q3 := Lib.hid (show q3 ≠ q12 by have := there_lt ht3 (by omega); omega)
  have HD12_q4 := Lib.hid (show q4 ≠ q12 by have := there_lt ht4 (by omega); omega)
  have HD12_q5 := Lib.hid (show q5 ≠ q12 by have := there_lt ht5 (by omega); omega)
  have HD12_q6 := Lib.hid (show q6 ≠ q12 by have := there_lt ht6 (by omega); omega)
  have HD12_q7 := Lib.hid (show q7 ≠ q12 by have := there_lt ht7 (by omega); omega)
  have HD12_q8 := Lib.hid (show q8 ≠ q12 by have := there_lt ht8 (by omega); omega)
  have HD12_q9 := Lib.hid (show q9 ≠ q12 by have := there_lt ht9 (by omega); omega)
  have HD12_q10 := Lib.hid (show q10 ≠ q12 by have := there_lt ht10 (by omega); omega)
  have HD12_q11 := Lib.hid (show q11 ≠ q12 by have := there_lt ht11 (by omega); omega)
  have hq12 : w.heap.size ≤ q12 := by have := hbel0.size; omega
  have E12 := Lib.hid e12; clear e12
  have hb := hJ.all rfl
  have hbel := Below.call hbel hb
  have hm3 := hm3.later hb
  have hm4 := hm4.later hb
  have hm5 := hm5.later hb
  have hm8 := hm8.later hb
  have hm9 := hm9.later hb
  have hm10 := hm10.later hb
  have hm11 := hm11.later hb
  have ht3 := there_later ht3 hb
  have ht4 := there_later ht4 hb
  have ht5 := there_later ht5 hb
  have ht6 := there_later ht6 hb
  have ht7 := there_later ht7 hb
  have ht8 := there_later ht8 hb
  have ht9 := there_later ht9 hb
  have ht10 := there_later ht10 hb
  have ht11 := there_later ht11 hb
  have hbel0 := hbel
  clear hJ hG hall hb
  go_upto_region 4 with fail
  refine wp_region_mid (fun u => (v0 :: v1 :: v2 :: u0 0 :: u0 1 :: u0 2 :: u0 3 :: u0 4 :: u1 10 :: u1 11 :: u2 6 :: u2 7 :: u3 3 :: u 14 :: u 15 :: undef :: undef :: undef :: u1 0 :: u1 1 :: u1 2 :: u1 3 :: u1 4 :: u1 5 :: u1 6 :: u1 7 :: u1 8 :: u1 9 :: u2 0 :: u2 1 :: u2 2 :: u2 3 :: u2 4 :: u2 5 :: u3 0 :: u3 1 :: u3 2 :: u 0 :: u 1 :: u 2 :: u 3 :: u 4 :: u 5 :: u 6 :: u 7 :: u 8 :: u 9 :: u 10 :: u 11 :: u 12 :: u 13 :: undef :: undef :: undef :: undef :: undef :: undef :: undef :: undef :: undef :: undef :: undef :: undef :: undef :: undef :: undef :: undef :: undef :: undef :: undef :: undef :: undef :: undef :: undef :: undef :: undef :: undef :: undef :: []).toArray) (Holds [.ptr q5 0, .val rE [X'], .ptr q5 5, .val rE [Z'], .val rE [X' - Z'], .val rE [X + Z], .val rE [(X' - Z') * (X + Z)], .ptr q5 0, .val rE [X'], .ptr q5 5, .val rE [Z'], .val rE [X' + Z'], .val rE [X - Z], .val rE [(X' + Z') * (X - Z)], .new 5, .new 5, .st 14 rE [(X' - Z') * (X + Z)], .st 15 rE [(X' + Z') * (X - Z)]] W3) (Keep [.ptr q5 0, .val rE [X'], .ptr q5 5, .val rE [Z'], .val rE [X' - Z'], .val rE [X + Z], .val rE [(X' - Z') * (X + Z)], .ptr q5 0, .val rE [X'], .ptr q5 5, .val rE [Z'], .val rE [X' + Z'], .val rE [X - Z], .val rE [(X' + Z') * (X - Z)], .new 5, .new 5, .st 14 rE [(X' - Z') * (X + Z)], .st 15 rE [(X' + Z') * (X - Z)]] W3) (fun _ => undef) (by kernel_rfl) (by kernel_rfl) ?_ (by rfl) Keep.drew (holds_soft (by kernel_rfl)) ?_ ?_
  · intro u i v h
    rcases i with _ | _ | _ | _ | _ | _ | _ | _ | _ | _ | _ | _ | _ | _ | _ | _ | _ | _ | i
    all_goals first | (simp [Act.put, putV]; done) | (exfalso; simp at h; omega)
  · intro hs
    refine ⟨?_, ?_, ?_, ?_, ?_, ?_, ?_, ?_, ?_, ?_, ?_, ?_, ?_, ?_, ?_, ?_, ?_, ?_, trivial⟩
    · exact step_field hs (wants_none rfl) rfl rfl (fun _ => E5.out) (field_point0 _)
    · exact step_loadF 0 q5 0 hs (wants_none rfl) rfl rfl tyE (fun _ => rfl) rfl (by kernel_rfl) hm5.lt (hm5.fld 0 1) (noSto_apart (by kernel_rfl))
    · exact step_field hs (wants_none rfl) rfl rfl (fun _ => E5.out) (field_point1 _)
    · exact step_loadF 2 q5 5 hs (wants_none rfl) rfl rfl tyE (fun _ => rfl) rfl (by kernel_rfl) hm5.lt (hm5.fld 1 1) (noSto_apart (by kernel_rfl))
    · refine step_call hs (wants_none rfl) rfl fun L u W hJ hG hL hdep K hK => ?_
      have a0 := (show IsFs rE (u 1) [X'] from hG 1 (hdep 1 (by kernel_rfl)))
      have a1 := (show IsFs rE (u 3) [Z'] from hG 3 (hdep 3 (by kernel_rfl)))
      go_simp
      go_at_call 39
      (with_reducible refine (cSub a0 a1 _).mono ?_); rintro e w1 ⟨r, rfl, hr, hb⟩
      have hk := hK.out _ _ hr hb
      exact hk
    · exact step_load q8 0 hs (wants_none rfl) rfl rfl tyE (fun _ => E8.out) hm8.lt hm8 (noSto_apart (by kernel_rfl))
    · refine step_call hs (wants_none rfl) rfl fun L u W hJ hG hL hdep K hK => ?_
      have a0 := (show IsFs rE (u 4) [X' - Z'] from hG 4 (hdep 4 (by kernel_rfl)))
      have a1 := (show IsFs rE (u 5) [X + Z] from hG 5 (hdep 5 (by kernel_rfl)))
      go_simp
      go_at_call 25
      (with_reducible refine (cMul a0 a1 _).mono ?_); rintro e w1 ⟨r, rfl, hr, hb⟩
      have hk := hK.out _ _ hr hb
      exact hk
    · exact step_field hs (wants_none rfl) rfl rfl (fun _ => E5.out) (field_point0 _)
    · exact step_loadF 7 q5 0 hs (wants_none rfl) rfl rfl tyE (fun _ => rfl) rfl (by kernel_rfl) hm5.lt (hm5.fld 0 1) (noSto_apart (by kernel_rfl))
    · exact step_field hs (wants_none rfl) rfl rfl (fun _ => E5.out) (field_point1 _)
    · exact step_loadF 9 q5 5 hs (wants_none rfl) rfl rfl tyE (fun _ => rfl) rfl (by kernel_rfl) hm5.lt (hm5.fld 1 1) (noSto_apart (by kernel_rfl))
    · refine step_call hs (wants_none rfl) rfl fun L u W hJ hG hL hdep K hK => ?_
      have a0 := (show IsFs rE (u 8) [X'] from hG 8 (hdep 8 (by kernel_rfl)))
      have a1 := (show IsFs rE (u 10) [Z'] from hG 10 (hdep 10 (by kernel_rfl)))
      go_simp
      go_at_call 38
      (with_reducible refine (cAdd a0 a1 _).mono ?_); rintro e w1 ⟨r, rfl, hr, hb⟩
      have hk := hK.out _ _ hr hb
      exact hk
    · exact step_load q9 0 hs (wants_none rfl) rfl rfl tyE (fun _ => E9.out) hm9.lt hm9 (noSto_apart (by kernel_rfl))
    · refine step_call hs (wants_none rfl) rfl fun L u W hJ hG hL hdep K hK => ?_
      have a0 := (show IsFs rE (u 11) [X' + Z'] from hG 11 (hdep 11 (by kernel_rfl)))
      have a1 := (show IsFs rE (u 12) [X - Z] from hG 12 (hdep 12 (by kernel_rfl)))
      go_simp
      go_at_call 25
      (with_reducible refine (cMul a0 a1 _).mono ?_); rintro e w1 ⟨r, rfl, hr, hb⟩
      have hk := hK.out _ _ hr hb
      exact hk
    · exact step_alloc hs (wants_none rfl) rfl rfl (by omega) rfl allocE
    · exact step_alloc hs (wants_none rfl) rfl rfl (by omega) rfl allocE
    · exact step_store 14 hs (by kernel_rfl) (wants_none rfl) rfl rfl rfl (by kernel_rfl) (by kernel_rfl) (by kernel_rfl) (by kernel_rfl) (fun _ => rfl) (gives_op 6 rfl (by kernel_rfl) (fun _ => rfl)) tyE rfl
    · exact step_store 15 hs (by kernel_rfl) (wants_none rfl) rfl rfl rfl (by kernel_rfl) (by kernel_rfl) (by kernel_rfl) (by kernel_rfl) (fun _ => rfl) (gives_op 13 rfl (by kernel_rfl) (fun _ => rfl)) tyE rfl
  intro L4 u4 W4 hall hJ hG
  obtain ⟨q13, e13, hq13, _, ht13⟩ := (show ∃ g, u4 14 = .pointer (some ⟨g, 0, none⟩) ∧ W3.heap.size ≤ g ∧ 0 < 5 ∧ W4.there g 0 5 from hG 14 (by simp))
  have hm13 : HasFs rE W4 q13 0 [(X' - Z') * (X + Z)] := by
    obtain ⟨g, e, _, h⟩ := (show ∃ g, u4 14 = .pointer (some ⟨g, 0, none⟩) ∧ W3.heap.size ≤ g ∧ HasFs rE W4 g 0 [(X' - Z') * (X + Z)] from hG 16 (by simp))
    rw [e13] at e; cases e; exact h
  have HD13_q3 := Lib.hid (show q3 ≠ q13 by have := there_lt ht3 (by omega); omega)
  have HD13_q4 := Lib.hid (show q4 ≠ q13 by have := there_lt ht4 (by omega); omega)
  have HD13_q5 := Lib.hid (show q5 ≠ q13 by have := there_lt ht5 (by omega); omega)
  have HD13_q6 := Lib.hid (show q6 ≠ q13 by have := there_lt ht6 (by omega); omega)
  have HD13_q7 := Lib.hid (show q7 ≠ q13 by have := there_lt ht7 (by omega); omega)
  have HD13_q8 := Lib.hid (show q8 ≠ q13 by have := there_lt ht8 (by omega); omega)
  have HD13_q9 := Lib.hid (show q9 ≠ q13 by have := there_lt ht9 (by omega); omega)
  have HD13_q10 := Lib.hid (show q10 ≠ q13 by have := there_lt ht10 (by omega); omega)
  have HD13_q11 := Lib.hid (show q11 ≠ q13 by have := there_lt ht11 (by omega); omega)
  have HD13_q12 := Lib.hid (show q12 ≠ q13 by have := there_lt ht12 (by omega); omega)
  have hq13 : w.heap.size ≤ q13 := by have := hbel0.size; omega
  have E13 := Lib.hid e13; clear e13
  obtain ⟨q14, e14, hq14, _, ht14⟩ := (show ∃ g, u4 15 = .pointer (some ⟨g, 0, none⟩) ∧ W3.heap.size ≤ g ∧ 0 < 5 ∧ W4.there g 0 5 from hG 15 (by simp))
  have hm14 : HasFs rE W4 q14 0 [(X' + Z') * (X - Z)] := by
    obtain ⟨g, e, _, h⟩ := (show ∃ g, u4 15 = .pointer (some ⟨g, 0, none⟩) ∧ W3.heap.size ≤ g ∧ HasFs rE W4 g 0 [(X' + Z') * (X - Z)] from hG 17 (by simp))
    rw [e14] at e; cases e; exact h
  have HD14_q3 := Lib.hid (show q3 ≠ q14 by have := there_lt ht3 (by omega); omega)
  have HD14_q4 := Lib.hid (show q4 ≠ q14 by have := there_lt ht4 (by omega); omega)
  have HD14_q5 := Lib.hid (show q5 ≠ q14 by have := there_lt ht5 (by omega); omega)
  have HD14_q6 := Lib.hid (show q6 ≠ q14 by have := there_lt ht6 (by omega); omega)
  have HD14_q7 := Lib.hid (show q7 ≠ q14 by have := there_lt ht7 (by omega); omega)
  have HD14_q8 := Lib.hid (show q8 ≠ q14 by have := there_lt ht8 (by omega); omega)
  have HD14_q9 := Lib.hid (show q9 ≠ q14 by have := there_lt ht9 (by omega); omega)
  have HD14_q10 := Lib.hid (show q10 ≠ q14 by have := there_lt ht10 (by omega); omega)
  have HD14_q11 := Lib.hid (show q11 ≠ q14 by have := there_lt ht11 (by omega); omega)
  have HD14_q12 := Lib.hid (show q12 ≠ q14 by have := there_lt ht12 (by omega); omega)
  have hq14 : w.heap.size ≤ q14 := by have := hbel0.size; omega
  have E14 := Lib.hid e14; clear e14
  have hb := hJ.all rfl
  have hbel := Below.call hbel hb
  have hm3 := hm3.later hb
  have hm4 := hm4.later hb
  have hm5 := hm5.later hb
  have hm8 := hm8.later hb
  have hm9 := hm9.later hb
  have hm10 := hm10.later hb
  have hm11 := hm11.later hb
  have hm12 := hm12.later hb
  have ht3 := there_later ht3 hb
  have ht4 := there_later ht4 hb
  have ht5 := there_later ht5 hb
  have ht6 := there_later ht6 hb
  have ht7 := there_later ht7 hb
  have ht8 := there_later ht8 hb
  have ht9 := there_later ht9 hb
  have ht10 := there_later ht10 hb
  have ht11 := there_later ht11 hb
  have ht12 := there_later ht12 hb
  have HN13_14 := Lib.hid (show q13 ≠ q14 from fun e => hJ.apart 14 15 _ (by omega) (hall _ (by simp)) (hall _ (by simp)) rfl rfl (E13.out.trans (by rw [e])) E14.out)
  have hbel0 := hbel
  clear hJ hG hall hb
  go_upto_region 5 with fail
  refine wp_region_mid (fun u => (v0 :: v1 :: v2 :: u0 0 :: u0 1 :: u0 2 :: u0 3 :: u0 4 :: u1 10 :: u1 11 :: u2 6 :: u2 7 :: u3 3 :: u4 14 :: u4 15 :: u 6 :: u 7 :: undef :: u1 0 :: u1 1 :: u1 2 :: u1 3 :: u1 4 :: u1 5 :: u1 6 :: u1 7 :: u1 8 :: u1 9 :: u2 0 :: u2 1 :: u2 2 :: u2 3 :: u2 4 :: u2 5 :: u3 0 :: u3 1 :: u3 2 :: u4 0 :: u4 1 :: u4 2 :: u4 3 :: u4 4 :: u4 5 :: u4 6 :: u4 7 :: u4 8 :: u4 9 :: u4 10 :: u4 11 :: u4 12 :: u4 13 :: u 0 :: u 1 :: u 2 :: u 3 :: u 4 :: u 5 :: undef :: undef :: undef :: undef :: undef :: undef :: undef :: undef :: undef :: undef :: undef :: undef :: undef :: undef :: undef :: undef :: undef :: undef :: undef :: undef :: undef :: []).toArray) (Holds [.val rE [(X' - Z') * (X + Z)], .val rE [(X' + Z') * (X - Z)], .val rE [((X' - Z') * (X + Z)) + ((X' + Z') * (X - Z))], .val rE [(X' - Z') * (X + Z)], .val rE [(X' + Z') * (X - Z)], .val rE [((X' - Z') * (X + Z)) - ((X' + Z') * (X - Z))], .new 5, .new 5, .st 6 rE [((X' - Z') * (X + Z)) + ((X' + Z') * (X - Z))], .st 7 rE [((X' - Z') * (X + Z)) - ((X' + Z') * (X - Z))]] W4) (Keep [.val rE [(X' - Z') * (X + Z)], .val rE [(X' + Z') * (X - Z)], .val rE [((X' - Z') * (X + Z)) + ((X' + Z') * (X - Z))], .val rE [(X' - Z') * (X + Z)], .val rE [(X' + Z') * (X - Z)], .val rE [((X' - Z') * (X + Z)) - ((X' + Z') * (X - Z))], .new 5, .new 5, .st 6 rE [((X' - Z') * (X + Z)) + ((X' + Z') * (X - Z))], .st 7 rE [((X' - Z') * (X + Z)) - ((X' + Z') * (X - Z))]] W4) (fun _ => undef) (by kernel_rfl) (by kernel_rfl) ?_ (by rfl) Keep.drew (holds_soft (by kernel_rfl)) ?_ ?_
  · intro u i v h
    rcases i with _ | _ | _ | _ | _ | _ | _ | _ | _ | _ | i
    all_goals first | (simp [Act.put, putV]; done) | (exfalso; simp at h; omega)
  · intro hs
    refine ⟨?_, ?_, ?_, ?_, ?_, ?_, ?_, ?_, ?_, ?_, trivial⟩
    · exact step_load q13 0 hs (wants_none rfl) rfl rfl tyE (fun _ => E13.out) hm13.lt hm13 (noSto_apart (by kernel_rfl))
    · exact step_load q14 0 hs (wants_none rfl) rfl rfl tyE (fun _ => E14.out) hm14.lt hm14 (noSto_apart (by kernel_rfl))
    · refine step_call hs (wants_none rfl) rfl fun L u W hJ hG hL hdep K hK => ?_
      have a0 := (show IsFs rE (u 0) [(X' - Z') * (X + Z)] from hG 0 (hdep 0 (by kernel_rfl)))
      have a1 := (show IsFs rE (u 1) [(X' + Z') * (X - Z)] from hG 1 (hdep 1 (by kernel_rfl)))
      go_simp
      go_at_call 38
      (with_reducible refine (cAdd a0 a1 _).mono ?_); rintro e w1 ⟨r, rfl, hr, hb⟩
      have hk := hK.out _ _ hr hb
      exact hk
    · exact step_load q13 0 hs (wants_none rfl) rfl rfl tyE (fun _ => E13.out) hm13.lt hm13 (noSto_apart (by kernel_rfl))
    · exact step_load q14 0 hs (wants_none rfl) rfl rfl tyE (fun _ => E14.out) hm14.lt hm14 (noSto_apart (by kernel_rfl))
    · refine step_call hs (wants_none rfl) rfl fun L u W hJ hG hL hdep K hK => ?_
      have a0 := (show IsFs rE (u 3) [(X' - Z') * (X + Z)] from hG 3 (hdep 3 (by kernel_rfl)))
      have a1 := (show IsFs rE (u 4) [(X' + Z') * (X - Z)] from hG 4 (hdep 4 (by kernel_rfl)))
      go_simp
      go_at_call 39
      (with_reducible refine (cSub a0 a1 _).mono ?_); rintro e w1 ⟨r, rfl, hr, hb⟩
      have hk := hK.out _ _ hr hb
      exact hk
    · exact step_alloc hs (wants_none rfl) rfl rfl (by omega) rfl allocE
    · exact step_alloc hs (wants_none rfl) rfl rfl (by omega) rfl allocE
    · exact step_store 6 hs (by kernel_rfl) (wants_none rfl) rfl rfl rfl (by kernel_rfl) (by kernel_rfl) (by kernel_rfl) (by kernel_rfl) (fun _ => rfl) (gives_op 2 rfl (by kernel_rfl) (fun _ => rfl)) tyE rfl
    · exact step_store 7 hs (by kernel_rfl) (wants_none rfl) rfl rfl rfl (by kernel_rfl) (by kernel_rfl) (by kernel_rfl) (by kernel_rfl) (fun _ => rfl) (gives_op 5 rfl (by kernel_rfl) (fun _ => rfl)) tyE rfl
  intro L5 u5 W5 hall hJ hG
  obtain ⟨q15, e15, hq15, _, ht15⟩ := (show ∃ g, u5 6 = .pointer (some ⟨g, 0, none⟩) ∧ W4.heap.size ≤ g ∧ 0 < 5 ∧ W5.there g 0 5 from hG 6 (by simp))
  have hm15 : HasFs rE W5 q15 0 [((X' - Z') * (X + Z)) + ((X' + Z') * (X - Z))] := by
    obtain ⟨g, e, _, h⟩ := (show ∃ g, u5 6 = .pointer (some ⟨g, 0, none⟩) ∧ W4.heap.size ≤ g ∧ HasFs rE W5 g 0 [((X' - Z') * (X + Z)) + ((X' + Z') * (X - Z))] from hG 8 (by simp))
    rw [e15] at e; cases e; exact h
  have HD15_q3 := Lib.hid (show q3 ≠ q15 by have := there_lt ht3 (by omega); omega)
  have HD15_q4 := Lib.hid (show q4 ≠ q15 by have := there_lt ht4 (by omega); omega)
  have HD15_q5 := Lib.hid (show q5 ≠ q15 by have := there_lt ht5 (by omega); omega)
  have HD15_q6 := Lib.hid (show q6 ≠ q15 by have := there_lt ht6 (by omega); omega)
  have HD15_q7 := Lib.hid (show q7 ≠ q15 by have := there_lt ht7 (by omega); omega)
  have HD15_q8 := Lib.hid (show q8 ≠ q15 by have := there_lt ht8 (by omega); omega)
  have HD15_q9 := Lib.hid (show q9 ≠ q15 by have := there_lt ht9 (by omega); omega)
  have HD15_q10 := Lib.hid (show q10 ≠ q15 by have := there_lt ht10 (by omega); omega)
  have HD15_q11 := Lib.hid (show q11 ≠ q15 by have := there_lt ht11 (by omega); omega)
  have HD15_q12 := Lib.hid (show q12 ≠ q15 by have := there_lt ht12 (by omega); omega)
  have HD15_q13 := Lib.hid (show q13 ≠ q15 by have := there_lt ht13 (by omega); omega)
  have HD15_q14 := Lib.hid (show q14 ≠ q15 by have := there_lt ht14 (by omega); omega)
  have hq15 : w.heap.size ≤ q15 := by have := hbel0.size; omega
  have E15 := Lib.hid e15; clear e15
  obtain ⟨q16, e16, hq16, _, ht16⟩ := (show ∃ g, u5 7 = .pointer (some ⟨g, 0, none⟩) ∧ W4.heap.size ≤ g ∧ 0 < 5 ∧ W5.there g 0 5 from hG 7 (by simp))
  have hm16 : HasFs rE W5 q16 0 [((X' - Z') * (X + Z)) - ((X' + Z') * (X - Z))] := by
    obtain ⟨g, e, _, h⟩ := (show ∃ g, u5 7 = .pointer (some ⟨g, 0, none⟩) ∧ W4.heap.size ≤ g ∧ HasFs rE W5 g 0 [((X' - Z') * (X + Z)) - ((X' + Z') * (X - Z))] from hG 9 (by simp))
    rw [e16] at e; cases e; exact h
  have HD16_q3 := Lib.hid (show q3 ≠ q16 by have := there_lt ht3 (by omega); omega)
  have HD16_q4 := Lib.hid (show q4 ≠ q16 by have := there_lt ht4 (by omega); omega)
  have HD16_q5 := Lib.hid (show q5 ≠ q16 by have := there_lt ht5 (by omega); omega)
  have HD16_q6 := Lib.hid (show q6 ≠ q16 by have := there_lt ht6 (by omega); omega)
  have HD16_q7 := Lib.hid (show q7 ≠ q16 by have := there_lt ht7 (by omega); omega)
  have HD16_q8 := Lib.hid (show q8 ≠ q16 by have := there_lt ht8 (by omega); omega)
  have HD16_q9 := Lib.hid (show q9 ≠ q16 by have := there_lt ht9 (by omega); omega)
  have HD16_q10 := Lib.hid (show q10 ≠ q16 by have := there_lt ht10 (by omega); omega)
  have HD16_q11 := Lib.hid (show q11 ≠ q16 by have := there_lt ht11 (by omega); omega)
  have HD16_q12 := Lib.hid (show q12 ≠ q16 by have := there_lt ht12 (by omega); omega)
  have HD16_q13 := Lib.hid (show q13 ≠ q16 by have := there_lt ht13 (by omega); omega)
  have HD16_q14 := Lib.hid (show q14 ≠ q16 by have := there_lt ht14 (by omega); omega)
  have hq16 : w.heap.size ≤ q16 := by have := hbel0.size; omega
  have E16 := Lib.hid e16; clear e16
  have hb := hJ.all rfl
  have hbel := Below.call hbel hb
  have hm3 := hm3.later hb
  have hm4 := hm4.later hb
  have hm5 := hm5.later hb
  have hm8 := hm8.later hb
  have hm9 := hm9.later hb
  have hm10 := hm10.later hb
  have hm11 := hm11.later hb
  have hm12 := hm12.later hb
  have hm13 := hm13.later hb
  have hm14 := hm14.later hb
  have ht3 := there_later ht3 hb
  have ht4 := there_later ht4 hb
  have ht5 := there_later ht5 hb
  have ht6 := there_later ht6 hb
  have ht7 := there_later ht7 hb
  have ht8 := there_later ht8 hb
  have ht9 := there_later ht9 hb
  have ht10 := there_later ht10 hb
  have ht11 := there_later ht11 hb
  have ht12 := there_later ht12 hb
  have ht13 := there_later ht13 hb
  have ht14 := there_later ht14 hb
  have HN15_16 := Lib.hid (show q15 ≠ q16 from fun e => hJ.apart 6 7 _ (by omega) (hall _ (by simp)) (hall _ (by simp)) rfl rfl (E15.out.trans (by rw [e])) E16.out)
  have hbel0 := hbel
  clear hJ hG hall hb
  go_upto_region 6 with fail
  refine wp_region_mid (fun u => (v0 :: v1 :: v2 :: u0 0 :: u0 1 :: u0 2 :: u0 3 :: u0 4 :: u1 10 :: u1 11 :: u2 6 :: u2 7 :: u3 3 :: u4 14 :: u4 15 :: u5 6 :: u5 7 :: u 11 :: u1 0 :: u1 1 :: u1 2 :: u1 3 :: u1 4 :: u1 5 :: u1 6 :: u1 7 :: u1 8 :: u1 9 :: u2 0 :: u2 1 :: u2 2 :: u2 3 :: u2 4 :: u2 5 :: u3 0 :: u3 1 :: u3 2 :: u4 0 :: u4 1 :: u4 2 :: u4 3 :: u4 4 :: u4 5 :: u4 6 :: u4 7 :: u4 8 :: u4 9 :: u4 10 :: u4 11 :: u4 12 :: u4 13 :: u5 0 :: u5 1 :: u5 2 :: u5 3 :: u5 4 :: u5 5 :: u 0 :: u 1 :: u 2 :: u 3 :: u 4 :: u 5 :: u 6 :: u 7 :: u 8 :: u 9 :: u 10 :: undef :: undef :: undef :: undef :: undef :: undef :: undef :: undef :: undef :: undef :: []).toArray) (Holds [.val rE [(X + Z) * (X + Z)], .val rE [(X - Z) * (X - Z)], .val rE [((X + Z) * (X + Z)) * ((X - Z) * (X - Z))], .val rE [((X + Z) * (X + Z)) - ((X - Z) * (X - Z))], .val rE [(X + Z) * (X + Z)], .val rE [((X + Z) * (X + Z)) - ((X - Z) * (X - Z))], .val rE [fn 121665], .val rE [(((X + Z) * (X + Z)) - ((X - Z) * (X - Z))) * (fn 121665)], .val rE [((X + Z) * (X + Z)) + ((((X + Z) * (X + Z)) - ((X - Z) * (X - Z))) * (fn 121665))], .val rE [(((X + Z) * (X + Z)) - ((X - Z) * (X - Z))) * (((X + Z) * (X + Z)) + ((((X + Z) * (X + Z)) - ((X - Z) * (X - Z))) * (fn 121665)))], .val rE [((X + Z) * (X + Z)) * ((X - Z) * (X - Z)), (((X + Z) * (X + Z)) - ((X - Z) * (X - Z))) * (((X + Z) * (X + Z)) + ((((X + Z) * (X + Z)) - ((X - Z) * (X - Z))) * (fn 121665)))], .new 10, .st 11 rE [((X + Z) * (X + Z)) * ((X - Z) * (X - Z)), (((X + Z) * (X + Z)) - ((X - Z) * (X - Z))) * (((X + Z) * (X + Z)) + ((((X + Z) * (X + Z)) - ((X - Z) * (X - Z))) * (fn 121665)))]] W5) (Keep [.val rE [(X + Z) * (X + Z)], .val rE [(X - Z) * (X - Z)], .val rE [((X + Z) * (X + Z)) * ((X - Z) * (X - Z))], .val rE [((X + Z) * (X + Z)) - ((X - Z) * (X - Z))], .val rE [(X + Z) * (X + Z)], .val rE [((X + Z) * (X + Z)) - ((X - Z) * (X - Z))], .val rE [fn 121665], .val rE [(((X + Z) * (X + Z)) - ((X - Z) * (X - Z))) * (fn 121665)], .val rE [((X + Z) * (X + Z)) + ((((X + Z) * (X + Z)) - ((X - Z) * (X - Z))) * (fn 121665))], .val rE [(((X + Z) * (X + Z)) - ((X - Z) * (X - Z))) * (((X + Z) * (X + Z)) + ((((X + Z) * (X + Z)) - ((X - Z) * (X - Z))) * (fn 121665)))], .val rE [((X + Z) * (X + Z)) * ((X - Z) * (X - Z)), (((X + Z) * (X + Z)) - ((X - Z) * (X - Z))) * (((X + Z) * (X + Z)) + ((((X + Z) * (X + Z)) - ((X - Z) * (X - Z))) * (fn 121665)))], .new 10, .st 11 rE [((X + Z) * (X + Z)) * ((X - Z) * (X - Z)), (((X + Z) * (X + Z)) - ((X - Z) * (X - Z))) * (((X + Z) * (X + Z)) + ((((X + Z) * (X + Z)) - ((X - Z) * (X - Z))) * (fn 121665)))]] W5) (fun _ => undef) (by kernel_rfl) (by kernel_rfl) ?_ (by rfl) Keep.drew (holds_soft (by kernel_rfl)) ?_ ?_
  · intro u i v h
    rcases i with _ | _ | _ | _ | _ | _ | _ | _ | _ | _ | _ | _ | _ | i
    all_goals first | (simp [Act.put, putV]; done) | (exfalso; simp at h; omega)
  · intro hs
    refine ⟨?_, ?_, ?_, ?_, ?_, ?_, ?_, ?_, ?_, ?_, ?_, ?_, ?_, trivial⟩
    · exact step_load q10 0 hs (wants_none rfl) rfl rfl tyE (fun _ => E10.out) hm10.lt hm10 (noSto_apart (by kernel_rfl))
    · exact step_load q11 0 hs (wants_none rfl) rfl rfl tyE (fun _ => E11.out) hm11.lt hm11 (noSto_apart (by kernel_rfl))
    · refine step_call hs (wants_none rfl) rfl fun L u W hJ hG hL hdep K hK => ?_
      have a0 := (show IsFs rE (u 0) [(X + Z) * (X + Z)] from hG 0 (hdep 0 (by kernel_rfl)))
      have a1 := (show IsFs rE (u 1) [(X - Z) * (X - Z)] from hG 1 (hdep 1 (by kernel_rfl)))
      go_simp
      go_at_call 25
      (with_reducible refine (cMul a0 a1 _).mono ?_); rintro e w1 ⟨r, rfl, hr, hb⟩
      have hk := hK.out _ _ hr hb
      exact hk
    · exact step_load q12 0 hs (wants_none rfl) rfl rfl tyE (fun _ => E12.out) hm12.lt hm12 (noSto_apart (by kernel_rfl))
    · exact step_load q10 0 hs (wants_none rfl) rfl rfl tyE (fun _ => E10.out) hm10.lt hm10 (noSto_apart (by kernel_rfl))
    · exact step_load q12 0 hs (wants_none rfl) rfl rfl tyE (fun _ => E12.out) hm12.lt hm12 (noSto_apart (by kernel_rfl))
    · refine step_call hs (wants_none rfl) rfl fun L u W hJ hG hL hdep K hK => ?_
      go_simp
      go_at_call 22
      (with_reducible refine (cSmallI (n := 121665) (z := 121665) rfl (by omega) _).mono ?_); rintro e w1 ⟨r, rfl, hr, hb⟩
      have hk := hK.out _ _ hr hb
      exact hk
    · refine step_call hs (wants_none rfl) rfl fun L u W hJ hG hL hdep K hK => ?_
      have a0 := (show IsFs rE (u 5) [((X + Z) * (X + Z)) - ((X - Z) * (X - Z))] from hG 5 (hdep 5 (by kernel_rfl)))
      have a1 := (show IsFs rE (u 6) [fn 121665] from hG 6 (hdep 6 (by kernel_rfl)))
      go_simp
      go_at_call 25
      (with_reducible refine (cMul a0 a1 _).mono ?_); rintro e w1 ⟨r, rfl, hr, hb⟩
      have hk := hK.out _ _ hr hb
      exact hk
    · refine step_call hs (wants_none rfl) rfl fun L u W hJ hG hL hdep K hK => ?_
      have a0 := (show IsFs rE (u 4) [(X + Z) * (X + Z)] from hG 4 (hdep 4 (by kernel_rfl)))
      have a1 := (show IsFs rE (u 7) [(((X + Z) * (X + Z)) - ((X - Z) * (X - Z))) * (fn 121665)] from hG 7 (hdep 7 (by kernel_rfl)))
      go_simp
      go_at_call 38
      (with_reducible refine (cAdd a0 a1 _).mono ?_); rintro e w1 ⟨r, rfl, hr, hb⟩
      have hk := hK.out _ _ hr hb
      exact hk
    · refine step_call hs (wants_none rfl) rfl fun L u W hJ hG hL hdep K hK => ?_
      have a0 := (show IsFs rE (u 3) [((X + Z) * (X + Z)) - ((X - Z) * (X - Z))] from hG 3 (hdep 3 (by kernel_rfl)))
      have a1 := (show IsFs rE (u 8) [((X + Z) * (X + Z)) + ((((X + Z) * (X + Z)) - ((X - Z) * (X - Z))) * (fn 121665))] from hG 8 (hdep 8 (by kernel_rfl)))
      go_simp
      go_at_call 25
      (with_reducible refine (cMul a0 a1 _).mono ?_); rintro e w1 ⟨r, rfl, hr, hb⟩
      have hk := hK.out _ _ hr hb
      exact hk
    · refine step_pure hs (wants_none rfl) rfl fun L u W hG hdep => ?_
      have a0 := (show IsFs rE (u 2) [((X + Z) * (X + Z)) * ((X - Z) * (X - Z))] from hG 2 (hdep 2 (by kernel_rfl)))
      have a1 := (show IsFs rE (u 9) [(((X + Z) * (X + Z)) - ((X - Z) * (X - Z))) * (((X + Z) * (X + Z)) + ((((X + Z) * (X + Z)) - ((X - Z) * (X - Z))) * (fn 121665)))] from hG 9 (hdep 9 (by kernel_rfl)))
      obtain ⟨r, hr, hx⟩ := build_point a0 a1 W
      exact ⟨r, run_build2 rfl hr, hx⟩
    · exact step_alloc hs (wants_none rfl) rfl rfl (by omega) rfl allocpoint
    · exact step_store 11 hs (by kernel_rfl) (wants_none rfl) rfl rfl rfl (by kernel_rfl) (by kernel_rfl) (by kernel_rfl) (by kernel_rfl) (fun _ => rfl) (gives_op 10 rfl (by kernel_rfl) (fun _ => rfl)) typoint rfl
  intro L6 u6 W6 hall hJ hG
  obtain ⟨q17, e17, hq17, _, ht17⟩ := (show ∃ g, u6 11 = .pointer (some ⟨g, 0, none⟩) ∧ W5.heap.size ≤ g ∧ 0 < 10 ∧ W6.there g 0 10 from hG 11 (by simp))
  have hm17 : HasFs rE W6 q17 0 [((X + Z) * (X + Z)) * ((X - Z) * (X - Z)), (((X + Z) * (X + Z)) - ((X - Z) * (X - Z))) * (((X + Z) * (X + Z)) + ((((X + Z) * (X + Z)) - ((X - Z) * (X - Z))) * (fn 121665)))] := by
    obtain ⟨g, e, _, h⟩ := (show ∃ g, u6 11 = .pointer (some ⟨g, 0, none⟩) ∧ W5.heap.size ≤ g ∧ HasFs rE W6 g 0 [((X + Z) * (X + Z)) * ((X - Z) * (X - Z)), (((X + Z) * (X + Z)) - ((X - Z) * (X - Z))) * (((X + Z) * (X + Z)) + ((((X + Z) * (X + Z)) - ((X - Z) * (X - Z))) * (fn 121665)))] from hG 12 (by simp))
    rw [e17] at e; cases e; exact h
  have HD17_q3 := Lib.hid (show q3 ≠ q17 by have := there_lt ht3 (by omega); omega)
  have HD17_q4 := Lib.hid (show q4 ≠ q17 by have := there_lt ht4 (by omega); omega)
  have HD17_q5 := Lib.hid (show q5 ≠ q17 by have := there_lt ht5 (by omega); omega)
  have HD17_q6 := Lib.hid (show q6 ≠ q17 by have := there_lt ht6 (by omega); omega)
  have HD17_q7 := Lib.hid (show q7 ≠ q17 by have := there_lt ht7 (by omega); omega)
  have HD17_q8 := Lib.hid (show q8 ≠ q17 by have := there_lt ht8 (by omega); omega)
  have HD17_q9 := Lib.hid (show q9 ≠ q17 by have := there_lt ht9 (by omega); omega)
  have HD17_q10 := Lib.hid (show q10 ≠ q17 by have := there_lt ht10 (by omega); omega)
  have HD17_q11 := Lib.hid (show q11 ≠ q17 by have := there_lt ht11 (by omega); omega)
  have HD17_q12 := Lib.hid (show q12 ≠ q17 by have := there_lt ht12 (by omega); omega)
  have HD17_q13 := Lib.hid (show q13 ≠ q17 by have := there_lt ht13 (by omega); omega)
  have HD17_q14 := Lib.hid (show q14 ≠ q17 by have := there_lt ht14 (by omega); omega)
  have HD17_q15 := Lib.hid (show q15 ≠ q17 by have := there_lt ht15 (by omega); omega)
  have HD17_q16 := Lib.hid (show q16 ≠ q17 by have := there_lt ht16 (by omega); omega)
  have hq17 : w.heap.size ≤ q17 := by have := hbel0.size; omega
  have E17 := Lib.hid e17; clear e17
  have hb := hJ.all rfl
  have hbel := Below.call hbel hb
  have hm3 := hm3.later hb
  have hm4 := hm4.later hb
  have hm5 := hm5.later hb
  have hm8 := hm8.later hb
  have hm9 := hm9.later hb
  have hm10 := hm10.later hb
  have hm11 := hm11.later hb
  have hm12 := hm12.later hb
  have hm13 := hm13.later hb
  have hm14 := hm14.later hb
  have hm15 := hm15.later hb
  have hm16 := hm16.later hb
  have ht3 := there_later ht3 hb
  have ht4 := there_later ht4 hb
  have ht5 := there_later ht5 hb
  have ht6 := there_later ht6 hb
  have ht7 := there_later ht7 hb
  have ht8 := there_later ht8 hb
  have ht9 := there_later ht9 hb
  have ht10 := there_later ht10 hb
  have ht11 := there_later ht11 hb
  have ht12 := there_later ht12 hb
  have ht13 := there_later ht13 hb
  have ht14 := there_later ht14 hb
  have ht15 := there_later ht15 hb
  have ht16 := there_later ht16 hb
  have hbel0 := hbel
  clear hJ hG hall hb
  go_upto_region 7 with fail
  refine wp_region_mid (fun u => (v0 :: v1 :: v2 :: u0 0 :: u0 1 :: u0 2 :: u0 3 :: u0 4 :: u1 10 :: u1 11 :: u2 6 :: u2 7 :: u3 3 :: u4 14 :: u4 15 :: u5 6 :: u5 7 :: u6 11 :: u1 0 :: u1 1 :: u1 2 :: u1 3 :: u1 4 :: u1 5 :: u1 6 :: u1 7 :: u1 8 :: u1 9 :: u2 0 :: u2 1 :: u2 2 :: u2 3 :: u2 4 :: u2 5 :: u3 0 :: u3 1 :: u3 2 :: u4 0 :: u4 1 :: u4 2 :: u4 3 :: u4 4 :: u4 5 :: u4 6 :: u4 7 :: u4 8 :: u4 9 :: u4 10 :: u4 11 :: u4 12 :: u4 13 :: u5 0 :: u5 1 :: u5 2 :: u5 3 :: u5 4 :: u5 5 :: u6 0 :: u6 1 :: u6 2 :: u6 3 :: u6 4 :: u6 5 :: u6 6 :: u6 7 :: u6 8 :: u6 9 :: u6 10 :: u 0 :: u 1 :: u 2 :: u 3 :: u 4 :: u 5 :: u 6 :: u 7 :: u 8 :: u 9 :: []).toArray) (Holds [.val rE [((X + Z) * (X + Z)) * ((X - Z) * (X - Z)), (((X + Z) * (X + Z)) - ((X - Z) * (X - Z))) * (((X + Z) * (X + Z)) + ((((X + Z) * (X + Z)) - ((X - Z) * (X - Z))) * (fn 121665)))], .val rE [((X' - Z') * (X + Z)) + ((X' + Z') * (X - Z))], .val rE [((X' - Z') * (X + Z)) + ((X' + Z') * (X - Z))], .val rE [(((X' - Z') * (X + Z)) + ((X' + Z') * (X - Z))) * (((X' - Z') * (X + Z)) + ((X' + Z') * (X - Z)))], .val rE [U], .val rE [((X' - Z') * (X + Z)) - ((X' + Z') * (X - Z))], .val rE [((X' - Z') * (X + Z)) - ((X' + Z') * (X - Z))], .val rE [(((X' - Z') * (X + Z)) - ((X' + Z') * (X - Z))) * (((X' - Z') * (X + Z)) - ((X' + Z') * (X - Z)))], .val rE [U * ((((X' - Z') * (X + Z)) - ((X' + Z') * (X - Z))) * (((X' - Z') * (X + Z)) - ((X' + Z') * (X - Z))))], .val rE [(((X' - Z') * (X + Z)) + ((X' + Z') * (X - Z))) * (((X' - Z') * (X + Z)) + ((X' + Z') * (X - Z))), U * ((((X' - Z') * (X + Z)) - ((X' + Z') * (X - Z))) * (((X' - Z') * (X + Z)) - ((X' + Z') * (X - Z))))], .sto q6 rE [((X + Z) * (X + Z)) * ((X - Z) * (X - Z)), (((X + Z) * (X + Z)) - ((X - Z) * (X - Z))) * (((X + Z) * (X + Z)) + ((((X + Z) * (X + Z)) - ((X - Z) * (X - Z))) * (fn 121665)))], .sto q7 rE [(((X' - Z') * (X + Z)) + ((X' + Z') * (X - Z))) * (((X' - Z') * (X + Z)) + ((X' + Z') * (X - Z))), U * ((((X' - Z') * (X + Z)) - ((X' + Z') * (X - Z))) * (((X' - Z') * (X + Z)) - ((X' + Z') * (X - Z))))]] W6) (Keep [.val rE [((X + Z) * (X + Z)) * ((X - Z) * (X - Z)), (((X + Z) * (X + Z)) - ((X - Z) * (X - Z))) * (((X + Z) * (X + Z)) + ((((X + Z) * (X + Z)) - ((X - Z) * (X - Z))) * (fn 121665)))], .val rE [((X' - Z') * (X + Z)) + ((X' + Z') * (X - Z))], .val rE [((X' - Z') * (X + Z)) + ((X' + Z') * (X - Z))], .val rE [(((X' - Z') * (X + Z)) + ((X' + Z') * (X - Z))) * (((X' - Z') * (X + Z)) + ((X' + Z') * (X - Z)))], .val rE [U], .val rE [((X' - Z') * (X + Z)) - ((X' + Z') * (X - Z))], .val rE [((X' - Z') * (X + Z)) - ((X' + Z') * (X - Z))], .val rE [(((X' - Z') * (X + Z)) - ((X' + Z') * (X - Z))) * (((X' - Z') * (X + Z)) - ((X' + Z') * (X - Z)))], .val rE [U * ((((X' - Z') * (X + Z)) - ((X' + Z') * (X - Z))) * (((X' - Z') * (X + Z)) - ((X' + Z') * (X - Z))))], .val rE [(((X' - Z') * (X + Z)) + ((X' + Z') * (X - Z))) * (((X' - Z') * (X + Z)) + ((X' + Z') * (X - Z))), U * ((((X' - Z') * (X + Z)) - ((X' + Z') * (X - Z))) * (((X' - Z') * (X + Z)) - ((X' + Z') * (X - Z))))], .sto q6 rE [((X + Z) * (X + Z)) * ((X - Z) * (X - Z)), (((X + Z) * (X + Z)) - ((X - Z) * (X - Z))) * (((X + Z) * (X + Z)) + ((((X + Z) * (X + Z)) - ((X - Z) * (X - Z))) * (fn 121665)))], .sto q7 rE [(((X' - Z') * (X + Z)) + ((X' + Z') * (X - Z))) * (((X' - Z') * (X + Z)) + ((X' + Z') * (X - Z))), U * ((((X' - Z') * (X + Z)) - ((X' + Z') * (X - Z))) * (((X' - Z') * (X + Z)) - ((X' + Z') * (X - Z))))]] W6) (fun _ => undef) (by kernel_rfl) (by kernel_rfl) ?_ (by rfl) Keep.drew (holds_soft (by kernel_rfl)) ?_ ?_
  · intro u i v h
    rcases i with _ | _ | _ | _ | _ | _ | _ | _ | _ | _ | _ | _ | i
    all_goals first | (simp [Act.put, putV]; done) | (exfalso; simp at h; omega)
  · intro hs
    refine ⟨?_, ?_, ?_, ?_, ?_, ?_, ?_, ?_, ?_, ?_, ?_, ?_, trivial⟩
    · exact step_load q17 0 hs (wants_none rfl) rfl rfl typoint (fun _ => E17.out) hm17.lt hm17 (fun k g hk => by rcases k with _ | _ | _ | _ | _ | _ | _ | _ | _ | _ | _ | _ | k <;> first | (cases hk; done) | (cases hk; exact .inr HD17_q6.out) | (cases hk; exact .inr HD17_q7.out))
    · exact step_load q15 0 hs (wants_none rfl) rfl rfl tyE (fun _ => E15.out) hm15.lt hm15 (fun k g hk => by rcases k with _ | _ | _ | _ | _ | _ | _ | _ | _ | _ | _ | _ | k <;> first | (cases hk; done) | (cases hk; exact .inr HD15_q6.out) | (cases hk; exact .inr HD15_q7.out))
    · exact step_load q15 0 hs (wants_none rfl) rfl rfl tyE (fun _ => E15.out) hm15.lt hm15 (fun k g hk => by rcases k with _ | _ | _ | _ | _ | _ | _ | _ | _ | _ | _ | _ | k <;> first | (cases hk; done) | (cases hk; exact .inr HD15_q6.out) | (cases hk; exact .inr HD15_q7.out))
    · refine step_call hs (wants_none rfl) rfl fun L u W hJ hG hL hdep K hK => ?_
      have a0 := (show IsFs rE (u 1) [((X' - Z') * (X + Z)) + ((X' + Z') * (X - Z))] from hG 1 (hdep 1 (by kernel_rfl)))
      have a1 := (show IsFs rE (u 2) [((X' - Z') * (X + Z)) + ((X' + Z') * (X - Z))] from hG 2 (hdep 2 (by kernel_rfl)))
      go_simp
      go_at_call 25
      (with_reducible refine (cMul a0 a1 _).mono ?_); rintro e w1 ⟨r, rfl, hr, hb⟩
      have hk := hK.out _ _ hr hb
      exact hk
    · exact step_load q3 0 hs (wants_none rfl) rfl rfl tyE (fun _ => E3.out) hm3.lt hm3 (fun k g hk => by rcases k with _ | _ | _ | _ | _ | _ | _ | _ | _ | _ | _ | _ | k <;> first | (cases hk; done) | (cases hk; exact .inr (Ne.symm HN3_6.out)) | (cases hk; exact .inr (Ne.symm HN3_7.out)))
    · exact step_load q16 0 hs (wants_none rfl) rfl rfl tyE (fun _ => E16.out) hm16.lt hm16 (fun k g hk => by rcases k with _ | _ | _ | _ | _ | _ | _ | _ | _ | _ | _ | _ | k <;> first | (cases hk; done) | (cases hk; exact .inr HD16_q6.out) | (cases hk; exact .inr HD16_q7.out))
    · exact step_load q16 0 hs (wants_none rfl) rfl rfl tyE (fun _ => E16.out) hm16.lt hm16 (fun k g hk => by rcases k with _ | _ | _ | _ | _ | _ | _ | _ | _ | _ | _ | _ | k <;> first | (cases hk; done) | (cases hk; exact .inr HD16_q6.out) | (cases hk; exact .inr HD16_q7.out))
    · refine step_call hs (wants_none rfl) rfl fun L u W hJ hG hL hdep K hK => ?_
      have a0 := (show IsFs rE (u 5) [((X' - Z') * (X + Z)) - ((X' + Z') * (X - Z))] from hG 5 (hdep 5 (by kernel_rfl)))
      have a1 := (show IsFs rE (u 6) [((X' - Z') * (X + Z)) - ((X' + Z') * (X - Z))] from hG 6 (hdep 6 (by kernel_rfl)))
      go_simp
      go_at_call 25
      (with_reducible refine (cMul a0 a1 _).mono ?_); rintro e w1 ⟨r, rfl, hr, hb⟩
      have hk := hK.out _ _ hr hb
      exact hk
    · refine step_call hs (wants_none rfl) rfl fun L u W hJ hG hL hdep K hK => ?_
      have a0 := (show IsFs rE (u 4) [U] from hG 4 (hdep 4 (by kernel_rfl)))
      have a1 := (show IsFs rE (u 7) [(((X' - Z') * (X + Z)) - ((X' + Z') * (X - Z))) * (((X' - Z') * (X + Z)) - ((X' + Z') * (X - Z)))] from hG 7 (hdep 7 (by kernel_rfl)))
      go_simp
      go_at_call 25
      (with_reducible refine (cMul a0 a1 _).mono ?_); rintro e w1 ⟨r, rfl, hr, hb⟩
      have hk := hK.out _ _ hr hb
      exact hk
    · refine step_pure hs (wants_none rfl) rfl fun L u W hG hdep => ?_
      have a0 := (show IsFs rE (u 3) [(((X' - Z') * (X + Z)) + ((X' + Z') * (X - Z))) * (((X' - Z') * (X + Z)) + ((X' + Z') * (X - Z)))] from hG 3 (hdep 3 (by kernel_rfl)))
      have a1 := (show IsFs rE (u 8) [U * ((((X' - Z') * (X + Z)) - ((X' + Z') * (X - Z))) * (((X' - Z') * (X + Z)) - ((X' + Z') * (X - Z))))] from hG 8 (hdep 8 (by kernel_rfl)))
      obtain ⟨r, hr, hx⟩ := build_point a0 a1 W
      exact ⟨r, run_build2 rfl hr, hx⟩
    · refine step_storeO q6 10 hs (wants_none rfl) rfl rfl (by kernel_rfl) (fun k hk => ?_) (fun _ => E6.out) (there_lt ht6 (by omega)) ht6 (gives_op 0 rfl (by kernel_rfl) (fun _ => rfl)) typoint rfl
      rcases k with _ | _ | _ | _ | _ | _ | _ | _ | _ | _ | _ | _ | k
      all_goals first | (exact absurd rfl hk) | (intro e; cases e; done) | (intro e; cases e; exact absurd rfl (Ne.symm HN6_7.out))
    · refine step_storeO q7 10 hs (wants_none rfl) rfl rfl (by kernel_rfl) (fun k hk => ?_) (fun _ => E7.out) (there_lt ht7 (by omega)) ht7 (gives_op 9 rfl (by kernel_rfl) (fun _ => rfl)) typoint rfl
      rcases k with _ | _ | _ | _ | _ | _ | _ | _ | _ | _ | _ | _ | k
      all_goals first | (exact absurd rfl hk) | (intro e; cases e; done) | (intro e; cases e; exact absurd rfl HN6_7.out)
  intro L7 u7 W7 hall hJ hG
  have hb : Below w.heap.size W6 W7 := hJ.below (by have := hbel.size; omega) (fun k b hf => by rcases k with _ | _ | _ | _ | _ | _ | _ | _ | _ | _ | _ | _ | k <;> first | (cases hf; done) | (cases hf; omega))
  have hbel := hbel.trans hb
  have hm3 := hm3.blk (hJ.block _ (hm3.lt) (fun k hk => by rcases k with _ | _ | _ | _ | _ | _ | _ | _ | _ | _ | _ | _ | k <;> first | (cases hk; done) | (cases hk; exact absurd rfl (Ne.symm HN3_6.out)) | (cases hk; exact absurd rfl (Ne.symm HN3_7.out))))
  have hm4 := hm4.blk (hJ.block _ (hm4.lt) (fun k hk => by rcases k with _ | _ | _ | _ | _ | _ | _ | _ | _ | _ | _ | _ | k <;> first | (cases hk; done) | (cases hk; exact absurd rfl (Ne.symm HN4_6.out)) | (cases hk; exact absurd rfl (Ne.symm HN4_7.out))))
  have hm5 := hm5.blk (hJ.block _ (hm5.lt) (fun k hk => by rcases k with _ | _ | _ | _ | _ | _ | _ | _ | _ | _ | _ | _ | k <;> first | (cases hk; done) | (cases hk; exact absurd rfl (Ne.symm HN5_6.out)) | (cases hk; exact absurd rfl (Ne.symm HN5_7.out))))
  have hm8 := hm8.blk (hJ.block _ (hm8.lt) (fun k hk => by rcases k with _ | _ | _ | _ | _ | _ | _ | _ | _ | _ | _ | _ | k <;> first | (cases hk; done) | (cases hk; exact absurd rfl HD8_q6.out) | (cases hk; exact absurd rfl HD8_q7.out)))
  have hm9 := hm9.blk (hJ.block _ (hm9.lt) (fun k hk => by rcases k with _ | _ | _ | _ | _ | _ | _ | _ | _ | _ | _ | _ | k <;> first | (cases hk; done) | (cases hk; exact absurd rfl HD9_q6.out) | (cases hk; exact absurd rfl HD9_q7.out)))
  have hm10 := hm10.blk (hJ.block _ (hm10.lt) (fun k hk => by rcases k with _ | _ | _ | _ | _ | _ | _ | _ | _ | _ | _ | _ | k <;> first | (cases hk; done) | (cases hk; exact absurd rfl HD10_q6.out) | (cases hk; exact absurd rfl HD10_q7.out)))
  have hm11 := hm11.blk (hJ.block _ (hm11.lt) (fun k hk => by rcases k with _ | _ | _ | _ | _ | _ | _ | _ | _ | _ | _ | _ | k <;> first | (cases hk; done) | (cases hk; exact absurd rfl HD11_q6.out) | (cases hk; exact absurd rfl HD11_q7.out)))
  have hm12 := hm12.blk (hJ.block _ (hm12.lt) (fun k hk => by rcases k with _ | _ | _ | _ | _ | _ | _ | _ | _ | _ | _ | _ | k <;> first | (cases hk; done) | (cases hk; exact absurd rfl HD12_q6.out) | (cases hk; exact absurd rfl HD12_q7.out)))
  have hm13 := hm13.blk (hJ.block _ (hm13.lt) (fun k hk => by rcases k with _ | _ | _ | _ | _ | _ | _ | _ | _ | _ | _ | _ | k <;> first | (cases hk; done) | (cases hk; exact absurd rfl HD13_q6.out) | (cases hk; exact absurd rfl HD13_q7.out)))
  have hm14 := hm14.blk (hJ.block _ (hm14.lt) (fun k hk => by rcases k with _ | _ | _ | _ | _ | _ | _ | _ | _ | _ | _ | _ | k <;> first | (cases hk; done) | (cases hk; exact absurd rfl HD14_q6.out) | (cases hk; exact absurd rfl HD14_q7.out)))
  have hm15 := hm15.blk (hJ.block _ (hm15.lt) (fun k hk => by rcases k with _ | _ | _ | _ | _ | _ | _ | _ | _ | _ | _ | _ | k <;> first | (cases hk; done) | (cases hk; exact absurd rfl HD15_q6.out) | (cases hk; exact absurd rfl HD15_q7.out)))
  have hm16 := hm16.blk (hJ.block _ (hm16.lt) (fun k hk => by rcases k with _ | _ | _ | _ | _ | _ | _ | _ | _ | _ | _ | _ | k <;> first | (cases hk; done) | (cases hk; exact absurd rfl HD16_q6.out) | (cases hk; exact absurd rfl HD16_q7.out)))
  have hm17 := hm17.blk (hJ.block _ (hm17.lt) (fun k hk => by rcases k with _ | _ | _ | _ | _ | _ | _ | _ | _ | _ | _ | _ | k <;> first | (cases hk; done) | (cases hk; exact absurd rfl HD17_q6.out) | (cases hk; exact absurd rfl HD17_q7.out)))
  have ht3 := there_blk ht3 (hJ.block _ (there_lt ht3 (by omega)) (fun k hk => by rcases k with _ | _ | _ | _ | _ | _ | _ | _ | _ | _ | _ | _ | k <;> first | (cases hk; done) | (cases hk; exact absurd rfl (Ne.symm HN3_6.out)) | (cases hk; exact absurd rfl (Ne.symm HN3_7.out))))
  have ht4 := there_blk ht4 (hJ.block _ (there_lt ht4 (by omega)) (fun k hk => by rcases k with _ | _ | _ | _ | _ | _ | _ | _ | _ | _ | _ | _ | k <;> first | (cases hk; done) | (cases hk; exact absurd rfl (Ne.symm HN4_6.out)) | (cases hk; exact absurd rfl (Ne.symm HN4_7.out))))
  have ht5 := there_blk ht5 (hJ.block _ (there_lt ht5 (by omega)) (fun k hk => by rcases k with _ | _ | _ | _ | _ | _ | _ | _ | _ | _ | _ | _ | k <;> first | (cases hk; done) | (cases hk; exact absurd rfl (Ne.symm HN5_6.out)) | (cases hk; exact absurd rfl (Ne.symm HN5_7.out))))
  have ht8 := there_blk ht8 (hJ.block _ (there_lt ht8 (by omega)) (fun k hk => by rcases k with _ | _ | _ | _ | _ | _ | _ | _ | _ | _ | _ | _ | k <;> first | (cases hk; done) | (cases hk; exact absurd rfl HD8_q6.out) | (cases hk; exact absurd rfl HD8_q7.out)))
  have ht9 := there_blk ht9 (hJ.block _ (there_lt ht9 (by omega)) (fun k hk => by rcases k with _ | _ | _ | _ | _ | _ | _ | _ | _ | _ | _ | _ | k <;> first | (cases hk; done) | (cases hk; exact absurd rfl HD9_q6.out) | (cases hk; exact absurd rfl HD9_q7.out)))
  have ht10 := there_blk ht10 (hJ.block _ (there_lt ht10 (by omega)) (fun k hk => by rcases k with _ | _ | _ | _ | _ | _ | _ | _ | _ | _ | _ | _ | k <;> first | (cases hk; done) | (cases hk; exact absurd rfl HD10_q6.out) | (cases hk; exact absurd rfl HD10_q7.out)))
  have ht11 := there_blk ht11 (hJ.block _ (there_lt ht11 (by omega)) (fun k hk => by rcases k with _ | _ | _ | _ | _ | _ | _ | _ | _ | _ | _ | _ | k <;> first | (cases hk; done) | (cases hk; exact absurd rfl HD11_q6.out) | (cases hk; exact absurd rfl HD11_q7.out)))
  have ht12 := there_blk ht12 (hJ.block _ (there_lt ht12 (by omega)) (fun k hk => by rcases k with _ | _ | _ | _ | _ | _ | _ | _ | _ | _ | _ | _ | k <;> first | (cases hk; done) | (cases hk; exact absurd rfl HD12_q6.out) | (cases hk; exact absurd rfl HD12_q7.out)))
  have ht13 := there_blk ht13 (hJ.block _ (there_lt ht13 (by omega)) (fun k hk => by rcases k with _ | _ | _ | _ | _ | _ | _ | _ | _ | _ | _ | _ | k <;> first | (cases hk; done) | (cases hk; exact absurd rfl HD13_q6.out) | (cases hk; exact absurd rfl HD13_q7.out)))
  have ht14 := there_blk ht14 (hJ.block _ (there_lt ht14 (by omega)) (fun k hk => by rcases k with _ | _ | _ | _ | _ | _ | _ | _ | _ | _ | _ | _ | k <;> first | (cases hk; done) | (cases hk; exact absurd rfl HD14_q6.out) | (cases hk; exact absurd rfl HD14_q7.out)))
  have ht15 := there_blk ht15 (hJ.block _ (there_lt ht15 (by omega)) (fun k hk => by rcases k with _ | _ | _ | _ | _ | _ | _ | _ | _ | _ | _ | _ | k <;> first | (cases hk; done) | (cases hk; exact absurd rfl HD15_q6.out) | (cases hk; exact absurd rfl HD15_q7.out)))
  have ht16 := there_blk ht16 (hJ.block _ (there_lt ht16 (by omega)) (fun k hk => by rcases k with _ | _ | _ | _ | _ | _ | _ | _ | _ | _ | _ | _ | k <;> first | (cases hk; done) | (cases hk; exact absurd rfl HD16_q6.out) | (cases hk; exact absurd rfl HD16_q7.out)))
  have ht17 := there_blk ht17 (hJ.block _ (there_lt ht17 (by omega)) (fun k hk => by rcases k with _ | _ | _ | _ | _ | _ | _ | _ | _ | _ | _ | _ | k <;> first | (cases hk; done) | (cases hk; exact absurd rfl HD17_q6.out) | (cases hk; exact absurd rfl HD17_q7.out)))
  obtain ⟨_, hs7_10t, hs7_10⟩ := (show _ ∧ W7.there q6 0 10 ∧ HasFs rE W7 q6 0 [((X + Z) * (X + Z)) * ((X - Z) * (X - Z)), (((X + Z) * (X + Z)) - ((X - Z) * (X - Z))) * (((X + Z) * (X + Z)) + ((((X + Z) * (X + Z)) - ((X - Z) * (X - Z))) * (fn 121665)))] from hG 10 (by simp))
  obtain ⟨_, hs7_11t, hs7_11⟩ := (show _ ∧ W7.there q7 0 10 ∧ HasFs rE W7 q7 0 [(((X' - Z') * (X + Z)) + ((X' + Z') * (X - Z))) * (((X' - Z') * (X + Z)) + ((X' + Z') * (X - Z))), U * ((((X' - Z') * (X + Z)) - ((X' + Z') * (X - Z))) * (((X' - Z') * (X + Z)) - ((X' + Z') * (X - Z))))] from hG 11 (by simp))
  have hbel0 := hbel
  clear hJ hG hall hb
  go_wp2
  exact ret_cells2 (R := rE) Try.results24 (by exact E6.out) (by exact E7.out) hs7_10 hs7_11 typoint typoint rfl (fun r1 r2 i1 i2 => ⟨r1, r2, rfl, i1, i2, hbel⟩)
end Go.Proofs.Ytmoggjbnlimepaa
