/- The document's own X25519, second part: the ladder. -/
import Derived.Test.YtmoggjbnlimepaaXrc
import Derived.Test.YtmoggjbnlimepaaXmp
import Derived.Test.YtmoggjbnlimepaaRfs
namespace Go.Proofs.Ytmoggjbnlimepaa
open Go Go.RowKit

def b2i (b : Bool) : Int := if b then 1 else 0
theorem kbit_int {l : List UInt8} {j : Nat} (h : j / 8 < l.length) : bits BinOp.and IntKind.u8 (((l[j / 8]).toNat : Int) / 2 ^ (j % 8)) 1 = b2i (kbit (leN l) j) := by
  rw [← kbit_test h]
  generalize l[j / 8] = c
  have hc := c.toNat_lt
  have h1 : c.toNat / 2 ^ (j % 8) < 256 := Nat.lt_of_le_of_lt (Nat.div_le_self _ _) hc
  rw [show ((c.toNat : Int) / 2 ^ (j % 8)) = ((c.toNat / 2 ^ (j % 8) : Nat) : Int) from by simp]
  generalize c.toNat / 2 ^ (j % 8) = q at *
  revert h1; revert q; decide +kernel
theorem b2i_ne (a b : Bool) : (b2i a != b2i b) = (b != a) := by cases a <;> cases b <;> rfl
theorem b2i_one (a : Bool) : (b2i a == 1) = a := by cases a <;> rfl
theorem b2i_bd (a : Bool) : 0 ≤ b2i a ∧ b2i a ≤ 1 := by cases a <;> simp [b2i]
/-- The program's step, as the document writes it. -/
theorem lstep_no {k i : Nat} {u : F} {A B : Pj} {was bt : Bool} (hs : (bt != was) = false) (hb : kbit k i = bt) :
    lstate k u i (⟨(A.x + A.z) * (A.x + A.z) * ((A.x - A.z) * (A.x - A.z)), ((A.x + A.z) * (A.x + A.z) - (A.x - A.z) * (A.x - A.z)) * ((A.x + A.z) * (A.x + A.z) + fn 121665 * ((A.x + A.z) * (A.x + A.z) - (A.x - A.z) * (A.x - A.z)))⟩,
      ⟨((B.x - B.z) * (A.x + A.z) + (B.x + B.z) * (A.x - A.z)) * ((B.x - B.z) * (A.x + A.z) + (B.x + B.z) * (A.x - A.z)), u * (((B.x - B.z) * (A.x + A.z) - (B.x + B.z) * (A.x - A.z)) * ((B.x - B.z) * (A.x + A.z) - (B.x + B.z) * (A.x - A.z)))⟩, bt) = lstate k u (i + 1) (A, B, was) := by
  simp only [lstate, hb, hs, lstep, Bool.false_eq_true, if_false]
  rw [F.mul_comm' (fn 121665)]
theorem lstep_yes {k i : Nat} {u : F} {A B : Pj} {was bt : Bool} (hs : (bt != was) = true) (hb : kbit k i = bt) :
    lstate k u i (⟨(B.x + B.z) * (B.x + B.z) * ((B.x - B.z) * (B.x - B.z)), ((B.x + B.z) * (B.x + B.z) - (B.x - B.z) * (B.x - B.z)) * ((B.x + B.z) * (B.x + B.z) + fn 121665 * ((B.x + B.z) * (B.x + B.z) - (B.x - B.z) * (B.x - B.z)))⟩,
      ⟨((A.x - A.z) * (B.x + B.z) + (A.x + A.z) * (B.x - B.z)) * ((A.x - A.z) * (B.x + B.z) + (A.x + A.z) * (B.x - B.z)), u * (((A.x - A.z) * (B.x + B.z) - (A.x + A.z) * (B.x - B.z)) * ((A.x - A.z) * (B.x + B.z) - (A.x + A.z) * (B.x - B.z)))⟩, bt) = lstate k u (i + 1) (A, B, was) := by
  simp only [lstate, hb, hs, lstep, if_true]
  rw [F.mul_comm' (fn 121665)]
set_option maxRecDepth 100000 in
set_option maxHeartbeats 8000000 in
theorem rx_any {a b : Option Addr} {n cap m cap' : Nat} {l p : List UInt8} (w : World) (hsec : RdB w a n cap l) (hpub : RdB w b m cap' p) :
    Calls Try.prog 16 #[.slice a n cap, .slice b m cap'] w fun e w' => ∃ g c r, e = .returned (.slice (some ⟨g, 0, none⟩) 32 c) ∧ w.heap.size ≤ g ∧ Blk w' g ((leB 32 (ladder (leN (clampB l)) (feF p)).val).map bV ++ r) 5 ∧ 32 ≤ c ∧ c ≤ maxLen ∧ Below w.heap.size w w' := by
  go_enter Try.func16, Try.ntmps16
  go_upto_region 2 with (first | (go_at_call 15; go_must (refine (rclamp_any _ hsec).mono ?_; rintro e w1 ⟨rfl, hK0, hbel⟩)))
  have hpub := hpub.below hbel
  have hK := Lib.hid hK0
  clear hK0
  have htk : w1.there w.heap.size 0 32 := fun j hj => by
    rw [Nat.zero_add, hK.out.cell, hK.out.frozen, List.getElem?_eq_getElem (by simp [clampB_len]; omega)]
    exact ⟨rfl, rfl⟩
  have hbel0 := hbel
  refine wp_region_turn (fun u => (.slice a n cap :: .slice b m cap' :: undef :: undef :: .slice none 0 0 :: .slice (some ⟨w.heap.size, 0, none⟩) 32 32 :: u 2 :: undef :: undef :: undef :: undef :: undef :: undef :: undef :: undef :: undef :: undef :: undef :: undef :: undef :: undef :: undef :: undef :: .slice a n cap :: .slice (some ⟨w.heap.size, 0, none⟩) 32 32 :: u 0 :: u 1 :: undef :: undef :: undef :: undef :: undef :: undef :: undef :: undef :: undef :: undef :: undef :: undef :: undef :: undef :: undef :: undef :: undef :: undef :: undef :: undef :: undef :: undef :: undef :: undef :: undef :: undef :: undef :: undef :: undef :: undef :: undef :: undef :: undef :: undef :: undef :: undef :: undef :: undef :: undef :: undef :: undef :: undef :: undef :: undef :: undef :: undef :: undef :: undef :: undef :: undef :: undef :: undef :: undef :: undef :: undef :: undef :: undef :: undef :: undef :: undef :: undef :: undef :: undef :: undef :: undef :: undef :: undef :: undef :: undef :: undef :: undef :: undef :: undef :: undef :: undef :: undef :: undef :: undef :: undef :: undef :: undef :: undef :: undef :: undef :: undef :: undef :: []).toArray) (Holds [.oth (fun v => v = .slice b m cap'), .val rR [feF p], .new 16, .st 2 rR [feF p]] w1) (Keep [.oth (fun v => v = .slice b m cap'), .val rR [feF p], .new 16, .st 2 rR [feF p]] w1) (fun _ => undef) ?_ (by rfl) Keep.start (holds_soft (by kernel_rfl)) ?_ ?_
  · intro u i v h
    rcases i with _ | _ | _ | _ | i
    all_goals first | (simp [Act.put, putV]; done) | (exfalso; simp at h; omega)
  · intro hs
    refine ⟨?_, ?_, ?_, ?_, trivial⟩
    · exact step_pureO hs (wants_none rfl) rfl fun L u W hG hdep => ⟨_, run_move rfl, rfl⟩
    · refine step_call hs (wants_none rfl) rfl fun L u W hJ hG hL hdep K hK => ?_
      have x0 := (show u 0 = .slice b m cap' from hG 0 (hdep 0 (by kernel_rfl)))
      have hRB0 := hpub.below (hJ.all rfl)
      go_simp
      go_at_call 30
      (with_reducible refine (kOf' rfl hRB0).mono ?_); rintro e w1 ⟨r, rfl, hr, hb⟩
      have hk := hK.out _ _ hr hb
      simp only [x0] at hk
      exact hk
    · exact step_alloc hs (wants_none rfl) rfl rfl (by omega) rfl allocFe
    · exact step_store 2 hs (by kernel_rfl) (wants_none rfl) rfl rfl rfl (by kernel_rfl) (by kernel_rfl) (by kernel_rfl) (by kernel_rfl) (fun _ => rfl) (gives_op 1 rfl (by kernel_rfl) (fun _ => rfl)) tyFe rfl
  intro L2 u2 W2 hall hJ hG
  obtain ⟨q6, e6, hq6, _, ht6⟩ := (show ∃ g, u2 2 = .pointer (some ⟨g, 0, none⟩) ∧ w1.heap.size ≤ g ∧ 0 < 16 ∧ W2.there g 0 16 from hG 2 (by simp))
  have hm6 : HasFs rR W2 q6 0 [feF p] := by
    obtain ⟨g, e, _, h⟩ := (show ∃ g, u2 2 = .pointer (some ⟨g, 0, none⟩) ∧ w1.heap.size ≤ g ∧ HasFs rR W2 g 0 [feF p] from hG 3 (by simp))
    rw [e6] at e; cases e; exact h
  have HD6_wheapsize := Lib.hid (show w.heap.size ≠ q6 by have := there_lt htk (by omega); omega)
  have hq6 : w.heap.size ≤ q6 := by have := hbel0.size; omega
  have E6 := Lib.hid e6; clear e6
  have hb := hJ.all rfl
  have hbel := Below.call hbel hb
  have htk := there_later htk hb
  have hK := Lib.hid (hK.out.below' hb)
  have hbel0 := hbel
  clear hJ hG hall hb
  go_upto_region 3 with fail
  refine wp_region_mid (fun u => (.slice a n cap :: .slice b m cap' :: undef :: undef :: .slice none 0 0 :: .slice (some ⟨w.heap.size, 0, none⟩) 32 32 :: u2 2 :: u 4 :: u 5 :: u 6 :: u 7 :: undef :: undef :: undef :: undef :: undef :: undef :: undef :: undef :: undef :: undef :: undef :: undef :: .slice a n cap :: .slice (some ⟨w.heap.size, 0, none⟩) 32 32 :: u2 0 :: u2 1 :: u 0 :: u 1 :: u 2 :: u 3 :: undef :: undef :: undef :: undef :: undef :: undef :: undef :: undef :: undef :: undef :: undef :: undef :: undef :: undef :: undef :: undef :: undef :: undef :: undef :: undef :: undef :: undef :: undef :: undef :: undef :: undef :: undef :: undef :: undef :: undef :: undef :: undef :: undef :: undef :: undef :: undef :: undef :: undef :: undef :: undef :: undef :: undef :: undef :: undef :: undef :: undef :: undef :: undef :: undef :: undef :: undef :: undef :: undef :: undef :: undef :: undef :: undef :: undef :: undef :: undef :: undef :: undef :: undef :: undef :: undef :: undef :: undef :: undef :: undef :: undef :: undef :: undef :: undef :: undef :: undef :: undef :: undef :: undef :: undef :: undef :: undef :: undef :: []).toArray) (Holds [.val rR [fn 1], .val rR [0], .val rR [feF p], .val rR [fn 1], .new 16, .new 16, .new 16, .new 16, .st 4 rR [fn 1], .st 5 rR [0], .st 6 rR [feF p], .st 7 rR [fn 1]] W2) (Keep [.val rR [fn 1], .val rR [0], .val rR [feF p], .val rR [fn 1], .new 16, .new 16, .new 16, .new 16, .st 4 rR [fn 1], .st 5 rR [0], .st 6 rR [feF p], .st 7 rR [fn 1]] W2) (fun _ => undef) (by kernel_rfl) (by kernel_rfl) ?_ (by rfl) Keep.drew (holds_soft (by kernel_rfl)) ?_ ?_
  · intro u i v h
    rcases i with _ | _ | _ | _ | _ | _ | _ | _ | _ | _ | _ | _ | i
    all_goals first | (simp [Act.put, putV]; done) | (exfalso; simp at h; omega)
  · intro hs
    refine ⟨?_, ?_, ?_, ?_, ?_, ?_, ?_, ?_, ?_, ?_, ?_, ?_, trivial⟩
    · refine step_call hs (wants_none rfl) rfl fun L u W hJ hG hL hdep K hK => ?_
      go_simp
      go_at_call 31
      (with_reducible refine (kSmallI (n := 1) (z := 1) rfl (by omega) _).mono ?_); rintro e w1 ⟨r, rfl, hr, hb⟩
      have hk := hK.out _ _ hr hb
      exact hk
    · exact step_pure hs (wants_none rfl) rfl fun L u W hG hdep => run_build0 rfl (buildFe0 W)
    · exact step_load q6 0 hs (wants_none rfl) rfl rfl tyFe (fun _ => E6.out) hm6.lt hm6 (noSto_apart (by kernel_rfl))
    · refine step_call hs (wants_none rfl) rfl fun L u W hJ hG hL hdep K hK => ?_
      go_simp
      go_at_call 31
      (with_reducible refine (kSmallI (n := 1) (z := 1) rfl (by omega) _).mono ?_); rintro e w1 ⟨r, rfl, hr, hb⟩
      have hk := hK.out _ _ hr hb
      exact hk
    · exact step_alloc hs (wants_none rfl) rfl rfl (by omega) rfl allocFe
    · exact step_alloc hs (wants_none rfl) rfl rfl (by omega) rfl allocFe
    · exact step_alloc hs (wants_none rfl) rfl rfl (by omega) rfl allocFe
    · exact step_alloc hs (wants_none rfl) rfl rfl (by omega) rfl allocFe
    · exact step_store 4 hs (by kernel_rfl) (wants_none rfl) rfl rfl rfl (by kernel_rfl) (by kernel_rfl) (by kernel_rfl) (by kernel_rfl) (fun _ => rfl) (gives_op 0 rfl (by kernel_rfl) (fun _ => rfl)) tyFe rfl
    · exact step_store 5 hs (by kernel_rfl) (wants_none rfl) rfl rfl rfl (by kernel_rfl) (by kernel_rfl) (by kernel_rfl) (by kernel_rfl) (fun _ => rfl) (gives_op 1 rfl (by kernel_rfl) (fun _ => rfl)) tyFe rfl
    · exact step_store 6 hs (by kernel_rfl) (wants_none rfl) rfl rfl rfl (by kernel_rfl) (by kernel_rfl) (by kernel_rfl) (by kernel_rfl) (fun _ => rfl) (gives_op 2 rfl (by kernel_rfl) (fun _ => rfl)) tyFe rfl
    · exact step_store 7 hs (by kernel_rfl) (wants_none rfl) rfl rfl rfl (by kernel_rfl) (by kernel_rfl) (by kernel_rfl) (by kernel_rfl) (fun _ => rfl) (gives_op 3 rfl (by kernel_rfl) (fun _ => rfl)) tyFe rfl
  intro L3 u3 W3 hall hJ hG
  obtain ⟨q7, e7, hq7, _, ht7⟩ := (show ∃ g, u3 4 = .pointer (some ⟨g, 0, none⟩) ∧ W2.heap.size ≤ g ∧ 0 < 16 ∧ W3.there g 0 16 from hG 4 (by simp))
  have hm7 : HasFs rR W3 q7 0 [fn 1] := by
    obtain ⟨g, e, _, h⟩ := (show ∃ g, u3 4 = .pointer (some ⟨g, 0, none⟩) ∧ W2.heap.size ≤ g ∧ HasFs rR W3 g 0 [fn 1] from hG 8 (by simp))
    rw [e7] at e; cases e; exact h
  have HD7_wheapsize := Lib.hid (show w.heap.size ≠ q7 by have := there_lt htk (by omega); omega)
  have HD7_q6 := Lib.hid (show q6 ≠ q7 by have := there_lt ht6 (by omega); omega)
  have hq7 : w.heap.size ≤ q7 := by have := hbel0.size; omega
  have E7 := Lib.hid e7; clear e7
  obtain ⟨q8, e8, hq8, _, ht8⟩ := (show ∃ g, u3 5 = .pointer (some ⟨g, 0, none⟩) ∧ W2.heap.size ≤ g ∧ 0 < 16 ∧ W3.there g 0 16 from hG 5 (by simp))
  have hm8 : HasFs rR W3 q8 0 [0] := by
    obtain ⟨g, e, _, h⟩ := (show ∃ g, u3 5 = .pointer (some ⟨g, 0, none⟩) ∧ W2.heap.size ≤ g ∧ HasFs rR W3 g 0 [0] from hG 9 (by simp))
    rw [e8] at e; cases e; exact h
  have HD8_wheapsize := Lib.hid (show w.heap.size ≠ q8 by have := there_lt htk (by omega); omega)
  have HD8_q6 := Lib.hid (show q6 ≠ q8 by have := there_lt ht6 (by omega); omega)
  have hq8 : w.heap.size ≤ q8 := by have := hbel0.size; omega
  have E8 := Lib.hid e8; clear e8
  obtain ⟨q9, e9, hq9, _, ht9⟩ := (show ∃ g, u3 6 = .pointer (some ⟨g, 0, none⟩) ∧ W2.heap.size ≤ g ∧ 0 < 16 ∧ W3.there g 0 16 from hG 6 (by simp))
  have hm9 : HasFs rR W3 q9 0 [feF p] := by
    obtain ⟨g, e, _, h⟩ := (show ∃ g, u3 6 = .pointer (some ⟨g, 0, none⟩) ∧ W2.heap.size ≤ g ∧ HasFs rR W3 g 0 [feF p] from hG 10 (by simp))
    rw [e9] at e; cases e; exact h
  have HD9_wheapsize := Lib.hid (show w.heap.size ≠ q9 by have := there_lt htk (by omega); omega)
  have HD9_q6 := Lib.hid (show q6 ≠ q9 by have := there_lt ht6 (by omega); omega)
  have hq9 : w.heap.size ≤ q9 := by have := hbel0.size; omega
  have E9 := Lib.hid e9; clear e9
  obtain ⟨q10, e10, hq10, _, ht10⟩ := (show ∃ g, u3 7 = .pointer (some ⟨g, 0, none⟩) ∧ W2.heap.size ≤ g ∧ 0 < 16 ∧ W3.there g 0 16 from hG 7 (by simp))
  have hm10 : HasFs rR W3 q10 0 [fn 1] := by
    obtain ⟨g, e, _, h⟩ := (show ∃ g, u3 7 = .pointer (some ⟨g, 0, none⟩) ∧ W2.heap.size ≤ g ∧ HasFs rR W3 g 0 [fn 1] from hG 11 (by simp))
    rw [e10] at e; cases e; exact h
  have HD10_wheapsize := Lib.hid (show w.heap.size ≠ q10 by have := there_lt htk (by omega); omega)
  have HD10_q6 := Lib.hid (show q6 ≠ q10 by have := there_lt ht6 (by omega); omega)
  have hq10 : w.heap.size ≤ q10 := by have := hbel0.size; omega
  have E10 := Lib.hid e10; clear e10
  have hb := hJ.all rfl
  have hbel := Below.call hbel hb
  have hm6 := hm6.later hb
  have htk := there_later htk hb
  have ht6 := there_later ht6 hb
  have hK := Lib.hid (hK.out.below' hb)
  have HN7_8 := Lib.hid (show q7 ≠ q8 from fun e => hJ.apart 4 5 _ (by omega) (hall _ (by simp)) (hall _ (by simp)) rfl rfl (E7.out.trans (by rw [e])) E8.out)
  have HN7_9 := Lib.hid (show q7 ≠ q9 from fun e => hJ.apart 4 6 _ (by omega) (hall _ (by simp)) (hall _ (by simp)) rfl rfl (E7.out.trans (by rw [e])) E9.out)
  have HN7_10 := Lib.hid (show q7 ≠ q10 from fun e => hJ.apart 4 7 _ (by omega) (hall _ (by simp)) (hall _ (by simp)) rfl rfl (E7.out.trans (by rw [e])) E10.out)
  have HN8_9 := Lib.hid (show q8 ≠ q9 from fun e => hJ.apart 5 6 _ (by omega) (hall _ (by simp)) (hall _ (by simp)) rfl rfl (E8.out.trans (by rw [e])) E9.out)
  have HN8_10 := Lib.hid (show q8 ≠ q10 from fun e => hJ.apart 5 7 _ (by omega) (hall _ (by simp)) (hall _ (by simp)) rfl rfl (E8.out.trans (by rw [e])) E10.out)
  have HN9_10 := Lib.hid (show q9 ≠ q10 from fun e => hJ.apart 6 7 _ (by omega) (hall _ (by simp)) (hall _ (by simp)) rfl rfl (E9.out.trans (by rw [e])) E10.out)
  have hbel0 := hbel
  clear hJ hG hall hb
  generalize hk : clampB l = kb at *
  have HKL : Hid (kb.length = 32) := Lib.hid (by rw [← hk]; exact clampB_len l)
  have HKB := Lib.hid hk
  generalize hu : feF p = U at *
  have HU := Lib.hid hu
  clear hk hu hpub
  have hb0 : (0 : Int) = b2i false := rfl
  go_upto_region 4 with fail
  go_wp2_with fail
  rw [hb0]
  clear hb0
  go_loopw [11, 12] (fun s11 s12 wr => ∃ (j : Nat) (was : Bool) (A B : Pj), j ≤ 255 ∧ s11 = .int .i64 (b2i was) ∧ s12 = .int .i64 ((j : Int) - 1) ∧ HasFs rR wr q6 0 [U] ∧ HasFs rR wr q7 0 [A.x] ∧ HasFs rR wr q8 0 [A.z] ∧ HasFs rR wr q9 0 [B.x] ∧ HasFs rR wr q10 0 [B.z] ∧ wr.there q6 0 16 ∧ wr.there q7 0 16 ∧ wr.there q8 0 16 ∧ wr.there q9 0 16 ∧ wr.there q10 0 16 ∧ wr.there w.heap.size 0 32 ∧ Blk wr w.heap.size (kb.map bV) 5 ∧ Below w.heap.size w wr ∧ lstate (leN kb) U j (A, B, was) = lstate (leN kb) U 255 (⟨fn 1, 0⟩, ⟨U, fn 1⟩, false)) (fun _ t _ => (intOf t + 1).toNat)
  case atStart => exact ⟨255, false, ⟨fn 1, 0⟩, ⟨U, fn 1⟩, by omega, rfl, by simp, hm6, hm7, hm8, hm9, hm10, ht6, ht7, ht8, ht9, ht10, htk, hK.out, hbel, rfl⟩
  case round =>
    obtain ⟨j, was, A, B, hj, rfl, rfl, hm6', hm7', hm8', hm9', hm10', ht6', ht7', ht8', ht9', ht10', htk', hK', hbel', hst⟩ := hrel
    clear hm6 hm7 hm8 hm9 hm10 ht6 ht7 ht8 ht9 ht10 htk hK hbel hbel0
    have HST := Lib.hid hst
    clear hst
    by_cases h0 : 0 < j
    · obtain ⟨i, rfl⟩ : ∃ i, j = i + 1 := ⟨j - 1, by omega⟩
      have hz : (((i + 1 : Nat) : Int) - 1) = (i : Int) := by omega
      simp only [hz]
      have h1 : (0 : Int) ≤ (i : Int) := by omega
      have h2 : (i : Int) < 255 := by omega
      have h8 : i / 8 < kb.length := by have := HKL.out; omega
      have hc : wr.cell? ⟨w.heap.size, i / 8, none⟩ = some (bV kb[i / 8]) := by rw [hK'.cell]; simp [h8]
      have hkt := kbit_int (l := kb) (j := i) h8
      generalize kb[i / 8] = c at *
      have hcl := c.toNat_lt
      generalize hbt : kbit (leN kb) i = bt at *
      have HBT := Lib.hid hbt
      clear hbt hz h0 h8
      unfold bV at hc
      have hbd := b2i_bd bt
      have hbn := b2i_ne was bt
      by_cases hsw : (bt != was) = true
      · rw [hsw] at hbn
        have HSW := Lib.hid hsw; clear hsw
        go_upto_region 10 with fail
        have hbel := hbel'
        have hbel0 := hbel'
        have hK' := Lib.hid hK'
        clear hbn hkt hc hbd
        refine wp_region_turn (fun u => (.slice a n cap :: .slice b m cap' :: undef :: undef :: .slice none 0 0 :: .slice (some ⟨w.heap.size, 0, none⟩) 32 32 :: u2 2 :: u3 4 :: u3 5 :: u3 6 :: u3 7 :: .int .i64 (b2i was) :: .int .i64 (i : Int) :: .int .i64 (b2i bt) :: u14 :: u15 :: u16 :: u17 :: u18 :: u19 :: u20 :: u21 :: u22 :: .slice a n cap :: .slice (some ⟨w.heap.size, 0, none⟩) 32 32 :: u2 0 :: u2 1 :: u3 0 :: u3 1 :: u3 2 :: u3 3 :: .int .i64 (i : Int) :: .bool true :: u33 :: u34 :: .slice (some ⟨w.heap.size, 0, none⟩) 32 32 :: .int .i64 (i : Int) :: .int .i64 (↑i / 8) :: .pointer (some ⟨w.heap.size, i / 8, none⟩) :: .int .u8 (c.toNat : Int) :: .int .i64 (i : Int) :: .int .i64 (↑i % 8) :: .int .u8 (↑c.toNat / 2 ^ (i % 8)) :: .int .u8 (b2i bt) :: .int .i64 (b2i bt) :: .int .i64 (b2i was) :: .int .i64 (b2i bt) :: .bool true :: u 0 :: u 1 :: u50 :: u51 :: u52 :: u53 :: u54 :: u55 :: u56 :: u57 :: u58 :: u59 :: u60 :: u61 :: u62 :: u63 :: u64 :: u65 :: u66 :: u67 :: u68 :: u69 :: u70 :: u71 :: u72 :: u73 :: u74 :: u75 :: u76 :: u77 :: u78 :: u79 :: u80 :: u81 :: u82 :: u83 :: u84 :: u85 :: u86 :: u87 :: u88 :: u89 :: u90 :: u91 :: u92 :: u93 :: u94 :: u95 :: u96 :: u97 :: u98 :: u99 :: u100 :: u101 :: u102 :: u103 :: undef :: undef :: undef :: undef :: undef :: undef :: undef :: undef :: undef :: []).toArray) (Holds [.val rR [B.x], .val rR [A.x], .sto q7 rR [B.x], .sto q9 rR [A.x]] wr) (Keep [.val rR [B.x], .val rR [A.x], .sto q7 rR [B.x], .sto q9 rR [A.x]] wr) (fun k => ([u48, u49, undef, undef] : List Value).getD k undef) ?_ (by rfl) Keep.start (holds_soft (by kernel_rfl)) ?_ ?_
        · intro u i v h
          rcases i with _ | _ | _ | _ | i
          all_goals first | (simp [Act.put, putV]; done) | (exfalso; simp at h; omega)
        · intro hs
          refine ⟨?_, ?_, ?_, ?_, trivial⟩
          · exact step_load q9 0 hs (wants_none rfl) rfl rfl tyFe (fun _ => E9.out) hm9'.lt hm9' (fun k g hk => by rcases k with _ | _ | _ | _ | k <;> first | (cases hk; done) | (cases hk; exact .inr HN7_9.out) | (cases hk; exact .inl (by kernel_rfl)))
          · exact step_load q7 0 hs (wants_none rfl) rfl rfl tyFe (fun _ => E7.out) hm7'.lt hm7' (fun k g hk => by rcases k with _ | _ | _ | _ | k <;> first | (cases hk; done) | (cases hk; exact .inr (Ne.symm HN7_9.out)) | (cases hk; exact .inl (by kernel_rfl)))
          · refine step_storeO q7 16 hs (wants_none rfl) rfl rfl (by kernel_rfl) (fun k hk => ?_) (fun _ => E7.out) (there_lt ht7' (by omega)) ht7' (gives_op 0 rfl (by kernel_rfl) (fun _ => rfl)) tyFe rfl
            rcases k with _ | _ | _ | _ | k
            all_goals first | (exact absurd rfl hk) | (intro e; cases e; done) | (intro e; cases e; exact absurd rfl (Ne.symm HN7_9.out))
          · refine step_storeO q9 16 hs (wants_none rfl) rfl rfl (by kernel_rfl) (fun k hk => ?_) (fun _ => E9.out) (there_lt ht9' (by omega)) ht9' (gives_op 1 rfl (by kernel_rfl) (fun _ => rfl)) tyFe rfl
            rcases k with _ | _ | _ | _ | k
            all_goals first | (exact absurd rfl hk) | (intro e; cases e; done) | (intro e; cases e; exact absurd rfl HN7_9.out)
        intro L10 u10s W10s hall hJ hG
        have hb : Below w.heap.size wr W10s := hJ.below (by have := hbel.size; omega) (fun k b hf => by rcases k with _ | _ | _ | _ | k <;> first | (cases hf; done) | (cases hf; omega))
        have hbel := hbel.trans hb
        have hm6' := hm6'.blk (hJ.block _ (hm6'.lt) (fun k hk => by rcases k with _ | _ | _ | _ | k <;> first | (cases hk; done) | (cases hk; exact absurd rfl (Ne.symm HD7_q6.out)) | (cases hk; exact absurd rfl (Ne.symm HD9_q6.out))))
        have hm8' := hm8'.blk (hJ.block _ (hm8'.lt) (fun k hk => by rcases k with _ | _ | _ | _ | k <;> first | (cases hk; done) | (cases hk; exact absurd rfl HN7_8.out) | (cases hk; exact absurd rfl (Ne.symm HN8_9.out))))
        have hm10' := hm10'.blk (hJ.block _ (hm10'.lt) (fun k hk => by rcases k with _ | _ | _ | _ | k <;> first | (cases hk; done) | (cases hk; exact absurd rfl HN7_10.out) | (cases hk; exact absurd rfl HN9_10.out)))
        have ht6' := there_blk ht6' (hJ.block _ (there_lt ht6' (by omega)) (fun k hk => by rcases k with _ | _ | _ | _ | k <;> first | (cases hk; done) | (cases hk; exact absurd rfl (Ne.symm HD7_q6.out)) | (cases hk; exact absurd rfl (Ne.symm HD9_q6.out))))
        have ht8' := there_blk ht8' (hJ.block _ (there_lt ht8' (by omega)) (fun k hk => by rcases k with _ | _ | _ | _ | k <;> first | (cases hk; done) | (cases hk; exact absurd rfl HN7_8.out) | (cases hk; exact absurd rfl (Ne.symm HN8_9.out))))
        have ht10' := there_blk ht10' (hJ.block _ (there_lt ht10' (by omega)) (fun k hk => by rcases k with _ | _ | _ | _ | k <;> first | (cases hk; done) | (cases hk; exact absurd rfl HN7_10.out) | (cases hk; exact absurd rfl HN9_10.out)))
        have htk' := there_blk htk' (hJ.block _ (there_lt htk' (by omega)) (fun k hk => by rcases k with _ | _ | _ | _ | k <;> first | (cases hk; done) | (cases hk; exact absurd rfl (Ne.symm HD7_wheapsize.out)) | (cases hk; exact absurd rfl (Ne.symm HD9_wheapsize.out))))
        have hK' := Lib.hid (blk_keep hK'.out (hJ.block _ (hK'.out.lt) (fun k hk => by rcases k with _ | _ | _ | _ | k <;> first | (cases hk; done) | (cases hk; exact absurd rfl (Ne.symm HD7_wheapsize.out)) | (cases hk; exact absurd rfl (Ne.symm HD9_wheapsize.out)))))
        obtain ⟨_, hs10_2t, hs10_2⟩ := (show _ ∧ W10s.there q7 0 16 ∧ HasFs rR W10s q7 0 [B.x] from hG 2 (by simp))
        obtain ⟨_, hs10_3t, hs10_3⟩ := (show _ ∧ W10s.there q9 0 16 ∧ HasFs rR W10s q9 0 [A.x] from hG 3 (by simp))
        have hbel0 := hbel
        clear hJ hG hall hb
        go_upto_region 11 with fail
        refine wp_region_turn (fun u => (.slice a n cap :: .slice b m cap' :: undef :: undef :: .slice none 0 0 :: .slice (some ⟨w.heap.size, 0, none⟩) 32 32 :: u2 2 :: u3 4 :: u3 5 :: u3 6 :: u3 7 :: .int .i64 (b2i was) :: .int .i64 (i : Int) :: .int .i64 (b2i bt) :: u14 :: u15 :: u16 :: u17 :: u18 :: u19 :: u20 :: u21 :: u22 :: .slice a n cap :: .slice (some ⟨w.heap.size, 0, none⟩) 32 32 :: u2 0 :: u2 1 :: u3 0 :: u3 1 :: u3 2 :: u3 3 :: .int .i64 (i : Int) :: .bool true :: u33 :: u34 :: .slice (some ⟨w.heap.size, 0, none⟩) 32 32 :: .int .i64 (i : Int) :: .int .i64 (↑i / 8) :: .pointer (some ⟨w.heap.size, i / 8, none⟩) :: .int .u8 (c.toNat : Int) :: .int .i64 (i : Int) :: .int .i64 (↑i % 8) :: .int .u8 (↑c.toNat / 2 ^ (i % 8)) :: .int .u8 (b2i bt) :: .int .i64 (b2i bt) :: .int .i64 (b2i was) :: .int .i64 (b2i bt) :: .bool true :: u10s 0 :: u10s 1 :: u 0 :: u 1 :: u52 :: u53 :: u54 :: u55 :: u56 :: u57 :: u58 :: u59 :: u60 :: u61 :: u62 :: u63 :: u64 :: u65 :: u66 :: u67 :: u68 :: u69 :: u70 :: u71 :: u72 :: u73 :: u74 :: u75 :: u76 :: u77 :: u78 :: u79 :: u80 :: u81 :: u82 :: u83 :: u84 :: u85 :: u86 :: u87 :: u88 :: u89 :: u90 :: u91 :: u92 :: u93 :: u94 :: u95 :: u96 :: u97 :: u98 :: u99 :: u100 :: u101 :: u102 :: u103 :: undef :: undef :: undef :: undef :: undef :: undef :: undef :: undef :: undef :: []).toArray) (Holds [.val rR [B.z], .val rR [A.z], .sto q8 rR [B.z], .sto q10 rR [A.z]] W10s) (Keep [.val rR [B.z], .val rR [A.z], .sto q8 rR [B.z], .sto q10 rR [A.z]] W10s) (fun k => ([u50, u51, undef, undef] : List Value).getD k undef) ?_ (by rfl) Keep.start (holds_soft (by kernel_rfl)) ?_ ?_
        · intro u i v h
          rcases i with _ | _ | _ | _ | i
          all_goals first | (simp [Act.put, putV]; done) | (exfalso; simp at h; omega)
        · intro hs
          refine ⟨?_, ?_, ?_, ?_, trivial⟩
          · exact step_load q10 0 hs (wants_none rfl) rfl rfl tyFe (fun _ => E10.out) hm10'.lt hm10' (fun k g hk => by rcases k with _ | _ | _ | _ | k <;> first | (cases hk; done) | (cases hk; exact .inr HN8_10.out) | (cases hk; exact .inl (by kernel_rfl)))
          · exact step_load q8 0 hs (wants_none rfl) rfl rfl tyFe (fun _ => E8.out) hm8'.lt hm8' (fun k g hk => by rcases k with _ | _ | _ | _ | k <;> first | (cases hk; done) | (cases hk; exact .inr (Ne.symm HN8_10.out)) | (cases hk; exact .inl (by kernel_rfl)))
          · refine step_storeO q8 16 hs (wants_none rfl) rfl rfl (by kernel_rfl) (fun k hk => ?_) (fun _ => E8.out) (there_lt ht8' (by omega)) ht8' (gives_op 0 rfl (by kernel_rfl) (fun _ => rfl)) tyFe rfl
            rcases k with _ | _ | _ | _ | k
            all_goals first | (exact absurd rfl hk) | (intro e; cases e; done) | (intro e; cases e; exact absurd rfl (Ne.symm HN8_10.out))
          · refine step_storeO q10 16 hs (wants_none rfl) rfl rfl (by kernel_rfl) (fun k hk => ?_) (fun _ => E10.out) (there_lt ht10' (by omega)) ht10' (gives_op 1 rfl (by kernel_rfl) (fun _ => rfl)) tyFe rfl
            rcases k with _ | _ | _ | _ | k
            all_goals first | (exact absurd rfl hk) | (intro e; cases e; done) | (intro e; cases e; exact absurd rfl HN8_10.out)
        intro L11 u11s W11s hall hJ hG
        have hb : Below w.heap.size W10s W11s := hJ.below (by have := hbel.size; omega) (fun k b hf => by rcases k with _ | _ | _ | _ | k <;> first | (cases hf; done) | (cases hf; omega))
        have hbel := hbel.trans hb
        have hm6' := hm6'.blk (hJ.block _ (hm6'.lt) (fun k hk => by rcases k with _ | _ | _ | _ | k <;> first | (cases hk; done) | (cases hk; exact absurd rfl (Ne.symm HD8_q6.out)) | (cases hk; exact absurd rfl (Ne.symm HD10_q6.out))))
        have hs10_2 := hs10_2.blk (hJ.block _ (hs10_2.lt) (fun k hk => by rcases k with _ | _ | _ | _ | k <;> first | (cases hk; done) | (cases hk; exact absurd rfl (Ne.symm HN7_8.out)) | (cases hk; exact absurd rfl (Ne.symm HN7_10.out))))
        have hs10_3 := hs10_3.blk (hJ.block _ (hs10_3.lt) (fun k hk => by rcases k with _ | _ | _ | _ | k <;> first | (cases hk; done) | (cases hk; exact absurd rfl HN8_9.out) | (cases hk; exact absurd rfl (Ne.symm HN9_10.out))))
        have ht6' := there_blk ht6' (hJ.block _ (there_lt ht6' (by omega)) (fun k hk => by rcases k with _ | _ | _ | _ | k <;> first | (cases hk; done) | (cases hk; exact absurd rfl (Ne.symm HD8_q6.out)) | (cases hk; exact absurd rfl (Ne.symm HD10_q6.out))))
        have hs10_2t := there_blk hs10_2t (hJ.block _ (there_lt hs10_2t (by omega)) (fun k hk => by rcases k with _ | _ | _ | _ | k <;> first | (cases hk; done) | (cases hk; exact absurd rfl (Ne.symm HN7_8.out)) | (cases hk; exact absurd rfl (Ne.symm HN7_10.out))))
        have hs10_3t := there_blk hs10_3t (hJ.block _ (there_lt hs10_3t (by omega)) (fun k hk => by rcases k with _ | _ | _ | _ | k <;> first | (cases hk; done) | (cases hk; exact absurd rfl HN8_9.out) | (cases hk; exact absurd rfl (Ne.symm HN9_10.out))))
        have htk' := there_blk htk' (hJ.block _ (there_lt htk' (by omega)) (fun k hk => by rcases k with _ | _ | _ | _ | k <;> first | (cases hk; done) | (cases hk; exact absurd rfl (Ne.symm HD8_wheapsize.out)) | (cases hk; exact absurd rfl (Ne.symm HD10_wheapsize.out))))
        have hK' := Lib.hid (blk_keep hK'.out (hJ.block _ (hK'.out.lt) (fun k hk => by rcases k with _ | _ | _ | _ | k <;> first | (cases hk; done) | (cases hk; exact absurd rfl (Ne.symm HD8_wheapsize.out)) | (cases hk; exact absurd rfl (Ne.symm HD10_wheapsize.out)))))
        obtain ⟨_, hs11_2t, hs11_2⟩ := (show _ ∧ W11s.there q8 0 16 ∧ HasFs rR W11s q8 0 [B.z] from hG 2 (by simp))
        obtain ⟨_, hs11_3t, hs11_3⟩ := (show _ ∧ W11s.there q10 0 16 ∧ HasFs rR W11s q10 0 [A.z] from hG 3 (by simp))
        have hbel0 := hbel
        clear hJ hG hall hb
        go_upto_region 12 with fail
        skip
        refine wp_region_turn (fun u => (.slice a n cap :: .slice b m cap' :: undef :: undef :: .slice none 0 0 :: .slice (some ⟨w.heap.size, 0, none⟩) 32 32 :: u2 2 :: u3 4 :: u3 5 :: u3 6 :: u3 7 :: u 1 :: .int .i64 (i : Int) :: .int .i64 (b2i bt) :: u14 :: u15 :: u16 :: u17 :: u18 :: u19 :: u20 :: u21 :: u22 :: .slice a n cap :: .slice (some ⟨w.heap.size, 0, none⟩) 32 32 :: u2 0 :: u2 1 :: u3 0 :: u3 1 :: u3 2 :: u3 3 :: .int .i64 (i : Int) :: .bool true :: u33 :: u34 :: .slice (some ⟨w.heap.size, 0, none⟩) 32 32 :: .int .i64 (i : Int) :: .int .i64 (↑i / 8) :: .pointer (some ⟨w.heap.size, i / 8, none⟩) :: .int .u8 (c.toNat : Int) :: .int .i64 (i : Int) :: .int .i64 (↑i % 8) :: .int .u8 (↑c.toNat / 2 ^ (i % 8)) :: .int .u8 (b2i bt) :: .int .i64 (b2i bt) :: .int .i64 (b2i was) :: .int .i64 (b2i bt) :: .bool true :: u10s 0 :: u10s 1 :: u11s 0 :: u11s 1 :: u 0 :: u53 :: u54 :: u55 :: u56 :: u57 :: u58 :: u59 :: u60 :: u61 :: u62 :: u63 :: u64 :: u65 :: u66 :: u67 :: u68 :: u69 :: u70 :: u71 :: u72 :: u73 :: u74 :: u75 :: u76 :: u77 :: u78 :: u79 :: u80 :: u81 :: u82 :: u83 :: u84 :: u85 :: u86 :: u87 :: u88 :: u89 :: u90 :: u91 :: u92 :: u93 :: u94 :: u95 :: u96 :: u97 :: u98 :: u99 :: u100 :: u101 :: u102 :: u103 :: undef :: undef :: undef :: undef :: undef :: undef :: undef :: undef :: undef :: []).toArray) (Holds [.oth (fun v => v = .int .i64 (b2i bt)), .oth (fun v => v = .int .i64 (b2i bt))] W11s) (Keep [.oth (fun v => v = .int .i64 (b2i bt)), .oth (fun v => v = .int .i64 (b2i bt))] W11s) (fun k => ([u52, .int .i64 (b2i was)] : List Value).getD k undef) ?_ (by rfl) Keep.start (holds_soft (by kernel_rfl)) ?_ ?_
        · intro u i v h
          rcases i with _ | _ | i
          all_goals first | (simp [Act.put, putV]; done) | (exfalso; simp at h; omega)
        · intro hs
          refine ⟨?_, ?_, trivial⟩
          · exact step_pureO hs (wants_none rfl) rfl fun L u W hG hdep => ⟨_, run_move rfl, rfl⟩
          · exact step_pureO hs (wants_none rfl) rfl fun L u W hG hdep => ⟨_, run_assign rfl, (show u 0 = .int .i64 (b2i bt) from hG 0 (hdep 0 (by kernel_rfl)))⟩
        intro L12 u12s W12s hall hJ hG
        have hb := hJ.all rfl
        have hbel := Below.call hbel hb
        have hm6' := hm6'.later hb
        have hs10_2 := hs10_2.later hb
        have hs11_2 := hs11_2.later hb
        have hs10_3 := hs10_3.later hb
        have hs11_3 := hs11_3.later hb
        have ht6' := there_later ht6' hb
        have hs10_2t := there_later hs10_2t hb
        have hs11_2t := there_later hs11_2t hb
        have hs10_3t := there_later hs10_3t hb
        have hs11_3t := there_later hs11_3t hb
        have htk' := there_later htk' hb
        have hK' := Lib.hid (hK'.out.below' hb)
        have HC11 := Lib.hid (show u12s 1 = .int .i64 (b2i bt) from hG 1 (by simp))
        have hbel0 := hbel
        clear hJ hG hall hb
        go_upto_region 13 with fail
        refine wp_region_turn (fun u => (.slice a n cap :: .slice b m cap' :: undef :: undef :: .slice none 0 0 :: .slice (some ⟨w.heap.size, 0, none⟩) 32 32 :: u2 2 :: u3 4 :: u3 5 :: u3 6 :: u3 7 :: u12s 1 :: .int .i64 (i : Int) :: .int .i64 (b2i bt) :: u 3 :: u15 :: u16 :: u17 :: u18 :: u19 :: u20 :: u21 :: u22 :: .slice a n cap :: .slice (some ⟨w.heap.size, 0, none⟩) 32 32 :: u2 0 :: u2 1 :: u3 0 :: u3 1 :: u3 2 :: u3 3 :: .int .i64 (i : Int) :: .bool true :: u33 :: u34 :: .slice (some ⟨w.heap.size, 0, none⟩) 32 32 :: .int .i64 (i : Int) :: .int .i64 (↑i / 8) :: .pointer (some ⟨w.heap.size, i / 8, none⟩) :: .int .u8 (c.toNat : Int) :: .int .i64 (i : Int) :: .int .i64 (↑i % 8) :: .int .u8 (↑c.toNat / 2 ^ (i % 8)) :: .int .u8 (b2i bt) :: .int .i64 (b2i bt) :: .int .i64 (b2i was) :: .int .i64 (b2i bt) :: .bool true :: u10s 0 :: u10s 1 :: u11s 0 :: u11s 1 :: u12s 0 :: u 0 :: u 1 :: u 2 :: u56 :: u57 :: u58 :: u59 :: u60 :: u61 :: u62 :: u63 :: u64 :: u65 :: u66 :: u67 :: u68 :: u69 :: u70 :: u71 :: u72 :: u73 :: u74 :: u75 :: u76 :: u77 :: u78 :: u79 :: u80 :: u81 :: u82 :: u83 :: u84 :: u85 :: u86 :: u87 :: u88 :: u89 :: u90 :: u91 :: u92 :: u93 :: u94 :: u95 :: u96 :: u97 :: u98 :: u99 :: u100 :: u101 :: u102 :: u103 :: undef :: undef :: undef :: undef :: undef :: undef :: undef :: undef :: undef :: []).toArray) (Holds [.val rR [B.x], .val rR [B.z], .val rR [B.x + B.z], .new 16, .st 3 rR [B.x + B.z]] W12s) (Keep [.val rR [B.x], .val rR [B.z], .val rR [B.x + B.z], .new 16, .st 3 rR [B.x + B.z]] W12s) (fun k => ([u53, u54, u55, u14, undef] : List Value).getD k undef) ?_ (by rfl) Keep.start (holds_soft (by kernel_rfl)) ?_ ?_
        · intro u i v h
          rcases i with _ | _ | _ | _ | _ | i
          all_goals first | (simp [Act.put, putV]; done) | (exfalso; simp at h; omega)
        · intro hs
          refine ⟨?_, ?_, ?_, ?_, ?_, trivial⟩
          · exact step_load q7 0 hs (wants_none rfl) rfl rfl tyFe (fun _ => E7.out) hs10_2.lt hs10_2 (noSto_apart (by kernel_rfl))
          · exact step_load q8 0 hs (wants_none rfl) rfl rfl tyFe (fun _ => E8.out) hs11_2.lt hs11_2 (noSto_apart (by kernel_rfl))
          · refine step_call hs (wants_none rfl) rfl fun L u W hJ hG hL hdep K hK => ?_
            have a0 := (show IsFs rR (u 0) [B.x] from hG 0 (hdep 0 (by kernel_rfl)))
            have a1 := (show IsFs rR (u 1) [B.z] from hG 1 (hdep 1 (by kernel_rfl)))
            go_simp
            go_at_call 32
            (with_reducible refine (kAdd a0 a1 _).mono ?_); rintro e w1 ⟨r, rfl, hr, hb⟩
            have hk := hK.out _ _ hr hb
            exact hk
          · exact step_alloc hs (wants_none rfl) rfl rfl (by omega) rfl allocFe
          · exact step_store 3 hs (by kernel_rfl) (wants_none rfl) rfl rfl rfl (by kernel_rfl) (by kernel_rfl) (by kernel_rfl) (by kernel_rfl) (fun _ => rfl) (gives_op 2 rfl (by kernel_rfl) (fun _ => rfl)) tyFe rfl
        intro L13 u13s W13s hall hJ hG
        obtain ⟨q14, e14, hq14, _, ht14⟩ := (show ∃ g, u13s 3 = .pointer (some ⟨g, 0, none⟩) ∧ W12s.heap.size ≤ g ∧ 0 < 16 ∧ W13s.there g 0 16 from hG 3 (by simp))
        have hm14 : HasFs rR W13s q14 0 [B.x + B.z] := by
          obtain ⟨g, e, _, h⟩ := (show ∃ g, u13s 3 = .pointer (some ⟨g, 0, none⟩) ∧ W12s.heap.size ≤ g ∧ HasFs rR W13s g 0 [B.x + B.z] from hG 4 (by simp))
          rw [e14] at e; cases e; exact h
        have HD14_q6 := Lib.hid (show q6 ≠ q14 by have := there_lt ht6' (by omega); omega)
        have HD14_q7 := Lib.hid (show q7 ≠ q14 by have := there_lt hs10_2t (by omega); omega)
        have HD14_q8 := Lib.hid (show q8 ≠ q14 by have := there_lt hs11_2t (by omega); omega)
        have HD14_q9 := Lib.hid (show q9 ≠ q14 by have := there_lt hs10_3t (by omega); omega)
        have HD14_q10 := Lib.hid (show q10 ≠ q14 by have := there_lt hs11_3t (by omega); omega)
        have HD14_wheapsize := Lib.hid (show w.heap.size ≠ q14 by have := there_lt htk' (by omega); omega)
        have hq14 : w.heap.size ≤ q14 := by have := hbel0.size; omega
        have E14 := Lib.hid e14; clear e14
        have hb := hJ.all rfl
        have hbel := Below.call hbel hb
        have hm6' := hm6'.later hb
        have hs10_2 := hs10_2.later hb
        have hs11_2 := hs11_2.later hb
        have hs10_3 := hs10_3.later hb
        have hs11_3 := hs11_3.later hb
        have ht6' := there_later ht6' hb
        have hs10_2t := there_later hs10_2t hb
        have hs11_2t := there_later hs11_2t hb
        have hs10_3t := there_later hs10_3t hb
        have hs11_3t := there_later hs11_3t hb
        have htk' := there_later htk' hb
        have hK' := Lib.hid (hK'.out.below' hb)
        have hbel0 := hbel
        clear hJ hG hall hb
        go_upto_region 14 with fail
        refine wp_region_turn (fun u => (.slice a n cap :: .slice b m cap' :: undef :: undef :: .slice none 0 0 :: .slice (some ⟨w.heap.size, 0, none⟩) 32 32 :: u2 2 :: u3 4 :: u3 5 :: u3 6 :: u3 7 :: u12s 1 :: .int .i64 (i : Int) :: .int .i64 (b2i bt) :: u13s 3 :: u 3 :: u16 :: u17 :: u18 :: u19 :: u20 :: u21 :: u22 :: .slice a n cap :: .slice (some ⟨w.heap.size, 0, none⟩) 32 32 :: u2 0 :: u2 1 :: u3 0 :: u3 1 :: u3 2 :: u3 3 :: .int .i64 (i : Int) :: .bool true :: u33 :: u34 :: .slice (some ⟨w.heap.size, 0, none⟩) 32 32 :: .int .i64 (i : Int) :: .int .i64 (↑i / 8) :: .pointer (some ⟨w.heap.size, i / 8, none⟩) :: .int .u8 (c.toNat : Int) :: .int .i64 (i : Int) :: .int .i64 (↑i % 8) :: .int .u8 (↑c.toNat / 2 ^ (i % 8)) :: .int .u8 (b2i bt) :: .int .i64 (b2i bt) :: .int .i64 (b2i was) :: .int .i64 (b2i bt) :: .bool true :: u10s 0 :: u10s 1 :: u11s 0 :: u11s 1 :: u12s 0 :: u13s 0 :: u13s 1 :: u13s 2 :: u 0 :: u 1 :: u 2 :: u59 :: u60 :: u61 :: u62 :: u63 :: u64 :: u65 :: u66 :: u67 :: u68 :: u69 :: u70 :: u71 :: u72 :: u73 :: u74 :: u75 :: u76 :: u77 :: u78 :: u79 :: u80 :: u81 :: u82 :: u83 :: u84 :: u85 :: u86 :: u87 :: u88 :: u89 :: u90 :: u91 :: u92 :: u93 :: u94 :: u95 :: u96 :: u97 :: u98 :: u99 :: u100 :: u101 :: u102 :: u103 :: undef :: undef :: undef :: undef :: undef :: undef :: undef :: undef :: undef :: []).toArray) (Holds [.val rR [B.x + B.z], .val rR [B.x + B.z], .val rR [(B.x + B.z) * (B.x + B.z)], .new 16, .st 3 rR [(B.x + B.z) * (B.x + B.z)]] W13s) (Keep [.val rR [B.x + B.z], .val rR [B.x + B.z], .val rR [(B.x + B.z) * (B.x + B.z)], .new 16, .st 3 rR [(B.x + B.z) * (B.x + B.z)]] W13s) (fun k => ([u56, u57, u58, u15, undef] : List Value).getD k undef) ?_ (by rfl) Keep.start (holds_soft (by kernel_rfl)) ?_ ?_
        · intro u i v h
          rcases i with _ | _ | _ | _ | _ | i
          all_goals first | (simp [Act.put, putV]; done) | (exfalso; simp at h; omega)
        · intro hs
          refine ⟨?_, ?_, ?_, ?_, ?_, trivial⟩
          · exact step_load q14 0 hs (wants_none rfl) rfl rfl tyFe (fun _ => E14.out) hm14.lt hm14 (noSto_apart (by kernel_rfl))
          · exact step_load q14 0 hs (wants_none rfl) rfl rfl tyFe (fun _ => E14.out) hm14.lt hm14 (noSto_apart (by kernel_rfl))
          · refine step_call hs (wants_none rfl) rfl fun L u W hJ hG hL hdep K hK => ?_
            have a0 := (show IsFs rR (u 0) [B.x + B.z] from hG 0 (hdep 0 (by kernel_rfl)))
            have a1 := (show IsFs rR (u 1) [B.x + B.z] from hG 1 (hdep 1 (by kernel_rfl)))
            go_simp
            go_at_call 33
            (with_reducible refine (kMul a0 a1 _).mono ?_); rintro e w1 ⟨r, rfl, hr, hb⟩
            have hk := hK.out _ _ hr hb
            exact hk
          · exact step_alloc hs (wants_none rfl) rfl rfl (by omega) rfl allocFe
          · exact step_store 3 hs (by kernel_rfl) (wants_none rfl) rfl rfl rfl (by kernel_rfl) (by kernel_rfl) (by kernel_rfl) (by kernel_rfl) (fun _ => rfl) (gives_op 2 rfl (by kernel_rfl) (fun _ => rfl)) tyFe rfl
        intro L14 u14s W14s hall hJ hG
        obtain ⟨q15, e15, hq15, _, ht15⟩ := (show ∃ g, u14s 3 = .pointer (some ⟨g, 0, none⟩) ∧ W13s.heap.size ≤ g ∧ 0 < 16 ∧ W14s.there g 0 16 from hG 3 (by simp))
        have hm15 : HasFs rR W14s q15 0 [(B.x + B.z) * (B.x + B.z)] := by
          obtain ⟨g, e, _, h⟩ := (show ∃ g, u14s 3 = .pointer (some ⟨g, 0, none⟩) ∧ W13s.heap.size ≤ g ∧ HasFs rR W14s g 0 [(B.x + B.z) * (B.x + B.z)] from hG 4 (by simp))
          rw [e15] at e; cases e; exact h
        have HD15_q6 := Lib.hid (show q6 ≠ q15 by have := there_lt ht6' (by omega); omega)
        have HD15_q7 := Lib.hid (show q7 ≠ q15 by have := there_lt hs10_2t (by omega); omega)
        have HD15_q8 := Lib.hid (show q8 ≠ q15 by have := there_lt hs11_2t (by omega); omega)
        have HD15_q9 := Lib.hid (show q9 ≠ q15 by have := there_lt hs10_3t (by omega); omega)
        have HD15_q10 := Lib.hid (show q10 ≠ q15 by have := there_lt hs11_3t (by omega); omega)
        have HD15_wheapsize := Lib.hid (show w.heap.size ≠ q15 by have := there_lt htk' (by omega); omega)
        have HD15_q14 := Lib.hid (show q14 ≠ q15 by have := there_lt ht14 (by omega); omega)
        have hq15 : w.heap.size ≤ q15 := by have := hbel0.size; omega
        have E15 := Lib.hid e15; clear e15
        have hb := hJ.all rfl
        have hbel := Below.call hbel hb
        have hm6' := hm6'.later hb
        have hs10_2 := hs10_2.later hb
        have hs11_2 := hs11_2.later hb
        have hs10_3 := hs10_3.later hb
        have hs11_3 := hs11_3.later hb
        have hm14 := hm14.later hb
        have ht6' := there_later ht6' hb
        have hs10_2t := there_later hs10_2t hb
        have hs11_2t := there_later hs11_2t hb
        have hs10_3t := there_later hs10_3t hb
        have hs11_3t := there_later hs11_3t hb
        have htk' := there_later htk' hb
        have ht14 := there_later ht14 hb
        have hK' := Lib.hid (hK'.out.below' hb)
        have hbel0 := hbel
        clear hJ hG hall hb
        go_upto_region 15 with fail
        refine wp_region_turn (fun u => (.slice a n cap :: .slice b m cap' :: undef :: undef :: .slice none 0 0 :: .slice (some ⟨w.heap.size, 0, none⟩) 32 32 :: u2 2 :: u3 4 :: u3 5 :: u3 6 :: u3 7 :: u12s 1 :: .int .i64 (i : Int) :: .int .i64 (b2i bt) :: u13s 3 :: u14s 3 :: u 3 :: u17 :: u18 :: u19 :: u20 :: u21 :: u22 :: .slice a n cap :: .slice (some ⟨w.heap.size, 0, none⟩) 32 32 :: u2 0 :: u2 1 :: u3 0 :: u3 1 :: u3 2 :: u3 3 :: .int .i64 (i : Int) :: .bool true :: u33 :: u34 :: .slice (some ⟨w.heap.size, 0, none⟩) 32 32 :: .int .i64 (i : Int) :: .int .i64 (↑i / 8) :: .pointer (some ⟨w.heap.size, i / 8, none⟩) :: .int .u8 (c.toNat : Int) :: .int .i64 (i : Int) :: .int .i64 (↑i % 8) :: .int .u8 (↑c.toNat / 2 ^ (i % 8)) :: .int .u8 (b2i bt) :: .int .i64 (b2i bt) :: .int .i64 (b2i was) :: .int .i64 (b2i bt) :: .bool true :: u10s 0 :: u10s 1 :: u11s 0 :: u11s 1 :: u12s 0 :: u13s 0 :: u13s 1 :: u13s 2 :: u14s 0 :: u14s 1 :: u14s 2 :: u 0 :: u 1 :: u 2 :: u62 :: u63 :: u64 :: u65 :: u66 :: u67 :: u68 :: u69 :: u70 :: u71 :: u72 :: u73 :: u74 :: u75 :: u76 :: u77 :: u78 :: u79 :: u80 :: u81 :: u82 :: u83 :: u84 :: u85 :: u86 :: u87 :: u88 :: u89 :: u90 :: u91 :: u92 :: u93 :: u94 :: u95 :: u96 :: u97 :: u98 :: u99 :: u100 :: u101 :: u102 :: u103 :: undef :: undef :: undef :: undef :: undef :: undef :: undef :: undef :: undef :: []).toArray) (Holds [.val rR [B.x], .val rR [B.z], .val rR [B.x - B.z], .new 16, .st 3 rR [B.x - B.z]] W14s) (Keep [.val rR [B.x], .val rR [B.z], .val rR [B.x - B.z], .new 16, .st 3 rR [B.x - B.z]] W14s) (fun k => ([u59, u60, u61, u16, undef] : List Value).getD k undef) ?_ (by rfl) Keep.start (holds_soft (by kernel_rfl)) ?_ ?_
        · intro u i v h
          rcases i with _ | _ | _ | _ | _ | i
          all_goals first | (simp [Act.put, putV]; done) | (exfalso; simp at h; omega)
        · intro hs
          refine ⟨?_, ?_, ?_, ?_, ?_, trivial⟩
          · exact step_load q7 0 hs (wants_none rfl) rfl rfl tyFe (fun _ => E7.out) hs10_2.lt hs10_2 (noSto_apart (by kernel_rfl))
          · exact step_load q8 0 hs (wants_none rfl) rfl rfl tyFe (fun _ => E8.out) hs11_2.lt hs11_2 (noSto_apart (by kernel_rfl))
          · refine step_call hs (wants_none rfl) rfl fun L u W hJ hG hL hdep K hK => ?_
            have a0 := (show IsFs rR (u 0) [B.x] from hG 0 (hdep 0 (by kernel_rfl)))
            have a1 := (show IsFs rR (u 1) [B.z] from hG 1 (hdep 1 (by kernel_rfl)))
            go_simp
            go_at_call 34
            (with_reducible refine (kSub a0 a1 _).mono ?_); rintro e w1 ⟨r, rfl, hr, hb⟩
            have hk := hK.out _ _ hr hb
            exact hk
          · exact step_alloc hs (wants_none rfl) rfl rfl (by omega) rfl allocFe
          · exact step_store 3 hs (by kernel_rfl) (wants_none rfl) rfl rfl rfl (by kernel_rfl) (by kernel_rfl) (by kernel_rfl) (by kernel_rfl) (fun _ => rfl) (gives_op 2 rfl (by kernel_rfl) (fun _ => rfl)) tyFe rfl
        intro L15 u15s W15s hall hJ hG
        obtain ⟨q16, e16, hq16, _, ht16⟩ := (show ∃ g, u15s 3 = .pointer (some ⟨g, 0, none⟩) ∧ W14s.heap.size ≤ g ∧ 0 < 16 ∧ W15s.there g 0 16 from hG 3 (by simp))
        have hm16 : HasFs rR W15s q16 0 [B.x - B.z] := by
          obtain ⟨g, e, _, h⟩ := (show ∃ g, u15s 3 = .pointer (some ⟨g, 0, none⟩) ∧ W14s.heap.size ≤ g ∧ HasFs rR W15s g 0 [B.x - B.z] from hG 4 (by simp))
          rw [e16] at e; cases e; exact h
        have HD16_q6 := Lib.hid (show q6 ≠ q16 by have := there_lt ht6' (by omega); omega)
        have HD16_q7 := Lib.hid (show q7 ≠ q16 by have := there_lt hs10_2t (by omega); omega)
        have HD16_q8 := Lib.hid (show q8 ≠ q16 by have := there_lt hs11_2t (by omega); omega)
        have HD16_q9 := Lib.hid (show q9 ≠ q16 by have := there_lt hs10_3t (by omega); omega)
        have HD16_q10 := Lib.hid (show q10 ≠ q16 by have := there_lt hs11_3t (by omega); omega)
        have HD16_wheapsize := Lib.hid (show w.heap.size ≠ q16 by have := there_lt htk' (by omega); omega)
        have HD16_q14 := Lib.hid (show q14 ≠ q16 by have := there_lt ht14 (by omega); omega)
        have HD16_q15 := Lib.hid (show q15 ≠ q16 by have := there_lt ht15 (by omega); omega)
        have hq16 : w.heap.size ≤ q16 := by have := hbel0.size; omega
        have E16 := Lib.hid e16; clear e16
        have hb := hJ.all rfl
        have hbel := Below.call hbel hb
        have hm6' := hm6'.later hb
        have hs10_2 := hs10_2.later hb
        have hs11_2 := hs11_2.later hb
        have hs10_3 := hs10_3.later hb
        have hs11_3 := hs11_3.later hb
        have hm14 := hm14.later hb
        have hm15 := hm15.later hb
        have ht6' := there_later ht6' hb
        have hs10_2t := there_later hs10_2t hb
        have hs11_2t := there_later hs11_2t hb
        have hs10_3t := there_later hs10_3t hb
        have hs11_3t := there_later hs11_3t hb
        have htk' := there_later htk' hb
        have ht14 := there_later ht14 hb
        have ht15 := there_later ht15 hb
        have hK' := Lib.hid (hK'.out.below' hb)
        have hbel0 := hbel
        clear hJ hG hall hb
        go_upto_region 16 with fail
        refine wp_region_turn (fun u => (.slice a n cap :: .slice b m cap' :: undef :: undef :: .slice none 0 0 :: .slice (some ⟨w.heap.size, 0, none⟩) 32 32 :: u2 2 :: u3 4 :: u3 5 :: u3 6 :: u3 7 :: u12s 1 :: .int .i64 (i : Int) :: .int .i64 (b2i bt) :: u13s 3 :: u14s 3 :: u15s 3 :: u 3 :: u18 :: u19 :: u20 :: u21 :: u22 :: .slice a n cap :: .slice (some ⟨w.heap.size, 0, none⟩) 32 32 :: u2 0 :: u2 1 :: u3 0 :: u3 1 :: u3 2 :: u3 3 :: .int .i64 (i : Int) :: .bool true :: u33 :: u34 :: .slice (some ⟨w.heap.size, 0, none⟩) 32 32 :: .int .i64 (i : Int) :: .int .i64 (↑i / 8) :: .pointer (some ⟨w.heap.size, i / 8, none⟩) :: .int .u8 (c.toNat : Int) :: .int .i64 (i : Int) :: .int .i64 (↑i % 8) :: .int .u8 (↑c.toNat / 2 ^ (i % 8)) :: .int .u8 (b2i bt) :: .int .i64 (b2i bt) :: .int .i64 (b2i was) :: .int .i64 (b2i bt) :: .bool true :: u10s 0 :: u10s 1 :: u11s 0 :: u11s 1 :: u12s 0 :: u13s 0 :: u13s 1 :: u13s 2 :: u14s 0 :: u14s 1 :: u14s 2 :: u15s 0 :: u15s 1 :: u15s 2 :: u 0 :: u 1 :: u 2 :: u65 :: u66 :: u67 :: u68 :: u69 :: u70 :: u71 :: u72 :: u73 :: u74 :: u75 :: u76 :: u77 :: u78 :: u79 :: u80 :: u81 :: u82 :: u83 :: u84 :: u85 :: u86 :: u87 :: u88 :: u89 :: u90 :: u91 :: u92 :: u93 :: u94 :: u95 :: u96 :: u97 :: u98 :: u99 :: u100 :: u101 :: u102 :: u103 :: undef :: undef :: undef :: undef :: undef :: undef :: undef :: undef :: undef :: []).toArray) (Holds [.val rR [B.x - B.z], .val rR [B.x - B.z], .val rR [(B.x - B.z) * (B.x - B.z)], .new 16, .st 3 rR [(B.x - B.z) * (B.x - B.z)]] W15s) (Keep [.val rR [B.x - B.z], .val rR [B.x - B.z], .val rR [(B.x - B.z) * (B.x - B.z)], .new 16, .st 3 rR [(B.x - B.z) * (B.x - B.z)]] W15s) (fun k => ([u62, u63, u64, u17, undef] : List Value).getD k undef) ?_ (by rfl) Keep.start (holds_soft (by kernel_rfl)) ?_ ?_
        · intro u i v h
          rcases i with _ | _ | _ | _ | _ | i
          all_goals first | (simp [Act.put, putV]; done) | (exfalso; simp at h; omega)
        · intro hs
          refine ⟨?_, ?_, ?_, ?_, ?_, trivial⟩
          · exact step_load q16 0 hs (wants_none rfl) rfl rfl tyFe (fun _ => E16.out) hm16.lt hm16 (noSto_apart (by kernel_rfl))
          · exact step_load q16 0 hs (wants_none rfl) rfl rfl tyFe (fun _ => E16.out) hm16.lt hm16 (noSto_apart (by kernel_rfl))
          · refine step_call hs (wants_none rfl) rfl fun L u W hJ hG hL hdep K hK => ?_
            have a0 := (show IsFs rR (u 0) [B.x - B.z] from hG 0 (hdep 0 (by kernel_rfl)))
            have a1 := (show IsFs rR (u 1) [B.x - B.z] from hG 1 (hdep 1 (by kernel_rfl)))
            go_simp
            go_at_call 33
            (with_reducible refine (kMul a0 a1 _).mono ?_); rintro e w1 ⟨r, rfl, hr, hb⟩
            have hk := hK.out _ _ hr hb
            exact hk
          · exact step_alloc hs (wants_none rfl) rfl rfl (by omega) rfl allocFe
          · exact step_store 3 hs (by kernel_rfl) (wants_none rfl) rfl rfl rfl (by kernel_rfl) (by kernel_rfl) (by kernel_rfl) (by kernel_rfl) (fun _ => rfl) (gives_op 2 rfl (by kernel_rfl) (fun _ => rfl)) tyFe rfl
        intro L16 u16s W16s hall hJ hG
        obtain ⟨q17, e17, hq17, _, ht17⟩ := (show ∃ g, u16s 3 = .pointer (some ⟨g, 0, none⟩) ∧ W15s.heap.size ≤ g ∧ 0 < 16 ∧ W16s.there g 0 16 from hG 3 (by simp))
        have hm17 : HasFs rR W16s q17 0 [(B.x - B.z) * (B.x - B.z)] := by
          obtain ⟨g, e, _, h⟩ := (show ∃ g, u16s 3 = .pointer (some ⟨g, 0, none⟩) ∧ W15s.heap.size ≤ g ∧ HasFs rR W16s g 0 [(B.x - B.z) * (B.x - B.z)] from hG 4 (by simp))
          rw [e17] at e; cases e; exact h
        have HD17_q6 := Lib.hid (show q6 ≠ q17 by have := there_lt ht6' (by omega); omega)
        have HD17_q7 := Lib.hid (show q7 ≠ q17 by have := there_lt hs10_2t (by omega); omega)
        have HD17_q8 := Lib.hid (show q8 ≠ q17 by have := there_lt hs11_2t (by omega); omega)
        have HD17_q9 := Lib.hid (show q9 ≠ q17 by have := there_lt hs10_3t (by omega); omega)
        have HD17_q10 := Lib.hid (show q10 ≠ q17 by have := there_lt hs11_3t (by omega); omega)
        have HD17_wheapsize := Lib.hid (show w.heap.size ≠ q17 by have := there_lt htk' (by omega); omega)
        have HD17_q14 := Lib.hid (show q14 ≠ q17 by have := there_lt ht14 (by omega); omega)
        have HD17_q15 := Lib.hid (show q15 ≠ q17 by have := there_lt ht15 (by omega); omega)
        have HD17_q16 := Lib.hid (show q16 ≠ q17 by have := there_lt ht16 (by omega); omega)
        have hq17 : w.heap.size ≤ q17 := by have := hbel0.size; omega
        have E17 := Lib.hid e17; clear e17
        have hb := hJ.all rfl
        have hbel := Below.call hbel hb
        have hm6' := hm6'.later hb
        have hs10_2 := hs10_2.later hb
        have hs11_2 := hs11_2.later hb
        have hs10_3 := hs10_3.later hb
        have hs11_3 := hs11_3.later hb
        have hm14 := hm14.later hb
        have hm15 := hm15.later hb
        have hm16 := hm16.later hb
        have ht6' := there_later ht6' hb
        have hs10_2t := there_later hs10_2t hb
        have hs11_2t := there_later hs11_2t hb
        have hs10_3t := there_later hs10_3t hb
        have hs11_3t := there_later hs11_3t hb
        have htk' := there_later htk' hb
        have ht14 := there_later ht14 hb
        have ht15 := there_later ht15 hb
        have ht16 := there_later ht16 hb
        have hK' := Lib.hid (hK'.out.below' hb)
        have hbel0 := hbel
        clear hJ hG hall hb
        go_upto_region 17 with fail
        refine wp_region_turn (fun u => (.slice a n cap :: .slice b m cap' :: undef :: undef :: .slice none 0 0 :: .slice (some ⟨w.heap.size, 0, none⟩) 32 32 :: u2 2 :: u3 4 :: u3 5 :: u3 6 :: u3 7 :: u12s 1 :: .int .i64 (i : Int) :: .int .i64 (b2i bt) :: u13s 3 :: u14s 3 :: u15s 3 :: u16s 3 :: u 3 :: u19 :: u20 :: u21 :: u22 :: .slice a n cap :: .slice (some ⟨w.heap.size, 0, none⟩) 32 32 :: u2 0 :: u2 1 :: u3 0 :: u3 1 :: u3 2 :: u3 3 :: .int .i64 (i : Int) :: .bool true :: u33 :: u34 :: .slice (some ⟨w.heap.size, 0, none⟩) 32 32 :: .int .i64 (i : Int) :: .int .i64 (↑i / 8) :: .pointer (some ⟨w.heap.size, i / 8, none⟩) :: .int .u8 (c.toNat : Int) :: .int .i64 (i : Int) :: .int .i64 (↑i % 8) :: .int .u8 (↑c.toNat / 2 ^ (i % 8)) :: .int .u8 (b2i bt) :: .int .i64 (b2i bt) :: .int .i64 (b2i was) :: .int .i64 (b2i bt) :: .bool true :: u10s 0 :: u10s 1 :: u11s 0 :: u11s 1 :: u12s 0 :: u13s 0 :: u13s 1 :: u13s 2 :: u14s 0 :: u14s 1 :: u14s 2 :: u15s 0 :: u15s 1 :: u15s 2 :: u16s 0 :: u16s 1 :: u16s 2 :: u 0 :: u 1 :: u 2 :: u68 :: u69 :: u70 :: u71 :: u72 :: u73 :: u74 :: u75 :: u76 :: u77 :: u78 :: u79 :: u80 :: u81 :: u82 :: u83 :: u84 :: u85 :: u86 :: u87 :: u88 :: u89 :: u90 :: u91 :: u92 :: u93 :: u94 :: u95 :: u96 :: u97 :: u98 :: u99 :: u100 :: u101 :: u102 :: u103 :: undef :: undef :: undef :: undef :: undef :: undef :: undef :: undef :: undef :: []).toArray) (Holds [.val rR [(B.x + B.z) * (B.x + B.z)], .val rR [(B.x - B.z) * (B.x - B.z)], .val rR [((B.x + B.z) * (B.x + B.z)) - ((B.x - B.z) * (B.x - B.z))], .new 16, .st 3 rR [((B.x + B.z) * (B.x + B.z)) - ((B.x - B.z) * (B.x - B.z))]] W16s) (Keep [.val rR [(B.x + B.z) * (B.x + B.z)], .val rR [(B.x - B.z) * (B.x - B.z)], .val rR [((B.x + B.z) * (B.x + B.z)) - ((B.x - B.z) * (B.x - B.z))], .new 16, .st 3 rR [((B.x + B.z) * (B.x + B.z)) - ((B.x - B.z) * (B.x - B.z))]] W16s) (fun k => ([u65, u66, u67, u18, undef] : List Value).getD k undef) ?_ (by rfl) Keep.start (holds_soft (by kernel_rfl)) ?_ ?_
        · intro u i v h
          rcases i with _ | _ | _ | _ | _ | i
          all_goals first | (simp [Act.put, putV]; done) | (exfalso; simp at h; omega)
        · intro hs
          refine ⟨?_, ?_, ?_, ?_, ?_, trivial⟩
          · exact step_load q15 0 hs (wants_none rfl) rfl rfl tyFe (fun _ => E15.out) hm15.lt hm15 (noSto_apart (by kernel_rfl))
          · exact step_load q17 0 hs (wants_none rfl) rfl rfl tyFe (fun _ => E17.out) hm17.lt hm17 (noSto_apart (by kernel_rfl))
          · refine step_call hs (wants_none rfl) rfl fun L u W hJ hG hL hdep K hK => ?_
            have a0 := (show IsFs rR (u 0) [(B.x + B.z) * (B.x + B.z)] from hG 0 (hdep 0 (by kernel_rfl)))
            have a1 := (show IsFs rR (u 1) [(B.x - B.z) * (B.x - B.z)] from hG 1 (hdep 1 (by kernel_rfl)))
            go_simp
            go_at_call 34
            (with_reducible refine (kSub a0 a1 _).mono ?_); rintro e w1 ⟨r, rfl, hr, hb⟩
            have hk := hK.out _ _ hr hb
            exact hk
          · exact step_alloc hs (wants_none rfl) rfl rfl (by omega) rfl allocFe
          · exact step_store 3 hs (by kernel_rfl) (wants_none rfl) rfl rfl rfl (by kernel_rfl) (by kernel_rfl) (by kernel_rfl) (by kernel_rfl) (fun _ => rfl) (gives_op 2 rfl (by kernel_rfl) (fun _ => rfl)) tyFe rfl
        intro L17 u17s W17s hall hJ hG
        obtain ⟨q18, e18, hq18, _, ht18⟩ := (show ∃ g, u17s 3 = .pointer (some ⟨g, 0, none⟩) ∧ W16s.heap.size ≤ g ∧ 0 < 16 ∧ W17s.there g 0 16 from hG 3 (by simp))
        have hm18 : HasFs rR W17s q18 0 [((B.x + B.z) * (B.x + B.z)) - ((B.x - B.z) * (B.x - B.z))] := by
          obtain ⟨g, e, _, h⟩ := (show ∃ g, u17s 3 = .pointer (some ⟨g, 0, none⟩) ∧ W16s.heap.size ≤ g ∧ HasFs rR W17s g 0 [((B.x + B.z) * (B.x + B.z)) - ((B.x - B.z) * (B.x - B.z))] from hG 4 (by simp))
          rw [e18] at e; cases e; exact h
        have HD18_q6 := Lib.hid (show q6 ≠ q18 by have := there_lt ht6' (by omega); omega)
        have HD18_q7 := Lib.hid (show q7 ≠ q18 by have := there_lt hs10_2t (by omega); omega)
        have HD18_q8 := Lib.hid (show q8 ≠ q18 by have := there_lt hs11_2t (by omega); omega)
        have HD18_q9 := Lib.hid (show q9 ≠ q18 by have := there_lt hs10_3t (by omega); omega)
        have HD18_q10 := Lib.hid (show q10 ≠ q18 by have := there_lt hs11_3t (by omega); omega)
        have HD18_wheapsize := Lib.hid (show w.heap.size ≠ q18 by have := there_lt htk' (by omega); omega)
        have HD18_q14 := Lib.hid (show q14 ≠ q18 by have := there_lt ht14 (by omega); omega)
        have HD18_q15 := Lib.hid (show q15 ≠ q18 by have := there_lt ht15 (by omega); omega)
        have HD18_q16 := Lib.hid (show q16 ≠ q18 by have := there_lt ht16 (by omega); omega)
        have HD18_q17 := Lib.hid (show q17 ≠ q18 by have := there_lt ht17 (by omega); omega)
        have hq18 : w.heap.size ≤ q18 := by have := hbel0.size; omega
        have E18 := Lib.hid e18; clear e18
        have hb := hJ.all rfl
        have hbel := Below.call hbel hb
        have hm6' := hm6'.later hb
        have hs10_2 := hs10_2.later hb
        have hs11_2 := hs11_2.later hb
        have hs10_3 := hs10_3.later hb
        have hs11_3 := hs11_3.later hb
        have hm14 := hm14.later hb
        have hm15 := hm15.later hb
        have hm16 := hm16.later hb
        have hm17 := hm17.later hb
        have ht6' := there_later ht6' hb
        have hs10_2t := there_later hs10_2t hb
        have hs11_2t := there_later hs11_2t hb
        have hs10_3t := there_later hs10_3t hb
        have hs11_3t := there_later hs11_3t hb
        have htk' := there_later htk' hb
        have ht14 := there_later ht14 hb
        have ht15 := there_later ht15 hb
        have ht16 := there_later ht16 hb
        have ht17 := there_later ht17 hb
        have hK' := Lib.hid (hK'.out.below' hb)
        have hbel0 := hbel
        clear hJ hG hall hb
        go_upto_region 18 with fail
        refine wp_region_turn (fun u => (.slice a n cap :: .slice b m cap' :: undef :: undef :: .slice none 0 0 :: .slice (some ⟨w.heap.size, 0, none⟩) 32 32 :: u2 2 :: u3 4 :: u3 5 :: u3 6 :: u3 7 :: u12s 1 :: .int .i64 (i : Int) :: .int .i64 (b2i bt) :: u13s 3 :: u14s 3 :: u15s 3 :: u16s 3 :: u17s 3 :: u 3 :: u20 :: u21 :: u22 :: .slice a n cap :: .slice (some ⟨w.heap.size, 0, none⟩) 32 32 :: u2 0 :: u2 1 :: u3 0 :: u3 1 :: u3 2 :: u3 3 :: .int .i64 (i : Int) :: .bool true :: u33 :: u34 :: .slice (some ⟨w.heap.size, 0, none⟩) 32 32 :: .int .i64 (i : Int) :: .int .i64 (↑i / 8) :: .pointer (some ⟨w.heap.size, i / 8, none⟩) :: .int .u8 (c.toNat : Int) :: .int .i64 (i : Int) :: .int .i64 (↑i % 8) :: .int .u8 (↑c.toNat / 2 ^ (i % 8)) :: .int .u8 (b2i bt) :: .int .i64 (b2i bt) :: .int .i64 (b2i was) :: .int .i64 (b2i bt) :: .bool true :: u10s 0 :: u10s 1 :: u11s 0 :: u11s 1 :: u12s 0 :: u13s 0 :: u13s 1 :: u13s 2 :: u14s 0 :: u14s 1 :: u14s 2 :: u15s 0 :: u15s 1 :: u15s 2 :: u16s 0 :: u16s 1 :: u16s 2 :: u17s 0 :: u17s 1 :: u17s 2 :: u 0 :: u 1 :: u 2 :: u71 :: u72 :: u73 :: u74 :: u75 :: u76 :: u77 :: u78 :: u79 :: u80 :: u81 :: u82 :: u83 :: u84 :: u85 :: u86 :: u87 :: u88 :: u89 :: u90 :: u91 :: u92 :: u93 :: u94 :: u95 :: u96 :: u97 :: u98 :: u99 :: u100 :: u101 :: u102 :: u103 :: undef :: undef :: undef :: undef :: undef :: undef :: undef :: undef :: undef :: []).toArray) (Holds [.val rR [A.x], .val rR [A.z], .val rR [A.x + A.z], .new 16, .st 3 rR [A.x + A.z]] W17s) (Keep [.val rR [A.x], .val rR [A.z], .val rR [A.x + A.z], .new 16, .st 3 rR [A.x + A.z]] W17s) (fun k => ([u68, u69, u70, u19, undef] : List Value).getD k undef) ?_ (by rfl) Keep.start (holds_soft (by kernel_rfl)) ?_ ?_
        · intro u i v h
          rcases i with _ | _ | _ | _ | _ | i
          all_goals first | (simp [Act.put, putV]; done) | (exfalso; simp at h; omega)
        · intro hs
          refine ⟨?_, ?_, ?_, ?_, ?_, trivial⟩
          · exact step_load q9 0 hs (wants_none rfl) rfl rfl tyFe (fun _ => E9.out) hs10_3.lt hs10_3 (noSto_apart (by kernel_rfl))
          · exact step_load q10 0 hs (wants_none rfl) rfl rfl tyFe (fun _ => E10.out) hs11_3.lt hs11_3 (noSto_apart (by kernel_rfl))
          · refine step_call hs (wants_none rfl) rfl fun L u W hJ hG hL hdep K hK => ?_
            have a0 := (show IsFs rR (u 0) [A.x] from hG 0 (hdep 0 (by kernel_rfl)))
            have a1 := (show IsFs rR (u 1) [A.z] from hG 1 (hdep 1 (by kernel_rfl)))
            go_simp
            go_at_call 32
            (with_reducible refine (kAdd a0 a1 _).mono ?_); rintro e w1 ⟨r, rfl, hr, hb⟩
            have hk := hK.out _ _ hr hb
            exact hk
          · exact step_alloc hs (wants_none rfl) rfl rfl (by omega) rfl allocFe
          · exact step_store 3 hs (by kernel_rfl) (wants_none rfl) rfl rfl rfl (by kernel_rfl) (by kernel_rfl) (by kernel_rfl) (by kernel_rfl) (fun _ => rfl) (gives_op 2 rfl (by kernel_rfl) (fun _ => rfl)) tyFe rfl
        intro L18 u18s W18s hall hJ hG
        obtain ⟨q19, e19, hq19, _, ht19⟩ := (show ∃ g, u18s 3 = .pointer (some ⟨g, 0, none⟩) ∧ W17s.heap.size ≤ g ∧ 0 < 16 ∧ W18s.there g 0 16 from hG 3 (by simp))
        have hm19 : HasFs rR W18s q19 0 [A.x + A.z] := by
          obtain ⟨g, e, _, h⟩ := (show ∃ g, u18s 3 = .pointer (some ⟨g, 0, none⟩) ∧ W17s.heap.size ≤ g ∧ HasFs rR W18s g 0 [A.x + A.z] from hG 4 (by simp))
          rw [e19] at e; cases e; exact h
        have HD19_q6 := Lib.hid (show q6 ≠ q19 by have := there_lt ht6' (by omega); omega)
        have HD19_q7 := Lib.hid (show q7 ≠ q19 by have := there_lt hs10_2t (by omega); omega)
        have HD19_q8 := Lib.hid (show q8 ≠ q19 by have := there_lt hs11_2t (by omega); omega)
        have HD19_q9 := Lib.hid (show q9 ≠ q19 by have := there_lt hs10_3t (by omega); omega)
        have HD19_q10 := Lib.hid (show q10 ≠ q19 by have := there_lt hs11_3t (by omega); omega)
        have HD19_wheapsize := Lib.hid (show w.heap.size ≠ q19 by have := there_lt htk' (by omega); omega)
        have HD19_q14 := Lib.hid (show q14 ≠ q19 by have := there_lt ht14 (by omega); omega)
        have HD19_q15 := Lib.hid (show q15 ≠ q19 by have := there_lt ht15 (by omega); omega)
        have HD19_q16 := Lib.hid (show q16 ≠ q19 by have := there_lt ht16 (by omega); omega)
        have HD19_q17 := Lib.hid (show q17 ≠ q19 by have := there_lt ht17 (by omega); omega)
        have HD19_q18 := Lib.hid (show q18 ≠ q19 by have := there_lt ht18 (by omega); omega)
        have hq19 : w.heap.size ≤ q19 := by have := hbel0.size; omega
        have E19 := Lib.hid e19; clear e19
        have hb := hJ.all rfl
        have hbel := Below.call hbel hb
        have hm6' := hm6'.later hb
        have hs10_2 := hs10_2.later hb
        have hs11_2 := hs11_2.later hb
        have hs10_3 := hs10_3.later hb
        have hs11_3 := hs11_3.later hb
        have hm14 := hm14.later hb
        have hm15 := hm15.later hb
        have hm16 := hm16.later hb
        have hm17 := hm17.later hb
        have hm18 := hm18.later hb
        have ht6' := there_later ht6' hb
        have hs10_2t := there_later hs10_2t hb
        have hs11_2t := there_later hs11_2t hb
        have hs10_3t := there_later hs10_3t hb
        have hs11_3t := there_later hs11_3t hb
        have htk' := there_later htk' hb
        have ht14 := there_later ht14 hb
        have ht15 := there_later ht15 hb
        have ht16 := there_later ht16 hb
        have ht17 := there_later ht17 hb
        have ht18 := there_later ht18 hb
        have hK' := Lib.hid (hK'.out.below' hb)
        have hbel0 := hbel
        clear hJ hG hall hb
        go_upto_region 19 with fail
        refine wp_region_turn (fun u => (.slice a n cap :: .slice b m cap' :: undef :: undef :: .slice none 0 0 :: .slice (some ⟨w.heap.size, 0, none⟩) 32 32 :: u2 2 :: u3 4 :: u3 5 :: u3 6 :: u3 7 :: u12s 1 :: .int .i64 (i : Int) :: .int .i64 (b2i bt) :: u13s 3 :: u14s 3 :: u15s 3 :: u16s 3 :: u17s 3 :: u18s 3 :: u 3 :: u21 :: u22 :: .slice a n cap :: .slice (some ⟨w.heap.size, 0, none⟩) 32 32 :: u2 0 :: u2 1 :: u3 0 :: u3 1 :: u3 2 :: u3 3 :: .int .i64 (i : Int) :: .bool true :: u33 :: u34 :: .slice (some ⟨w.heap.size, 0, none⟩) 32 32 :: .int .i64 (i : Int) :: .int .i64 (↑i / 8) :: .pointer (some ⟨w.heap.size, i / 8, none⟩) :: .int .u8 (c.toNat : Int) :: .int .i64 (i : Int) :: .int .i64 (↑i % 8) :: .int .u8 (↑c.toNat / 2 ^ (i % 8)) :: .int .u8 (b2i bt) :: .int .i64 (b2i bt) :: .int .i64 (b2i was) :: .int .i64 (b2i bt) :: .bool true :: u10s 0 :: u10s 1 :: u11s 0 :: u11s 1 :: u12s 0 :: u13s 0 :: u13s 1 :: u13s 2 :: u14s 0 :: u14s 1 :: u14s 2 :: u15s 0 :: u15s 1 :: u15s 2 :: u16s 0 :: u16s 1 :: u16s 2 :: u17s 0 :: u17s 1 :: u17s 2 :: u18s 0 :: u18s 1 :: u18s 2 :: u 0 :: u 1 :: u 2 :: u74 :: u75 :: u76 :: u77 :: u78 :: u79 :: u80 :: u81 :: u82 :: u83 :: u84 :: u85 :: u86 :: u87 :: u88 :: u89 :: u90 :: u91 :: u92 :: u93 :: u94 :: u95 :: u96 :: u97 :: u98 :: u99 :: u100 :: u101 :: u102 :: u103 :: undef :: undef :: undef :: undef :: undef :: undef :: undef :: undef :: undef :: []).toArray) (Holds [.val rR [A.x], .val rR [A.z], .val rR [A.x - A.z], .new 16, .st 3 rR [A.x - A.z]] W18s) (Keep [.val rR [A.x], .val rR [A.z], .val rR [A.x - A.z], .new 16, .st 3 rR [A.x - A.z]] W18s) (fun k => ([u71, u72, u73, u20, undef] : List Value).getD k undef) ?_ (by rfl) Keep.start (holds_soft (by kernel_rfl)) ?_ ?_
        · intro u i v h
          rcases i with _ | _ | _ | _ | _ | i
          all_goals first | (simp [Act.put, putV]; done) | (exfalso; simp at h; omega)
        · intro hs
          refine ⟨?_, ?_, ?_, ?_, ?_, trivial⟩
          · exact step_load q9 0 hs (wants_none rfl) rfl rfl tyFe (fun _ => E9.out) hs10_3.lt hs10_3 (noSto_apart (by kernel_rfl))
          · exact step_load q10 0 hs (wants_none rfl) rfl rfl tyFe (fun _ => E10.out) hs11_3.lt hs11_3 (noSto_apart (by kernel_rfl))
          · refine step_call hs (wants_none rfl) rfl fun L u W hJ hG hL hdep K hK => ?_
            have a0 := (show IsFs rR (u 0) [A.x] from hG 0 (hdep 0 (by kernel_rfl)))
            have a1 := (show IsFs rR (u 1) [A.z] from hG 1 (hdep 1 (by kernel_rfl)))
            go_simp
            go_at_call 34
            (with_reducible refine (kSub a0 a1 _).mono ?_); rintro e w1 ⟨r, rfl, hr, hb⟩
            have hk := hK.out _ _ hr hb
            exact hk
          · exact step_alloc hs (wants_none rfl) rfl rfl (by omega) rfl allocFe
          · exact step_store 3 hs (by kernel_rfl) (wants_none rfl) rfl rfl rfl (by kernel_rfl) (by kernel_rfl) (by kernel_rfl) (by kernel_rfl) (fun _ => rfl) (gives_op 2 rfl (by kernel_rfl) (fun _ => rfl)) tyFe rfl
        intro L19 u19s W19s hall hJ hG
        obtain ⟨q20, e20, hq20, _, ht20⟩ := (show ∃ g, u19s 3 = .pointer (some ⟨g, 0, none⟩) ∧ W18s.heap.size ≤ g ∧ 0 < 16 ∧ W19s.there g 0 16 from hG 3 (by simp))
        have hm20 : HasFs rR W19s q20 0 [A.x - A.z] := by
          obtain ⟨g, e, _, h⟩ := (show ∃ g, u19s 3 = .pointer (some ⟨g, 0, none⟩) ∧ W18s.heap.size ≤ g ∧ HasFs rR W19s g 0 [A.x - A.z] from hG 4 (by simp))
          rw [e20] at e; cases e; exact h
        have HD20_q6 := Lib.hid (show q6 ≠ q20 by have := there_lt ht6' (by omega); omega)
        have HD20_q7 := Lib.hid (show q7 ≠ q20 by have := there_lt hs10_2t (by omega); omega)
        have HD20_q8 := Lib.hid (show q8 ≠ q20 by have := there_lt hs11_2t (by omega); omega)
        have HD20_q9 := Lib.hid (show q9 ≠ q20 by have := there_lt hs10_3t (by omega); omega)
        have HD20_q10 := Lib.hid (show q10 ≠ q20 by have := there_lt hs11_3t (by omega); omega)
        have HD20_wheapsize := Lib.hid (show w.heap.size ≠ q20 by have := there_lt htk' (by omega); omega)
        have HD20_q14 := Lib.hid (show q14 ≠ q20 by have := there_lt ht14 (by omega); omega)
        have HD20_q15 := Lib.hid (show q15 ≠ q20 by have := there_lt ht15 (by omega); omega)
        have HD20_q16 := Lib.hid (show q16 ≠ q20 by have := there_lt ht16 (by omega); omega)
        have HD20_q17 := Lib.hid (show q17 ≠ q20 by have := there_lt ht17 (by omega); omega)
        have HD20_q18 := Lib.hid (show q18 ≠ q20 by have := there_lt ht18 (by omega); omega)
        have HD20_q19 := Lib.hid (show q19 ≠ q20 by have := there_lt ht19 (by omega); omega)
        have hq20 : w.heap.size ≤ q20 := by have := hbel0.size; omega
        have E20 := Lib.hid e20; clear e20
        have hb := hJ.all rfl
        have hbel := Below.call hbel hb
        have hm6' := hm6'.later hb
        have hs10_2 := hs10_2.later hb
        have hs11_2 := hs11_2.later hb
        have hs10_3 := hs10_3.later hb
        have hs11_3 := hs11_3.later hb
        have hm14 := hm14.later hb
        have hm15 := hm15.later hb
        have hm16 := hm16.later hb
        have hm17 := hm17.later hb
        have hm18 := hm18.later hb
        have hm19 := hm19.later hb
        have ht6' := there_later ht6' hb
        have hs10_2t := there_later hs10_2t hb
        have hs11_2t := there_later hs11_2t hb
        have hs10_3t := there_later hs10_3t hb
        have hs11_3t := there_later hs11_3t hb
        have htk' := there_later htk' hb
        have ht14 := there_later ht14 hb
        have ht15 := there_later ht15 hb
        have ht16 := there_later ht16 hb
        have ht17 := there_later ht17 hb
        have ht18 := there_later ht18 hb
        have ht19 := there_later ht19 hb
        have hK' := Lib.hid (hK'.out.below' hb)
        have hbel0 := hbel
        clear hJ hG hall hb
        go_upto_region 20 with fail
        refine wp_region_turn (fun u => (.slice a n cap :: .slice b m cap' :: undef :: undef :: .slice none 0 0 :: .slice (some ⟨w.heap.size, 0, none⟩) 32 32 :: u2 2 :: u3 4 :: u3 5 :: u3 6 :: u3 7 :: u12s 1 :: .int .i64 (i : Int) :: .int .i64 (b2i bt) :: u13s 3 :: u14s 3 :: u15s 3 :: u16s 3 :: u17s 3 :: u18s 3 :: u19s 3 :: u 3 :: u22 :: .slice a n cap :: .slice (some ⟨w.heap.size, 0, none⟩) 32 32 :: u2 0 :: u2 1 :: u3 0 :: u3 1 :: u3 2 :: u3 3 :: .int .i64 (i : Int) :: .bool true :: u33 :: u34 :: .slice (some ⟨w.heap.size, 0, none⟩) 32 32 :: .int .i64 (i : Int) :: .int .i64 (↑i / 8) :: .pointer (some ⟨w.heap.size, i / 8, none⟩) :: .int .u8 (c.toNat : Int) :: .int .i64 (i : Int) :: .int .i64 (↑i % 8) :: .int .u8 (↑c.toNat / 2 ^ (i % 8)) :: .int .u8 (b2i bt) :: .int .i64 (b2i bt) :: .int .i64 (b2i was) :: .int .i64 (b2i bt) :: .bool true :: u10s 0 :: u10s 1 :: u11s 0 :: u11s 1 :: u12s 0 :: u13s 0 :: u13s 1 :: u13s 2 :: u14s 0 :: u14s 1 :: u14s 2 :: u15s 0 :: u15s 1 :: u15s 2 :: u16s 0 :: u16s 1 :: u16s 2 :: u17s 0 :: u17s 1 :: u17s 2 :: u18s 0 :: u18s 1 :: u18s 2 :: u19s 0 :: u19s 1 :: u19s 2 :: u 0 :: u 1 :: u 2 :: u77 :: u78 :: u79 :: u80 :: u81 :: u82 :: u83 :: u84 :: u85 :: u86 :: u87 :: u88 :: u89 :: u90 :: u91 :: u92 :: u93 :: u94 :: u95 :: u96 :: u97 :: u98 :: u99 :: u100 :: u101 :: u102 :: u103 :: undef :: undef :: undef :: undef :: undef :: undef :: undef :: undef :: undef :: []).toArray) (Holds [.val rR [A.x - A.z], .val rR [B.x + B.z], .val rR [(A.x - A.z) * (B.x + B.z)], .new 16, .st 3 rR [(A.x - A.z) * (B.x + B.z)]] W19s) (Keep [.val rR [A.x - A.z], .val rR [B.x + B.z], .val rR [(A.x - A.z) * (B.x + B.z)], .new 16, .st 3 rR [(A.x - A.z) * (B.x + B.z)]] W19s) (fun k => ([u74, u75, u76, u21, undef] : List Value).getD k undef) ?_ (by rfl) Keep.start (holds_soft (by kernel_rfl)) ?_ ?_
        · intro u i v h
          rcases i with _ | _ | _ | _ | _ | i
          all_goals first | (simp [Act.put, putV]; done) | (exfalso; simp at h; omega)
        · intro hs
          refine ⟨?_, ?_, ?_, ?_, ?_, trivial⟩
          · exact step_load q20 0 hs (wants_none rfl) rfl rfl tyFe (fun _ => E20.out) hm20.lt hm20 (noSto_apart (by kernel_rfl))
          · exact step_load q14 0 hs (wants_none rfl) rfl rfl tyFe (fun _ => E14.out) hm14.lt hm14 (noSto_apart (by kernel_rfl))
          · refine step_call hs (wants_none rfl) rfl fun L u W hJ hG hL hdep K hK => ?_
            have a0 := (show IsFs rR (u 0) [A.x - A.z] from hG 0 (hdep 0 (by kernel_rfl)))
            have a1 := (show IsFs rR (u 1) [B.x + B.z] from hG 1 (hdep 1 (by kernel_rfl)))
            go_simp
            go_at_call 33
            (with_reducible refine (kMul a0 a1 _).mono ?_); rintro e w1 ⟨r, rfl, hr, hb⟩
            have hk := hK.out _ _ hr hb
            exact hk
          · exact step_alloc hs (wants_none rfl) rfl rfl (by omega) rfl allocFe
          · exact step_store 3 hs (by kernel_rfl) (wants_none rfl) rfl rfl rfl (by kernel_rfl) (by kernel_rfl) (by kernel_rfl) (by kernel_rfl) (fun _ => rfl) (gives_op 2 rfl (by kernel_rfl) (fun _ => rfl)) tyFe rfl
        intro L20 u20s W20s hall hJ hG
        obtain ⟨q21, e21, hq21, _, ht21⟩ := (show ∃ g, u20s 3 = .pointer (some ⟨g, 0, none⟩) ∧ W19s.heap.size ≤ g ∧ 0 < 16 ∧ W20s.there g 0 16 from hG 3 (by simp))
        have hm21 : HasFs rR W20s q21 0 [(A.x - A.z) * (B.x + B.z)] := by
          obtain ⟨g, e, _, h⟩ := (show ∃ g, u20s 3 = .pointer (some ⟨g, 0, none⟩) ∧ W19s.heap.size ≤ g ∧ HasFs rR W20s g 0 [(A.x - A.z) * (B.x + B.z)] from hG 4 (by simp))
          rw [e21] at e; cases e; exact h
        have HD21_q6 := Lib.hid (show q6 ≠ q21 by have := there_lt ht6' (by omega); omega)
        have HD21_q7 := Lib.hid (show q7 ≠ q21 by have := there_lt hs10_2t (by omega); omega)
        have HD21_q8 := Lib.hid (show q8 ≠ q21 by have := there_lt hs11_2t (by omega); omega)
        have HD21_q9 := Lib.hid (show q9 ≠ q21 by have := there_lt hs10_3t (by omega); omega)
        have HD21_q10 := Lib.hid (show q10 ≠ q21 by have := there_lt hs11_3t (by omega); omega)
        have HD21_wheapsize := Lib.hid (show w.heap.size ≠ q21 by have := there_lt htk' (by omega); omega)
        have HD21_q14 := Lib.hid (show q14 ≠ q21 by have := there_lt ht14 (by omega); omega)
        have HD21_q15 := Lib.hid (show q15 ≠ q21 by have := there_lt ht15 (by omega); omega)
        have HD21_q16 := Lib.hid (show q16 ≠ q21 by have := there_lt ht16 (by omega); omega)
        have HD21_q17 := Lib.hid (show q17 ≠ q21 by have := there_lt ht17 (by omega); omega)
        have HD21_q18 := Lib.hid (show q18 ≠ q21 by have := there_lt ht18 (by omega); omega)
        have HD21_q19 := Lib.hid (show q19 ≠ q21 by have := there_lt ht19 (by omega); omega)
        have HD21_q20 := Lib.hid (show q20 ≠ q21 by have := there_lt ht20 (by omega); omega)
        have hq21 : w.heap.size ≤ q21 := by have := hbel0.size; omega
        have E21 := Lib.hid e21; clear e21
        have hb := hJ.all rfl
        have hbel := Below.call hbel hb
        have hm6' := hm6'.later hb
        have hs10_2 := hs10_2.later hb
        have hs11_2 := hs11_2.later hb
        have hs10_3 := hs10_3.later hb
        have hs11_3 := hs11_3.later hb
        have hm14 := hm14.later hb
        have hm15 := hm15.later hb
        have hm16 := hm16.later hb
        have hm17 := hm17.later hb
        have hm18 := hm18.later hb
        have hm19 := hm19.later hb
        have hm20 := hm20.later hb
        have ht6' := there_later ht6' hb
        have hs10_2t := there_later hs10_2t hb
        have hs11_2t := there_later hs11_2t hb
        have hs10_3t := there_later hs10_3t hb
        have hs11_3t := there_later hs11_3t hb
        have htk' := there_later htk' hb
        have ht14 := there_later ht14 hb
        have ht15 := there_later ht15 hb
        have ht16 := there_later ht16 hb
        have ht17 := there_later ht17 hb
        have ht18 := there_later ht18 hb
        have ht19 := there_later ht19 hb
        have ht20 := there_later ht20 hb
        have hK' := Lib.hid (hK'.out.below' hb)
        have hbel0 := hbel
        clear hJ hG hall hb
        go_upto_region 21 with fail
        refine wp_region_turn (fun u => (.slice a n cap :: .slice b m cap' :: undef :: undef :: .slice none 0 0 :: .slice (some ⟨w.heap.size, 0, none⟩) 32 32 :: u2 2 :: u3 4 :: u3 5 :: u3 6 :: u3 7 :: u12s 1 :: .int .i64 (i : Int) :: .int .i64 (b2i bt) :: u13s 3 :: u14s 3 :: u15s 3 :: u16s 3 :: u17s 3 :: u18s 3 :: u19s 3 :: u20s 3 :: u 3 :: .slice a n cap :: .slice (some ⟨w.heap.size, 0, none⟩) 32 32 :: u2 0 :: u2 1 :: u3 0 :: u3 1 :: u3 2 :: u3 3 :: .int .i64 (i : Int) :: .bool true :: u33 :: u34 :: .slice (some ⟨w.heap.size, 0, none⟩) 32 32 :: .int .i64 (i : Int) :: .int .i64 (↑i / 8) :: .pointer (some ⟨w.heap.size, i / 8, none⟩) :: .int .u8 (c.toNat : Int) :: .int .i64 (i : Int) :: .int .i64 (↑i % 8) :: .int .u8 (↑c.toNat / 2 ^ (i % 8)) :: .int .u8 (b2i bt) :: .int .i64 (b2i bt) :: .int .i64 (b2i was) :: .int .i64 (b2i bt) :: .bool true :: u10s 0 :: u10s 1 :: u11s 0 :: u11s 1 :: u12s 0 :: u13s 0 :: u13s 1 :: u13s 2 :: u14s 0 :: u14s 1 :: u14s 2 :: u15s 0 :: u15s 1 :: u15s 2 :: u16s 0 :: u16s 1 :: u16s 2 :: u17s 0 :: u17s 1 :: u17s 2 :: u18s 0 :: u18s 1 :: u18s 2 :: u19s 0 :: u19s 1 :: u19s 2 :: u20s 0 :: u20s 1 :: u20s 2 :: u 0 :: u 1 :: u 2 :: u80 :: u81 :: u82 :: u83 :: u84 :: u85 :: u86 :: u87 :: u88 :: u89 :: u90 :: u91 :: u92 :: u93 :: u94 :: u95 :: u96 :: u97 :: u98 :: u99 :: u100 :: u101 :: u102 :: u103 :: undef :: undef :: undef :: undef :: undef :: undef :: undef :: undef :: undef :: []).toArray) (Holds [.val rR [A.x + A.z], .val rR [B.x - B.z], .val rR [(A.x + A.z) * (B.x - B.z)], .new 16, .st 3 rR [(A.x + A.z) * (B.x - B.z)]] W20s) (Keep [.val rR [A.x + A.z], .val rR [B.x - B.z], .val rR [(A.x + A.z) * (B.x - B.z)], .new 16, .st 3 rR [(A.x + A.z) * (B.x - B.z)]] W20s) (fun k => ([u77, u78, u79, u22, undef] : List Value).getD k undef) ?_ (by rfl) Keep.start (holds_soft (by kernel_rfl)) ?_ ?_
        · intro u i v h
          rcases i with _ | _ | _ | _ | _ | i
          all_goals first | (simp [Act.put, putV]; done) | (exfalso; simp at h; omega)
        · intro hs
          refine ⟨?_, ?_, ?_, ?_, ?_, trivial⟩
          · exact step_load q19 0 hs (wants_none rfl) rfl rfl tyFe (fun _ => E19.out) hm19.lt hm19 (noSto_apart (by kernel_rfl))
          · exact step_load q16 0 hs (wants_none rfl) rfl rfl tyFe (fun _ => E16.out) hm16.lt hm16 (noSto_apart (by kernel_rfl))
          · refine step_call hs (wants_none rfl) rfl fun L u W hJ hG hL hdep K hK => ?_
            have a0 := (show IsFs rR (u 0) [A.x + A.z] from hG 0 (hdep 0 (by kernel_rfl)))
            have a1 := (show IsFs rR (u 1) [B.x - B.z] from hG 1 (hdep 1 (by kernel_rfl)))
            go_simp
            go_at_call 33
            (with_reducible refine (kMul a0 a1 _).mono ?_); rintro e w1 ⟨r, rfl, hr, hb⟩
            have hk := hK.out _ _ hr hb
            exact hk
          · exact step_alloc hs (wants_none rfl) rfl rfl (by omega) rfl allocFe
          · exact step_store 3 hs (by kernel_rfl) (wants_none rfl) rfl rfl rfl (by kernel_rfl) (by kernel_rfl) (by kernel_rfl) (by kernel_rfl) (fun _ => rfl) (gives_op 2 rfl (by kernel_rfl) (fun _ => rfl)) tyFe rfl
        intro L21 u21s W21s hall hJ hG
        obtain ⟨q22, e22, hq22, _, ht22⟩ := (show ∃ g, u21s 3 = .pointer (some ⟨g, 0, none⟩) ∧ W20s.heap.size ≤ g ∧ 0 < 16 ∧ W21s.there g 0 16 from hG 3 (by simp))
        have hm22 : HasFs rR W21s q22 0 [(A.x + A.z) * (B.x - B.z)] := by
          obtain ⟨g, e, _, h⟩ := (show ∃ g, u21s 3 = .pointer (some ⟨g, 0, none⟩) ∧ W20s.heap.size ≤ g ∧ HasFs rR W21s g 0 [(A.x + A.z) * (B.x - B.z)] from hG 4 (by simp))
          rw [e22] at e; cases e; exact h
        have HD22_q6 := Lib.hid (show q6 ≠ q22 by have := there_lt ht6' (by omega); omega)
        have HD22_q7 := Lib.hid (show q7 ≠ q22 by have := there_lt hs10_2t (by omega); omega)
        have HD22_q8 := Lib.hid (show q8 ≠ q22 by have := there_lt hs11_2t (by omega); omega)
        have HD22_q9 := Lib.hid (show q9 ≠ q22 by have := there_lt hs10_3t (by omega); omega)
        have HD22_q10 := Lib.hid (show q10 ≠ q22 by have := there_lt hs11_3t (by omega); omega)
        have HD22_wheapsize := Lib.hid (show w.heap.size ≠ q22 by have := there_lt htk' (by omega); omega)
        have HD22_q14 := Lib.hid (show q14 ≠ q22 by have := there_lt ht14 (by omega); omega)
        have HD22_q15 := Lib.hid (show q15 ≠ q22 by have := there_lt ht15 (by omega); omega)
        have HD22_q16 := Lib.hid (show q16 ≠ q22 by have := there_lt ht16 (by omega); omega)
        have HD22_q17 := Lib.hid (show q17 ≠ q22 by have := there_lt ht17 (by omega); omega)
        have HD22_q18 := Lib.hid (show q18 ≠ q22 by have := there_lt ht18 (by omega); omega)
        have HD22_q19 := Lib.hid (show q19 ≠ q22 by have := there_lt ht19 (by omega); omega)
        have HD22_q20 := Lib.hid (show q20 ≠ q22 by have := there_lt ht20 (by omega); omega)
        have HD22_q21 := Lib.hid (show q21 ≠ q22 by have := there_lt ht21 (by omega); omega)
        have hq22 : w.heap.size ≤ q22 := by have := hbel0.size; omega
        have E22 := Lib.hid e22; clear e22
        have hb := hJ.all rfl
        have hbel := Below.call hbel hb
        have hm6' := hm6'.later hb
        have hs10_2 := hs10_2.later hb
        have hs11_2 := hs11_2.later hb
        have hs10_3 := hs10_3.later hb
        have hs11_3 := hs11_3.later hb
        have hm14 := hm14.later hb
        have hm15 := hm15.later hb
        have hm16 := hm16.later hb
        have hm17 := hm17.later hb
        have hm18 := hm18.later hb
        have hm19 := hm19.later hb
        have hm20 := hm20.later hb
        have hm21 := hm21.later hb
        have ht6' := there_later ht6' hb
        have hs10_2t := there_later hs10_2t hb
        have hs11_2t := there_later hs11_2t hb
        have hs10_3t := there_later hs10_3t hb
        have hs11_3t := there_later hs11_3t hb
        have htk' := there_later htk' hb
        have ht14 := there_later ht14 hb
        have ht15 := there_later ht15 hb
        have ht16 := there_later ht16 hb
        have ht17 := there_later ht17 hb
        have ht18 := there_later ht18 hb
        have ht19 := there_later ht19 hb
        have ht20 := there_later ht20 hb
        have ht21 := there_later ht21 hb
        have hK' := Lib.hid (hK'.out.below' hb)
        have hbel0 := hbel
        clear hJ hG hall hb
        go_upto_region 22 with fail
        refine wp_region_turn (fun u => (.slice a n cap :: .slice b m cap' :: undef :: undef :: .slice none 0 0 :: .slice (some ⟨w.heap.size, 0, none⟩) 32 32 :: u2 2 :: u3 4 :: u3 5 :: u3 6 :: u3 7 :: u12s 1 :: .int .i64 (i : Int) :: .int .i64 (b2i bt) :: u13s 3 :: u14s 3 :: u15s 3 :: u16s 3 :: u17s 3 :: u18s 3 :: u19s 3 :: u20s 3 :: u21s 3 :: .slice a n cap :: .slice (some ⟨w.heap.size, 0, none⟩) 32 32 :: u2 0 :: u2 1 :: u3 0 :: u3 1 :: u3 2 :: u3 3 :: .int .i64 (i : Int) :: .bool true :: u33 :: u34 :: .slice (some ⟨w.heap.size, 0, none⟩) 32 32 :: .int .i64 (i : Int) :: .int .i64 (↑i / 8) :: .pointer (some ⟨w.heap.size, i / 8, none⟩) :: .int .u8 (c.toNat : Int) :: .int .i64 (i : Int) :: .int .i64 (↑i % 8) :: .int .u8 (↑c.toNat / 2 ^ (i % 8)) :: .int .u8 (b2i bt) :: .int .i64 (b2i bt) :: .int .i64 (b2i was) :: .int .i64 (b2i bt) :: .bool true :: u10s 0 :: u10s 1 :: u11s 0 :: u11s 1 :: u12s 0 :: u13s 0 :: u13s 1 :: u13s 2 :: u14s 0 :: u14s 1 :: u14s 2 :: u15s 0 :: u15s 1 :: u15s 2 :: u16s 0 :: u16s 1 :: u16s 2 :: u17s 0 :: u17s 1 :: u17s 2 :: u18s 0 :: u18s 1 :: u18s 2 :: u19s 0 :: u19s 1 :: u19s 2 :: u20s 0 :: u20s 1 :: u20s 2 :: u21s 0 :: u21s 1 :: u21s 2 :: u 0 :: u 1 :: u 2 :: u83 :: u84 :: u85 :: u86 :: u87 :: u88 :: u89 :: u90 :: u91 :: u92 :: u93 :: u94 :: u95 :: u96 :: u97 :: u98 :: u99 :: u100 :: u101 :: u102 :: u103 :: undef :: undef :: undef :: undef :: undef :: undef :: undef :: undef :: undef :: []).toArray) (Holds [.val rR [(A.x - A.z) * (B.x + B.z)], .val rR [(A.x + A.z) * (B.x - B.z)], .val rR [((A.x - A.z) * (B.x + B.z)) + ((A.x + A.z) * (B.x - B.z))], .sto q9 rR [((A.x - A.z) * (B.x + B.z)) + ((A.x + A.z) * (B.x - B.z))]] W21s) (Keep [.val rR [(A.x - A.z) * (B.x + B.z)], .val rR [(A.x + A.z) * (B.x - B.z)], .val rR [((A.x - A.z) * (B.x + B.z)) + ((A.x + A.z) * (B.x - B.z))], .sto q9 rR [((A.x - A.z) * (B.x + B.z)) + ((A.x + A.z) * (B.x - B.z))]] W21s) (fun k => ([u80, u81, u82, undef] : List Value).getD k undef) ?_ (by rfl) Keep.start (holds_soft (by kernel_rfl)) ?_ ?_
        · intro u i v h
          rcases i with _ | _ | _ | _ | i
          all_goals first | (simp [Act.put, putV]; done) | (exfalso; simp at h; omega)
        · intro hs
          refine ⟨?_, ?_, ?_, ?_, trivial⟩
          · exact step_load q21 0 hs (wants_none rfl) rfl rfl tyFe (fun _ => E21.out) hm21.lt hm21 (fun k g hk => by rcases k with _ | _ | _ | _ | k <;> first | (cases hk; done) | (cases hk; exact .inr HD21_q9.out))
          · exact step_load q22 0 hs (wants_none rfl) rfl rfl tyFe (fun _ => E22.out) hm22.lt hm22 (fun k g hk => by rcases k with _ | _ | _ | _ | k <;> first | (cases hk; done) | (cases hk; exact .inr HD22_q9.out))
          · refine step_call hs (wants_none rfl) rfl fun L u W hJ hG hL hdep K hK => ?_
            have a0 := (show IsFs rR (u 0) [(A.x - A.z) * (B.x + B.z)] from hG 0 (hdep 0 (by kernel_rfl)))
            have a1 := (show IsFs rR (u 1) [(A.x + A.z) * (B.x - B.z)] from hG 1 (hdep 1 (by kernel_rfl)))
            go_simp
            go_at_call 32
            (with_reducible refine (kAdd a0 a1 _).mono ?_); rintro e w1 ⟨r, rfl, hr, hb⟩
            have hk := hK.out _ _ hr hb
            exact hk
          · refine step_storeO q9 16 hs (wants_none rfl) rfl rfl (by kernel_rfl) (fun k hk => ?_) (fun _ => E9.out) (there_lt hs10_3t (by omega)) hs10_3t (gives_op 2 rfl (by kernel_rfl) (fun _ => rfl)) tyFe rfl
            rcases k with _ | _ | _ | _ | k
            all_goals first | (exact absurd rfl hk) | (intro e; cases e; done)
        intro L22 u22s W22s hall hJ hG
        have hb : Below w.heap.size W21s W22s := hJ.below (by have := hbel.size; omega) (fun k b hf => by rcases k with _ | _ | _ | _ | k <;> first | (cases hf; done) | (cases hf; omega))
        have hbel := hbel.trans hb
        have hm6' := hm6'.blk (hJ.block _ (hm6'.lt) (fun k hk => by rcases k with _ | _ | _ | _ | k <;> first | (cases hk; done) | (cases hk; exact absurd rfl (Ne.symm HD9_q6.out))))
        have hs10_2 := hs10_2.blk (hJ.block _ (hs10_2.lt) (fun k hk => by rcases k with _ | _ | _ | _ | k <;> first | (cases hk; done) | (cases hk; exact absurd rfl (Ne.symm HN7_9.out))))
        have hs11_2 := hs11_2.blk (hJ.block _ (hs11_2.lt) (fun k hk => by rcases k with _ | _ | _ | _ | k <;> first | (cases hk; done) | (cases hk; exact absurd rfl (Ne.symm HN8_9.out))))
        have hs11_3 := hs11_3.blk (hJ.block _ (hs11_3.lt) (fun k hk => by rcases k with _ | _ | _ | _ | k <;> first | (cases hk; done) | (cases hk; exact absurd rfl HN9_10.out)))
        have hm14 := hm14.blk (hJ.block _ (hm14.lt) (fun k hk => by rcases k with _ | _ | _ | _ | k <;> first | (cases hk; done) | (cases hk; exact absurd rfl HD14_q9.out)))
        have hm15 := hm15.blk (hJ.block _ (hm15.lt) (fun k hk => by rcases k with _ | _ | _ | _ | k <;> first | (cases hk; done) | (cases hk; exact absurd rfl HD15_q9.out)))
        have hm16 := hm16.blk (hJ.block _ (hm16.lt) (fun k hk => by rcases k with _ | _ | _ | _ | k <;> first | (cases hk; done) | (cases hk; exact absurd rfl HD16_q9.out)))
        have hm17 := hm17.blk (hJ.block _ (hm17.lt) (fun k hk => by rcases k with _ | _ | _ | _ | k <;> first | (cases hk; done) | (cases hk; exact absurd rfl HD17_q9.out)))
        have hm18 := hm18.blk (hJ.block _ (hm18.lt) (fun k hk => by rcases k with _ | _ | _ | _ | k <;> first | (cases hk; done) | (cases hk; exact absurd rfl HD18_q9.out)))
        have hm19 := hm19.blk (hJ.block _ (hm19.lt) (fun k hk => by rcases k with _ | _ | _ | _ | k <;> first | (cases hk; done) | (cases hk; exact absurd rfl HD19_q9.out)))
        have hm20 := hm20.blk (hJ.block _ (hm20.lt) (fun k hk => by rcases k with _ | _ | _ | _ | k <;> first | (cases hk; done) | (cases hk; exact absurd rfl HD20_q9.out)))
        have hm21 := hm21.blk (hJ.block _ (hm21.lt) (fun k hk => by rcases k with _ | _ | _ | _ | k <;> first | (cases hk; done) | (cases hk; exact absurd rfl HD21_q9.out)))
        have hm22 := hm22.blk (hJ.block _ (hm22.lt) (fun k hk => by rcases k with _ | _ | _ | _ | k <;> first | (cases hk; done) | (cases hk; exact absurd rfl HD22_q9.out)))
        have ht6' := there_blk ht6' (hJ.block _ (there_lt ht6' (by omega)) (fun k hk => by rcases k with _ | _ | _ | _ | k <;> first | (cases hk; done) | (cases hk; exact absurd rfl (Ne.symm HD9_q6.out))))
        have hs10_2t := there_blk hs10_2t (hJ.block _ (there_lt hs10_2t (by omega)) (fun k hk => by rcases k with _ | _ | _ | _ | k <;> first | (cases hk; done) | (cases hk; exact absurd rfl (Ne.symm HN7_9.out))))
        have hs11_2t := there_blk hs11_2t (hJ.block _ (there_lt hs11_2t (by omega)) (fun k hk => by rcases k with _ | _ | _ | _ | k <;> first | (cases hk; done) | (cases hk; exact absurd rfl (Ne.symm HN8_9.out))))
        have hs11_3t := there_blk hs11_3t (hJ.block _ (there_lt hs11_3t (by omega)) (fun k hk => by rcases k with _ | _ | _ | _ | k <;> first | (cases hk; done) | (cases hk; exact absurd rfl HN9_10.out)))
        have htk' := there_blk htk' (hJ.block _ (there_lt htk' (by omega)) (fun k hk => by rcases k with _ | _ | _ | _ | k <;> first | (cases hk; done) | (cases hk; exact absurd rfl (Ne.symm HD9_wheapsize.out))))
        have ht14 := there_blk ht14 (hJ.block _ (there_lt ht14 (by omega)) (fun k hk => by rcases k with _ | _ | _ | _ | k <;> first | (cases hk; done) | (cases hk; exact absurd rfl HD14_q9.out)))
        have ht15 := there_blk ht15 (hJ.block _ (there_lt ht15 (by omega)) (fun k hk => by rcases k with _ | _ | _ | _ | k <;> first | (cases hk; done) | (cases hk; exact absurd rfl HD15_q9.out)))
        have ht16 := there_blk ht16 (hJ.block _ (there_lt ht16 (by omega)) (fun k hk => by rcases k with _ | _ | _ | _ | k <;> first | (cases hk; done) | (cases hk; exact absurd rfl HD16_q9.out)))
        have ht17 := there_blk ht17 (hJ.block _ (there_lt ht17 (by omega)) (fun k hk => by rcases k with _ | _ | _ | _ | k <;> first | (cases hk; done) | (cases hk; exact absurd rfl HD17_q9.out)))
        have ht18 := there_blk ht18 (hJ.block _ (there_lt ht18 (by omega)) (fun k hk => by rcases k with _ | _ | _ | _ | k <;> first | (cases hk; done) | (cases hk; exact absurd rfl HD18_q9.out)))
        have ht19 := there_blk ht19 (hJ.block _ (there_lt ht19 (by omega)) (fun k hk => by rcases k with _ | _ | _ | _ | k <;> first | (cases hk; done) | (cases hk; exact absurd rfl HD19_q9.out)))
        have ht20 := there_blk ht20 (hJ.block _ (there_lt ht20 (by omega)) (fun k hk => by rcases k with _ | _ | _ | _ | k <;> first | (cases hk; done) | (cases hk; exact absurd rfl HD20_q9.out)))
        have ht21 := there_blk ht21 (hJ.block _ (there_lt ht21 (by omega)) (fun k hk => by rcases k with _ | _ | _ | _ | k <;> first | (cases hk; done) | (cases hk; exact absurd rfl HD21_q9.out)))
        have ht22 := there_blk ht22 (hJ.block _ (there_lt ht22 (by omega)) (fun k hk => by rcases k with _ | _ | _ | _ | k <;> first | (cases hk; done) | (cases hk; exact absurd rfl HD22_q9.out)))
        have hK' := Lib.hid (blk_keep hK'.out (hJ.block _ (hK'.out.lt) (fun k hk => by rcases k with _ | _ | _ | _ | k <;> first | (cases hk; done) | (cases hk; exact absurd rfl (Ne.symm HD9_wheapsize.out)))))
        obtain ⟨_, hs22_3t, hs22_3⟩ := (show _ ∧ W22s.there q9 0 16 ∧ HasFs rR W22s q9 0 [((A.x - A.z) * (B.x + B.z)) + ((A.x + A.z) * (B.x - B.z))] from hG 3 (by simp))
        have hbel0 := hbel
        clear hJ hG hall hb
        go_upto_region 23 with fail
        refine wp_region_turn (fun u => (.slice a n cap :: .slice b m cap' :: undef :: undef :: .slice none 0 0 :: .slice (some ⟨w.heap.size, 0, none⟩) 32 32 :: u2 2 :: u3 4 :: u3 5 :: u3 6 :: u3 7 :: u12s 1 :: .int .i64 (i : Int) :: .int .i64 (b2i bt) :: u13s 3 :: u14s 3 :: u15s 3 :: u16s 3 :: u17s 3 :: u18s 3 :: u19s 3 :: u20s 3 :: u21s 3 :: .slice a n cap :: .slice (some ⟨w.heap.size, 0, none⟩) 32 32 :: u2 0 :: u2 1 :: u3 0 :: u3 1 :: u3 2 :: u3 3 :: .int .i64 (i : Int) :: .bool true :: u33 :: u34 :: .slice (some ⟨w.heap.size, 0, none⟩) 32 32 :: .int .i64 (i : Int) :: .int .i64 (↑i / 8) :: .pointer (some ⟨w.heap.size, i / 8, none⟩) :: .int .u8 (c.toNat : Int) :: .int .i64 (i : Int) :: .int .i64 (↑i % 8) :: .int .u8 (↑c.toNat / 2 ^ (i % 8)) :: .int .u8 (b2i bt) :: .int .i64 (b2i bt) :: .int .i64 (b2i was) :: .int .i64 (b2i bt) :: .bool true :: u10s 0 :: u10s 1 :: u11s 0 :: u11s 1 :: u12s 0 :: u13s 0 :: u13s 1 :: u13s 2 :: u14s 0 :: u14s 1 :: u14s 2 :: u15s 0 :: u15s 1 :: u15s 2 :: u16s 0 :: u16s 1 :: u16s 2 :: u17s 0 :: u17s 1 :: u17s 2 :: u18s 0 :: u18s 1 :: u18s 2 :: u19s 0 :: u19s 1 :: u19s 2 :: u20s 0 :: u20s 1 :: u20s 2 :: u21s 0 :: u21s 1 :: u21s 2 :: u22s 0 :: u22s 1 :: u22s 2 :: u 0 :: u 1 :: u 2 :: u86 :: u87 :: u88 :: u89 :: u90 :: u91 :: u92 :: u93 :: u94 :: u95 :: u96 :: u97 :: u98 :: u99 :: u100 :: u101 :: u102 :: u103 :: undef :: undef :: undef :: undef :: undef :: undef :: undef :: undef :: undef :: []).toArray) (Holds [.val rR [((A.x - A.z) * (B.x + B.z)) + ((A.x + A.z) * (B.x - B.z))], .val rR [((A.x - A.z) * (B.x + B.z)) + ((A.x + A.z) * (B.x - B.z))], .val rR [(((A.x - A.z) * (B.x + B.z)) + ((A.x + A.z) * (B.x - B.z))) * (((A.x - A.z) * (B.x + B.z)) + ((A.x + A.z) * (B.x - B.z)))], .sto q9 rR [(((A.x - A.z) * (B.x + B.z)) + ((A.x + A.z) * (B.x - B.z))) * (((A.x - A.z) * (B.x + B.z)) + ((A.x + A.z) * (B.x - B.z)))]] W22s) (Keep [.val rR [((A.x - A.z) * (B.x + B.z)) + ((A.x + A.z) * (B.x - B.z))], .val rR [((A.x - A.z) * (B.x + B.z)) + ((A.x + A.z) * (B.x - B.z))], .val rR [(((A.x - A.z) * (B.x + B.z)) + ((A.x + A.z) * (B.x - B.z))) * (((A.x - A.z) * (B.x + B.z)) + ((A.x + A.z) * (B.x - B.z)))], .sto q9 rR [(((A.x - A.z) * (B.x + B.z)) + ((A.x + A.z) * (B.x - B.z))) * (((A.x - A.z) * (B.x + B.z)) + ((A.x + A.z) * (B.x - B.z)))]] W22s) (fun k => ([u83, u84, u85, undef] : List Value).getD k undef) ?_ (by rfl) Keep.start (holds_soft (by kernel_rfl)) ?_ ?_
        · intro u i v h
          rcases i with _ | _ | _ | _ | i
          all_goals first | (simp [Act.put, putV]; done) | (exfalso; simp at h; omega)
        · intro hs
          refine ⟨?_, ?_, ?_, ?_, trivial⟩
          · exact step_load q9 0 hs (wants_none rfl) rfl rfl tyFe (fun _ => E9.out) hs22_3.lt hs22_3 (fun k g hk => by rcases k with _ | _ | _ | _ | k <;> first | (cases hk; done) | (cases hk; exact .inl (by kernel_rfl)))
          · exact step_load q9 0 hs (wants_none rfl) rfl rfl tyFe (fun _ => E9.out) hs22_3.lt hs22_3 (fun k g hk => by rcases k with _ | _ | _ | _ | k <;> first | (cases hk; done) | (cases hk; exact .inl (by kernel_rfl)))
          · refine step_call hs (wants_none rfl) rfl fun L u W hJ hG hL hdep K hK => ?_
            have a0 := (show IsFs rR (u 0) [((A.x - A.z) * (B.x + B.z)) + ((A.x + A.z) * (B.x - B.z))] from hG 0 (hdep 0 (by kernel_rfl)))
            have a1 := (show IsFs rR (u 1) [((A.x - A.z) * (B.x + B.z)) + ((A.x + A.z) * (B.x - B.z))] from hG 1 (hdep 1 (by kernel_rfl)))
            go_simp
            go_at_call 33
            (with_reducible refine (kMul a0 a1 _).mono ?_); rintro e w1 ⟨r, rfl, hr, hb⟩
            have hk := hK.out _ _ hr hb
            exact hk
          · refine step_storeO q9 16 hs (wants_none rfl) rfl rfl (by kernel_rfl) (fun k hk => ?_) (fun _ => E9.out) (there_lt hs22_3t (by omega)) hs22_3t (gives_op 2 rfl (by kernel_rfl) (fun _ => rfl)) tyFe rfl
            rcases k with _ | _ | _ | _ | k
            all_goals first | (exact absurd rfl hk) | (intro e; cases e; done)
        intro L23 u23s W23s hall hJ hG
        have hb : Below w.heap.size W22s W23s := hJ.below (by have := hbel.size; omega) (fun k b hf => by rcases k with _ | _ | _ | _ | k <;> first | (cases hf; done) | (cases hf; omega))
        have hbel := hbel.trans hb
        have hm6' := hm6'.blk (hJ.block _ (hm6'.lt) (fun k hk => by rcases k with _ | _ | _ | _ | k <;> first | (cases hk; done) | (cases hk; exact absurd rfl (Ne.symm HD9_q6.out))))
        have hs10_2 := hs10_2.blk (hJ.block _ (hs10_2.lt) (fun k hk => by rcases k with _ | _ | _ | _ | k <;> first | (cases hk; done) | (cases hk; exact absurd rfl (Ne.symm HN7_9.out))))
        have hs11_2 := hs11_2.blk (hJ.block _ (hs11_2.lt) (fun k hk => by rcases k with _ | _ | _ | _ | k <;> first | (cases hk; done) | (cases hk; exact absurd rfl (Ne.symm HN8_9.out))))
        have hs11_3 := hs11_3.blk (hJ.block _ (hs11_3.lt) (fun k hk => by rcases k with _ | _ | _ | _ | k <;> first | (cases hk; done) | (cases hk; exact absurd rfl HN9_10.out)))
        have hm14 := hm14.blk (hJ.block _ (hm14.lt) (fun k hk => by rcases k with _ | _ | _ | _ | k <;> first | (cases hk; done) | (cases hk; exact absurd rfl HD14_q9.out)))
        have hm15 := hm15.blk (hJ.block _ (hm15.lt) (fun k hk => by rcases k with _ | _ | _ | _ | k <;> first | (cases hk; done) | (cases hk; exact absurd rfl HD15_q9.out)))
        have hm16 := hm16.blk (hJ.block _ (hm16.lt) (fun k hk => by rcases k with _ | _ | _ | _ | k <;> first | (cases hk; done) | (cases hk; exact absurd rfl HD16_q9.out)))
        have hm17 := hm17.blk (hJ.block _ (hm17.lt) (fun k hk => by rcases k with _ | _ | _ | _ | k <;> first | (cases hk; done) | (cases hk; exact absurd rfl HD17_q9.out)))
        have hm18 := hm18.blk (hJ.block _ (hm18.lt) (fun k hk => by rcases k with _ | _ | _ | _ | k <;> first | (cases hk; done) | (cases hk; exact absurd rfl HD18_q9.out)))
        have hm19 := hm19.blk (hJ.block _ (hm19.lt) (fun k hk => by rcases k with _ | _ | _ | _ | k <;> first | (cases hk; done) | (cases hk; exact absurd rfl HD19_q9.out)))
        have hm20 := hm20.blk (hJ.block _ (hm20.lt) (fun k hk => by rcases k with _ | _ | _ | _ | k <;> first | (cases hk; done) | (cases hk; exact absurd rfl HD20_q9.out)))
        have hm21 := hm21.blk (hJ.block _ (hm21.lt) (fun k hk => by rcases k with _ | _ | _ | _ | k <;> first | (cases hk; done) | (cases hk; exact absurd rfl HD21_q9.out)))
        have hm22 := hm22.blk (hJ.block _ (hm22.lt) (fun k hk => by rcases k with _ | _ | _ | _ | k <;> first | (cases hk; done) | (cases hk; exact absurd rfl HD22_q9.out)))
        have ht6' := there_blk ht6' (hJ.block _ (there_lt ht6' (by omega)) (fun k hk => by rcases k with _ | _ | _ | _ | k <;> first | (cases hk; done) | (cases hk; exact absurd rfl (Ne.symm HD9_q6.out))))
        have hs10_2t := there_blk hs10_2t (hJ.block _ (there_lt hs10_2t (by omega)) (fun k hk => by rcases k with _ | _ | _ | _ | k <;> first | (cases hk; done) | (cases hk; exact absurd rfl (Ne.symm HN7_9.out))))
        have hs11_2t := there_blk hs11_2t (hJ.block _ (there_lt hs11_2t (by omega)) (fun k hk => by rcases k with _ | _ | _ | _ | k <;> first | (cases hk; done) | (cases hk; exact absurd rfl (Ne.symm HN8_9.out))))
        have hs11_3t := there_blk hs11_3t (hJ.block _ (there_lt hs11_3t (by omega)) (fun k hk => by rcases k with _ | _ | _ | _ | k <;> first | (cases hk; done) | (cases hk; exact absurd rfl HN9_10.out)))
        have htk' := there_blk htk' (hJ.block _ (there_lt htk' (by omega)) (fun k hk => by rcases k with _ | _ | _ | _ | k <;> first | (cases hk; done) | (cases hk; exact absurd rfl (Ne.symm HD9_wheapsize.out))))
        have ht14 := there_blk ht14 (hJ.block _ (there_lt ht14 (by omega)) (fun k hk => by rcases k with _ | _ | _ | _ | k <;> first | (cases hk; done) | (cases hk; exact absurd rfl HD14_q9.out)))
        have ht15 := there_blk ht15 (hJ.block _ (there_lt ht15 (by omega)) (fun k hk => by rcases k with _ | _ | _ | _ | k <;> first | (cases hk; done) | (cases hk; exact absurd rfl HD15_q9.out)))
        have ht16 := there_blk ht16 (hJ.block _ (there_lt ht16 (by omega)) (fun k hk => by rcases k with _ | _ | _ | _ | k <;> first | (cases hk; done) | (cases hk; exact absurd rfl HD16_q9.out)))
        have ht17 := there_blk ht17 (hJ.block _ (there_lt ht17 (by omega)) (fun k hk => by rcases k with _ | _ | _ | _ | k <;> first | (cases hk; done) | (cases hk; exact absurd rfl HD17_q9.out)))
        have ht18 := there_blk ht18 (hJ.block _ (there_lt ht18 (by omega)) (fun k hk => by rcases k with _ | _ | _ | _ | k <;> first | (cases hk; done) | (cases hk; exact absurd rfl HD18_q9.out)))
        have ht19 := there_blk ht19 (hJ.block _ (there_lt ht19 (by omega)) (fun k hk => by rcases k with _ | _ | _ | _ | k <;> first | (cases hk; done) | (cases hk; exact absurd rfl HD19_q9.out)))
        have ht20 := there_blk ht20 (hJ.block _ (there_lt ht20 (by omega)) (fun k hk => by rcases k with _ | _ | _ | _ | k <;> first | (cases hk; done) | (cases hk; exact absurd rfl HD20_q9.out)))
        have ht21 := there_blk ht21 (hJ.block _ (there_lt ht21 (by omega)) (fun k hk => by rcases k with _ | _ | _ | _ | k <;> first | (cases hk; done) | (cases hk; exact absurd rfl HD21_q9.out)))
        have ht22 := there_blk ht22 (hJ.block _ (there_lt ht22 (by omega)) (fun k hk => by rcases k with _ | _ | _ | _ | k <;> first | (cases hk; done) | (cases hk; exact absurd rfl HD22_q9.out)))
        have hK' := Lib.hid (blk_keep hK'.out (hJ.block _ (hK'.out.lt) (fun k hk => by rcases k with _ | _ | _ | _ | k <;> first | (cases hk; done) | (cases hk; exact absurd rfl (Ne.symm HD9_wheapsize.out)))))
        obtain ⟨_, hs23_3t, hs23_3⟩ := (show _ ∧ W23s.there q9 0 16 ∧ HasFs rR W23s q9 0 [(((A.x - A.z) * (B.x + B.z)) + ((A.x + A.z) * (B.x - B.z))) * (((A.x - A.z) * (B.x + B.z)) + ((A.x + A.z) * (B.x - B.z)))] from hG 3 (by simp))
        have hbel0 := hbel
        clear hJ hG hall hb
        go_upto_region 24 with fail
        refine wp_region_turn (fun u => (.slice a n cap :: .slice b m cap' :: undef :: undef :: .slice none 0 0 :: .slice (some ⟨w.heap.size, 0, none⟩) 32 32 :: u2 2 :: u3 4 :: u3 5 :: u3 6 :: u3 7 :: u12s 1 :: .int .i64 (i : Int) :: .int .i64 (b2i bt) :: u13s 3 :: u14s 3 :: u15s 3 :: u16s 3 :: u17s 3 :: u18s 3 :: u19s 3 :: u20s 3 :: u21s 3 :: .slice a n cap :: .slice (some ⟨w.heap.size, 0, none⟩) 32 32 :: u2 0 :: u2 1 :: u3 0 :: u3 1 :: u3 2 :: u3 3 :: .int .i64 (i : Int) :: .bool true :: u33 :: u34 :: .slice (some ⟨w.heap.size, 0, none⟩) 32 32 :: .int .i64 (i : Int) :: .int .i64 (↑i / 8) :: .pointer (some ⟨w.heap.size, i / 8, none⟩) :: .int .u8 (c.toNat : Int) :: .int .i64 (i : Int) :: .int .i64 (↑i % 8) :: .int .u8 (↑c.toNat / 2 ^ (i % 8)) :: .int .u8 (b2i bt) :: .int .i64 (b2i bt) :: .int .i64 (b2i was) :: .int .i64 (b2i bt) :: .bool true :: u10s 0 :: u10s 1 :: u11s 0 :: u11s 1 :: u12s 0 :: u13s 0 :: u13s 1 :: u13s 2 :: u14s 0 :: u14s 1 :: u14s 2 :: u15s 0 :: u15s 1 :: u15s 2 :: u16s 0 :: u16s 1 :: u16s 2 :: u17s 0 :: u17s 1 :: u17s 2 :: u18s 0 :: u18s 1 :: u18s 2 :: u19s 0 :: u19s 1 :: u19s 2 :: u20s 0 :: u20s 1 :: u20s 2 :: u21s 0 :: u21s 1 :: u21s 2 :: u22s 0 :: u22s 1 :: u22s 2 :: u23s 0 :: u23s 1 :: u23s 2 :: u 0 :: u 1 :: u 2 :: u89 :: u90 :: u91 :: u92 :: u93 :: u94 :: u95 :: u96 :: u97 :: u98 :: u99 :: u100 :: u101 :: u102 :: u103 :: undef :: undef :: undef :: undef :: undef :: undef :: undef :: undef :: undef :: []).toArray) (Holds [.val rR [(A.x - A.z) * (B.x + B.z)], .val rR [(A.x + A.z) * (B.x - B.z)], .val rR [((A.x - A.z) * (B.x + B.z)) - ((A.x + A.z) * (B.x - B.z))], .sto q10 rR [((A.x - A.z) * (B.x + B.z)) - ((A.x + A.z) * (B.x - B.z))]] W23s) (Keep [.val rR [(A.x - A.z) * (B.x + B.z)], .val rR [(A.x + A.z) * (B.x - B.z)], .val rR [((A.x - A.z) * (B.x + B.z)) - ((A.x + A.z) * (B.x - B.z))], .sto q10 rR [((A.x - A.z) * (B.x + B.z)) - ((A.x + A.z) * (B.x - B.z))]] W23s) (fun k => ([u86, u87, u88, undef] : List Value).getD k undef) ?_ (by rfl) Keep.start (holds_soft (by kernel_rfl)) ?_ ?_
        · intro u i v h
          rcases i with _ | _ | _ | _ | i
          all_goals first | (simp [Act.put, putV]; done) | (exfalso; simp at h; omega)
        · intro hs
          refine ⟨?_, ?_, ?_, ?_, trivial⟩
          · exact step_load q21 0 hs (wants_none rfl) rfl rfl tyFe (fun _ => E21.out) hm21.lt hm21 (fun k g hk => by rcases k with _ | _ | _ | _ | k <;> first | (cases hk; done) | (cases hk; exact .inr HD21_q10.out))
          · exact step_load q22 0 hs (wants_none rfl) rfl rfl tyFe (fun _ => E22.out) hm22.lt hm22 (fun k g hk => by rcases k with _ | _ | _ | _ | k <;> first | (cases hk; done) | (cases hk; exact .inr HD22_q10.out))
          · refine step_call hs (wants_none rfl) rfl fun L u W hJ hG hL hdep K hK => ?_
            have a0 := (show IsFs rR (u 0) [(A.x - A.z) * (B.x + B.z)] from hG 0 (hdep 0 (by kernel_rfl)))
            have a1 := (show IsFs rR (u 1) [(A.x + A.z) * (B.x - B.z)] from hG 1 (hdep 1 (by kernel_rfl)))
            go_simp
            go_at_call 34
            (with_reducible refine (kSub a0 a1 _).mono ?_); rintro e w1 ⟨r, rfl, hr, hb⟩
            have hk := hK.out _ _ hr hb
            exact hk
          · refine step_storeO q10 16 hs (wants_none rfl) rfl rfl (by kernel_rfl) (fun k hk => ?_) (fun _ => E10.out) (there_lt hs11_3t (by omega)) hs11_3t (gives_op 2 rfl (by kernel_rfl) (fun _ => rfl)) tyFe rfl
            rcases k with _ | _ | _ | _ | k
            all_goals first | (exact absurd rfl hk) | (intro e; cases e; done)
        intro L24 u24s W24s hall hJ hG
        have hb : Below w.heap.size W23s W24s := hJ.below (by have := hbel.size; omega) (fun k b hf => by rcases k with _ | _ | _ | _ | k <;> first | (cases hf; done) | (cases hf; omega))
        have hbel := hbel.trans hb
        have hm6' := hm6'.blk (hJ.block _ (hm6'.lt) (fun k hk => by rcases k with _ | _ | _ | _ | k <;> first | (cases hk; done) | (cases hk; exact absurd rfl (Ne.symm HD10_q6.out))))
        have hs10_2 := hs10_2.blk (hJ.block _ (hs10_2.lt) (fun k hk => by rcases k with _ | _ | _ | _ | k <;> first | (cases hk; done) | (cases hk; exact absurd rfl (Ne.symm HN7_10.out))))
        have hs11_2 := hs11_2.blk (hJ.block _ (hs11_2.lt) (fun k hk => by rcases k with _ | _ | _ | _ | k <;> first | (cases hk; done) | (cases hk; exact absurd rfl (Ne.symm HN8_10.out))))
        have hs23_3 := hs23_3.blk (hJ.block _ (hs23_3.lt) (fun k hk => by rcases k with _ | _ | _ | _ | k <;> first | (cases hk; done) | (cases hk; exact absurd rfl (Ne.symm HN9_10.out))))
        have hm14 := hm14.blk (hJ.block _ (hm14.lt) (fun k hk => by rcases k with _ | _ | _ | _ | k <;> first | (cases hk; done) | (cases hk; exact absurd rfl HD14_q10.out)))
        have hm15 := hm15.blk (hJ.block _ (hm15.lt) (fun k hk => by rcases k with _ | _ | _ | _ | k <;> first | (cases hk; done) | (cases hk; exact absurd rfl HD15_q10.out)))
        have hm16 := hm16.blk (hJ.block _ (hm16.lt) (fun k hk => by rcases k with _ | _ | _ | _ | k <;> first | (cases hk; done) | (cases hk; exact absurd rfl HD16_q10.out)))
        have hm17 := hm17.blk (hJ.block _ (hm17.lt) (fun k hk => by rcases k with _ | _ | _ | _ | k <;> first | (cases hk; done) | (cases hk; exact absurd rfl HD17_q10.out)))
        have hm18 := hm18.blk (hJ.block _ (hm18.lt) (fun k hk => by rcases k with _ | _ | _ | _ | k <;> first | (cases hk; done) | (cases hk; exact absurd rfl HD18_q10.out)))
        have hm19 := hm19.blk (hJ.block _ (hm19.lt) (fun k hk => by rcases k with _ | _ | _ | _ | k <;> first | (cases hk; done) | (cases hk; exact absurd rfl HD19_q10.out)))
        have hm20 := hm20.blk (hJ.block _ (hm20.lt) (fun k hk => by rcases k with _ | _ | _ | _ | k <;> first | (cases hk; done) | (cases hk; exact absurd rfl HD20_q10.out)))
        have hm21 := hm21.blk (hJ.block _ (hm21.lt) (fun k hk => by rcases k with _ | _ | _ | _ | k <;> first | (cases hk; done) | (cases hk; exact absurd rfl HD21_q10.out)))
        have hm22 := hm22.blk (hJ.block _ (hm22.lt) (fun k hk => by rcases k with _ | _ | _ | _ | k <;> first | (cases hk; done) | (cases hk; exact absurd rfl HD22_q10.out)))
        have ht6' := there_blk ht6' (hJ.block _ (there_lt ht6' (by omega)) (fun k hk => by rcases k with _ | _ | _ | _ | k <;> first | (cases hk; done) | (cases hk; exact absurd rfl (Ne.symm HD10_q6.out))))
        have hs10_2t := there_blk hs10_2t (hJ.block _ (there_lt hs10_2t (by omega)) (fun k hk => by rcases k with _ | _ | _ | _ | k <;> first | (cases hk; done) | (cases hk; exact absurd rfl (Ne.symm HN7_10.out))))
        have hs11_2t := there_blk hs11_2t (hJ.block _ (there_lt hs11_2t (by omega)) (fun k hk => by rcases k with _ | _ | _ | _ | k <;> first | (cases hk; done) | (cases hk; exact absurd rfl (Ne.symm HN8_10.out))))
        have hs23_3t := there_blk hs23_3t (hJ.block _ (there_lt hs23_3t (by omega)) (fun k hk => by rcases k with _ | _ | _ | _ | k <;> first | (cases hk; done) | (cases hk; exact absurd rfl (Ne.symm HN9_10.out))))
        have htk' := there_blk htk' (hJ.block _ (there_lt htk' (by omega)) (fun k hk => by rcases k with _ | _ | _ | _ | k <;> first | (cases hk; done) | (cases hk; exact absurd rfl (Ne.symm HD10_wheapsize.out))))
        have ht14 := there_blk ht14 (hJ.block _ (there_lt ht14 (by omega)) (fun k hk => by rcases k with _ | _ | _ | _ | k <;> first | (cases hk; done) | (cases hk; exact absurd rfl HD14_q10.out)))
        have ht15 := there_blk ht15 (hJ.block _ (there_lt ht15 (by omega)) (fun k hk => by rcases k with _ | _ | _ | _ | k <;> first | (cases hk; done) | (cases hk; exact absurd rfl HD15_q10.out)))
        have ht16 := there_blk ht16 (hJ.block _ (there_lt ht16 (by omega)) (fun k hk => by rcases k with _ | _ | _ | _ | k <;> first | (cases hk; done) | (cases hk; exact absurd rfl HD16_q10.out)))
        have ht17 := there_blk ht17 (hJ.block _ (there_lt ht17 (by omega)) (fun k hk => by rcases k with _ | _ | _ | _ | k <;> first | (cases hk; done) | (cases hk; exact absurd rfl HD17_q10.out)))
        have ht18 := there_blk ht18 (hJ.block _ (there_lt ht18 (by omega)) (fun k hk => by rcases k with _ | _ | _ | _ | k <;> first | (cases hk; done) | (cases hk; exact absurd rfl HD18_q10.out)))
        have ht19 := there_blk ht19 (hJ.block _ (there_lt ht19 (by omega)) (fun k hk => by rcases k with _ | _ | _ | _ | k <;> first | (cases hk; done) | (cases hk; exact absurd rfl HD19_q10.out)))
        have ht20 := there_blk ht20 (hJ.block _ (there_lt ht20 (by omega)) (fun k hk => by rcases k with _ | _ | _ | _ | k <;> first | (cases hk; done) | (cases hk; exact absurd rfl HD20_q10.out)))
        have ht21 := there_blk ht21 (hJ.block _ (there_lt ht21 (by omega)) (fun k hk => by rcases k with _ | _ | _ | _ | k <;> first | (cases hk; done) | (cases hk; exact absurd rfl HD21_q10.out)))
        have ht22 := there_blk ht22 (hJ.block _ (there_lt ht22 (by omega)) (fun k hk => by rcases k with _ | _ | _ | _ | k <;> first | (cases hk; done) | (cases hk; exact absurd rfl HD22_q10.out)))
        have hK' := Lib.hid (blk_keep hK'.out (hJ.block _ (hK'.out.lt) (fun k hk => by rcases k with _ | _ | _ | _ | k <;> first | (cases hk; done) | (cases hk; exact absurd rfl (Ne.symm HD10_wheapsize.out)))))
        obtain ⟨_, hs24_3t, hs24_3⟩ := (show _ ∧ W24s.there q10 0 16 ∧ HasFs rR W24s q10 0 [((A.x - A.z) * (B.x + B.z)) - ((A.x + A.z) * (B.x - B.z))] from hG 3 (by simp))
        have hbel0 := hbel
        clear hJ hG hall hb
        go_upto_region 25 with fail
        refine wp_region_mid (fun u => (.slice a n cap :: .slice b m cap' :: undef :: undef :: .slice none 0 0 :: .slice (some ⟨w.heap.size, 0, none⟩) 32 32 :: u2 2 :: u3 4 :: u3 5 :: u3 6 :: u3 7 :: u12s 1 :: .int .i64 (i : Int) :: .int .i64 (b2i bt) :: u13s 3 :: u14s 3 :: u15s 3 :: u16s 3 :: u17s 3 :: u18s 3 :: u19s 3 :: u20s 3 :: u21s 3 :: .slice a n cap :: .slice (some ⟨w.heap.size, 0, none⟩) 32 32 :: u2 0 :: u2 1 :: u3 0 :: u3 1 :: u3 2 :: u3 3 :: .int .i64 (i : Int) :: .bool true :: u33 :: u34 :: .slice (some ⟨w.heap.size, 0, none⟩) 32 32 :: .int .i64 (i : Int) :: .int .i64 (↑i / 8) :: .pointer (some ⟨w.heap.size, i / 8, none⟩) :: .int .u8 (c.toNat : Int) :: .int .i64 (i : Int) :: .int .i64 (↑i % 8) :: .int .u8 (↑c.toNat / 2 ^ (i % 8)) :: .int .u8 (b2i bt) :: .int .i64 (b2i bt) :: .int .i64 (b2i was) :: .int .i64 (b2i bt) :: .bool true :: u10s 0 :: u10s 1 :: u11s 0 :: u11s 1 :: u12s 0 :: u13s 0 :: u13s 1 :: u13s 2 :: u14s 0 :: u14s 1 :: u14s 2 :: u15s 0 :: u15s 1 :: u15s 2 :: u16s 0 :: u16s 1 :: u16s 2 :: u17s 0 :: u17s 1 :: u17s 2 :: u18s 0 :: u18s 1 :: u18s 2 :: u19s 0 :: u19s 1 :: u19s 2 :: u20s 0 :: u20s 1 :: u20s 2 :: u21s 0 :: u21s 1 :: u21s 2 :: u22s 0 :: u22s 1 :: u22s 2 :: u23s 0 :: u23s 1 :: u23s 2 :: u24s 0 :: u24s 1 :: u24s 2 :: u 0 :: u 1 :: u 2 :: u 3 :: u 4 :: u94 :: u95 :: u96 :: u97 :: u98 :: u99 :: u100 :: u101 :: u102 :: u103 :: undef :: undef :: undef :: undef :: undef :: undef :: undef :: undef :: undef :: []).toArray) (Holds [.val rR [U], .val rR [((A.x - A.z) * (B.x + B.z)) - ((A.x + A.z) * (B.x - B.z))], .val rR [((A.x - A.z) * (B.x + B.z)) - ((A.x + A.z) * (B.x - B.z))], .val rR [(((A.x - A.z) * (B.x + B.z)) - ((A.x + A.z) * (B.x - B.z))) * (((A.x - A.z) * (B.x + B.z)) - ((A.x + A.z) * (B.x - B.z)))], .val rR [U * ((((A.x - A.z) * (B.x + B.z)) - ((A.x + A.z) * (B.x - B.z))) * (((A.x - A.z) * (B.x + B.z)) - ((A.x + A.z) * (B.x - B.z))))], .sto q10 rR [U * ((((A.x - A.z) * (B.x + B.z)) - ((A.x + A.z) * (B.x - B.z))) * (((A.x - A.z) * (B.x + B.z)) - ((A.x + A.z) * (B.x - B.z))))]] W24s) (Keep [.val rR [U], .val rR [((A.x - A.z) * (B.x + B.z)) - ((A.x + A.z) * (B.x - B.z))], .val rR [((A.x - A.z) * (B.x + B.z)) - ((A.x + A.z) * (B.x - B.z))], .val rR [(((A.x - A.z) * (B.x + B.z)) - ((A.x + A.z) * (B.x - B.z))) * (((A.x - A.z) * (B.x + B.z)) - ((A.x + A.z) * (B.x - B.z)))], .val rR [U * ((((A.x - A.z) * (B.x + B.z)) - ((A.x + A.z) * (B.x - B.z))) * (((A.x - A.z) * (B.x + B.z)) - ((A.x + A.z) * (B.x - B.z))))], .sto q10 rR [U * ((((A.x - A.z) * (B.x + B.z)) - ((A.x + A.z) * (B.x - B.z))) * (((A.x - A.z) * (B.x + B.z)) - ((A.x + A.z) * (B.x - B.z))))]] W24s) (fun k => ([u89, u90, u91, u92, u93, undef] : List Value).getD k undef) (by kernel_rfl) (by kernel_rfl) ?_ (by rfl) Keep.drew (holds_soft (by kernel_rfl)) ?_ ?_
        · intro u i v h
          rcases i with _ | _ | _ | _ | _ | _ | i
          all_goals first | (simp [Act.put, putV]; done) | (exfalso; simp at h; omega)
        · intro hs
          refine ⟨?_, ?_, ?_, ?_, ?_, ?_, trivial⟩
          · exact step_load q6 0 hs (wants_none rfl) rfl rfl tyFe (fun _ => E6.out) hm6'.lt hm6' (fun k g hk => by rcases k with _ | _ | _ | _ | _ | _ | k <;> first | (cases hk; done) | (cases hk; exact .inr (Ne.symm HD10_q6.out)))
          · exact step_load q10 0 hs (wants_none rfl) rfl rfl tyFe (fun _ => E10.out) hs24_3.lt hs24_3 (fun k g hk => by rcases k with _ | _ | _ | _ | _ | _ | k <;> first | (cases hk; done) | (cases hk; exact .inl (by kernel_rfl)))
          · exact step_load q10 0 hs (wants_none rfl) rfl rfl tyFe (fun _ => E10.out) hs24_3.lt hs24_3 (fun k g hk => by rcases k with _ | _ | _ | _ | _ | _ | k <;> first | (cases hk; done) | (cases hk; exact .inl (by kernel_rfl)))
          · refine step_call hs (wants_none rfl) rfl fun L u W hJ hG hL hdep K hK => ?_
            have a0 := (show IsFs rR (u 1) [((A.x - A.z) * (B.x + B.z)) - ((A.x + A.z) * (B.x - B.z))] from hG 1 (hdep 1 (by kernel_rfl)))
            have a1 := (show IsFs rR (u 2) [((A.x - A.z) * (B.x + B.z)) - ((A.x + A.z) * (B.x - B.z))] from hG 2 (hdep 2 (by kernel_rfl)))
            go_simp
            go_at_call 33
            (with_reducible refine (kMul a0 a1 _).mono ?_); rintro e w1 ⟨r, rfl, hr, hb⟩
            have hk := hK.out _ _ hr hb
            exact hk
          · refine step_call hs (wants_none rfl) rfl fun L u W hJ hG hL hdep K hK => ?_
            have a0 := (show IsFs rR (u 0) [U] from hG 0 (hdep 0 (by kernel_rfl)))
            have a1 := (show IsFs rR (u 3) [(((A.x - A.z) * (B.x + B.z)) - ((A.x + A.z) * (B.x - B.z))) * (((A.x - A.z) * (B.x + B.z)) - ((A.x + A.z) * (B.x - B.z)))] from hG 3 (hdep 3 (by kernel_rfl)))
            go_simp
            go_at_call 33
            (with_reducible refine (kMul a0 a1 _).mono ?_); rintro e w1 ⟨r, rfl, hr, hb⟩
            have hk := hK.out _ _ hr hb
            exact hk
          · refine step_storeO q10 16 hs (wants_none rfl) rfl rfl (by kernel_rfl) (fun k hk => ?_) (fun _ => E10.out) (there_lt hs24_3t (by omega)) hs24_3t (gives_op 4 rfl (by kernel_rfl) (fun _ => rfl)) tyFe rfl
            rcases k with _ | _ | _ | _ | _ | _ | k
            all_goals first | (exact absurd rfl hk) | (intro e; cases e; done)
        intro L25 u25s W25s hall hJ hG
        have hb : Below w.heap.size W24s W25s := hJ.below (by have := hbel.size; omega) (fun k b hf => by rcases k with _ | _ | _ | _ | _ | _ | k <;> first | (cases hf; done) | (cases hf; omega))
        have hbel := hbel.trans hb
        have hm6' := hm6'.blk (hJ.block _ (hm6'.lt) (fun k hk => by rcases k with _ | _ | _ | _ | _ | _ | k <;> first | (cases hk; done) | (cases hk; exact absurd rfl (Ne.symm HD10_q6.out))))
        have hs10_2 := hs10_2.blk (hJ.block _ (hs10_2.lt) (fun k hk => by rcases k with _ | _ | _ | _ | _ | _ | k <;> first | (cases hk; done) | (cases hk; exact absurd rfl (Ne.symm HN7_10.out))))
        have hs11_2 := hs11_2.blk (hJ.block _ (hs11_2.lt) (fun k hk => by rcases k with _ | _ | _ | _ | _ | _ | k <;> first | (cases hk; done) | (cases hk; exact absurd rfl (Ne.symm HN8_10.out))))
        have hs23_3 := hs23_3.blk (hJ.block _ (hs23_3.lt) (fun k hk => by rcases k with _ | _ | _ | _ | _ | _ | k <;> first | (cases hk; done) | (cases hk; exact absurd rfl (Ne.symm HN9_10.out))))
        have hm14 := hm14.blk (hJ.block _ (hm14.lt) (fun k hk => by rcases k with _ | _ | _ | _ | _ | _ | k <;> first | (cases hk; done) | (cases hk; exact absurd rfl HD14_q10.out)))
        have hm15 := hm15.blk (hJ.block _ (hm15.lt) (fun k hk => by rcases k with _ | _ | _ | _ | _ | _ | k <;> first | (cases hk; done) | (cases hk; exact absurd rfl HD15_q10.out)))
        have hm16 := hm16.blk (hJ.block _ (hm16.lt) (fun k hk => by rcases k with _ | _ | _ | _ | _ | _ | k <;> first | (cases hk; done) | (cases hk; exact absurd rfl HD16_q10.out)))
        have hm17 := hm17.blk (hJ.block _ (hm17.lt) (fun k hk => by rcases k with _ | _ | _ | _ | _ | _ | k <;> first | (cases hk; done) | (cases hk; exact absurd rfl HD17_q10.out)))
        have hm18 := hm18.blk (hJ.block _ (hm18.lt) (fun k hk => by rcases k with _ | _ | _ | _ | _ | _ | k <;> first | (cases hk; done) | (cases hk; exact absurd rfl HD18_q10.out)))
        have hm19 := hm19.blk (hJ.block _ (hm19.lt) (fun k hk => by rcases k with _ | _ | _ | _ | _ | _ | k <;> first | (cases hk; done) | (cases hk; exact absurd rfl HD19_q10.out)))
        have hm20 := hm20.blk (hJ.block _ (hm20.lt) (fun k hk => by rcases k with _ | _ | _ | _ | _ | _ | k <;> first | (cases hk; done) | (cases hk; exact absurd rfl HD20_q10.out)))
        have hm21 := hm21.blk (hJ.block _ (hm21.lt) (fun k hk => by rcases k with _ | _ | _ | _ | _ | _ | k <;> first | (cases hk; done) | (cases hk; exact absurd rfl HD21_q10.out)))
        have hm22 := hm22.blk (hJ.block _ (hm22.lt) (fun k hk => by rcases k with _ | _ | _ | _ | _ | _ | k <;> first | (cases hk; done) | (cases hk; exact absurd rfl HD22_q10.out)))
        have ht6' := there_blk ht6' (hJ.block _ (there_lt ht6' (by omega)) (fun k hk => by rcases k with _ | _ | _ | _ | _ | _ | k <;> first | (cases hk; done) | (cases hk; exact absurd rfl (Ne.symm HD10_q6.out))))
        have hs10_2t := there_blk hs10_2t (hJ.block _ (there_lt hs10_2t (by omega)) (fun k hk => by rcases k with _ | _ | _ | _ | _ | _ | k <;> first | (cases hk; done) | (cases hk; exact absurd rfl (Ne.symm HN7_10.out))))
        have hs11_2t := there_blk hs11_2t (hJ.block _ (there_lt hs11_2t (by omega)) (fun k hk => by rcases k with _ | _ | _ | _ | _ | _ | k <;> first | (cases hk; done) | (cases hk; exact absurd rfl (Ne.symm HN8_10.out))))
        have hs23_3t := there_blk hs23_3t (hJ.block _ (there_lt hs23_3t (by omega)) (fun k hk => by rcases k with _ | _ | _ | _ | _ | _ | k <;> first | (cases hk; done) | (cases hk; exact absurd rfl (Ne.symm HN9_10.out))))
        have htk' := there_blk htk' (hJ.block _ (there_lt htk' (by omega)) (fun k hk => by rcases k with _ | _ | _ | _ | _ | _ | k <;> first | (cases hk; done) | (cases hk; exact absurd rfl (Ne.symm HD10_wheapsize.out))))
        have ht14 := there_blk ht14 (hJ.block _ (there_lt ht14 (by omega)) (fun k hk => by rcases k with _ | _ | _ | _ | _ | _ | k <;> first | (cases hk; done) | (cases hk; exact absurd rfl HD14_q10.out)))
        have ht15 := there_blk ht15 (hJ.block _ (there_lt ht15 (by omega)) (fun k hk => by rcases k with _ | _ | _ | _ | _ | _ | k <;> first | (cases hk; done) | (cases hk; exact absurd rfl HD15_q10.out)))
        have ht16 := there_blk ht16 (hJ.block _ (there_lt ht16 (by omega)) (fun k hk => by rcases k with _ | _ | _ | _ | _ | _ | k <;> first | (cases hk; done) | (cases hk; exact absurd rfl HD16_q10.out)))
        have ht17 := there_blk ht17 (hJ.block _ (there_lt ht17 (by omega)) (fun k hk => by rcases k with _ | _ | _ | _ | _ | _ | k <;> first | (cases hk; done) | (cases hk; exact absurd rfl HD17_q10.out)))
        have ht18 := there_blk ht18 (hJ.block _ (there_lt ht18 (by omega)) (fun k hk => by rcases k with _ | _ | _ | _ | _ | _ | k <;> first | (cases hk; done) | (cases hk; exact absurd rfl HD18_q10.out)))
        have ht19 := there_blk ht19 (hJ.block _ (there_lt ht19 (by omega)) (fun k hk => by rcases k with _ | _ | _ | _ | _ | _ | k <;> first | (cases hk; done) | (cases hk; exact absurd rfl HD19_q10.out)))
        have ht20 := there_blk ht20 (hJ.block _ (there_lt ht20 (by omega)) (fun k hk => by rcases k with _ | _ | _ | _ | _ | _ | k <;> first | (cases hk; done) | (cases hk; exact absurd rfl HD20_q10.out)))
        have ht21 := there_blk ht21 (hJ.block _ (there_lt ht21 (by omega)) (fun k hk => by rcases k with _ | _ | _ | _ | _ | _ | k <;> first | (cases hk; done) | (cases hk; exact absurd rfl HD21_q10.out)))
        have ht22 := there_blk ht22 (hJ.block _ (there_lt ht22 (by omega)) (fun k hk => by rcases k with _ | _ | _ | _ | _ | _ | k <;> first | (cases hk; done) | (cases hk; exact absurd rfl HD22_q10.out)))
        have hK' := Lib.hid (blk_keep hK'.out (hJ.block _ (hK'.out.lt) (fun k hk => by rcases k with _ | _ | _ | _ | _ | _ | k <;> first | (cases hk; done) | (cases hk; exact absurd rfl (Ne.symm HD10_wheapsize.out)))))
        obtain ⟨_, hs25_5t, hs25_5⟩ := (show _ ∧ W25s.there q10 0 16 ∧ HasFs rR W25s q10 0 [U * ((((A.x - A.z) * (B.x + B.z)) - ((A.x + A.z) * (B.x - B.z))) * (((A.x - A.z) * (B.x + B.z)) - ((A.x + A.z) * (B.x - B.z))))] from hG 5 (by simp))
        have hbel0 := hbel
        clear hJ hG hall hb
        go_upto_region 26 with fail
        refine wp_region_turn (fun u => (.slice a n cap :: .slice b m cap' :: undef :: undef :: .slice none 0 0 :: .slice (some ⟨w.heap.size, 0, none⟩) 32 32 :: u2 2 :: u3 4 :: u3 5 :: u3 6 :: u3 7 :: u12s 1 :: .int .i64 (i : Int) :: .int .i64 (b2i bt) :: u13s 3 :: u14s 3 :: u15s 3 :: u16s 3 :: u17s 3 :: u18s 3 :: u19s 3 :: u20s 3 :: u21s 3 :: .slice a n cap :: .slice (some ⟨w.heap.size, 0, none⟩) 32 32 :: u2 0 :: u2 1 :: u3 0 :: u3 1 :: u3 2 :: u3 3 :: .int .i64 (i : Int) :: .bool true :: u33 :: u34 :: .slice (some ⟨w.heap.size, 0, none⟩) 32 32 :: .int .i64 (i : Int) :: .int .i64 (↑i / 8) :: .pointer (some ⟨w.heap.size, i / 8, none⟩) :: .int .u8 (c.toNat : Int) :: .int .i64 (i : Int) :: .int .i64 (↑i % 8) :: .int .u8 (↑c.toNat / 2 ^ (i % 8)) :: .int .u8 (b2i bt) :: .int .i64 (b2i bt) :: .int .i64 (b2i was) :: .int .i64 (b2i bt) :: .bool true :: u10s 0 :: u10s 1 :: u11s 0 :: u11s 1 :: u12s 0 :: u13s 0 :: u13s 1 :: u13s 2 :: u14s 0 :: u14s 1 :: u14s 2 :: u15s 0 :: u15s 1 :: u15s 2 :: u16s 0 :: u16s 1 :: u16s 2 :: u17s 0 :: u17s 1 :: u17s 2 :: u18s 0 :: u18s 1 :: u18s 2 :: u19s 0 :: u19s 1 :: u19s 2 :: u20s 0 :: u20s 1 :: u20s 2 :: u21s 0 :: u21s 1 :: u21s 2 :: u22s 0 :: u22s 1 :: u22s 2 :: u23s 0 :: u23s 1 :: u23s 2 :: u24s 0 :: u24s 1 :: u24s 2 :: u25s 0 :: u25s 1 :: u25s 2 :: u25s 3 :: u25s 4 :: u 0 :: u 1 :: u 2 :: u97 :: u98 :: u99 :: u100 :: u101 :: u102 :: u103 :: undef :: undef :: undef :: undef :: undef :: undef :: undef :: undef :: undef :: []).toArray) (Holds [.val rR [(B.x + B.z) * (B.x + B.z)], .val rR [(B.x - B.z) * (B.x - B.z)], .val rR [((B.x + B.z) * (B.x + B.z)) * ((B.x - B.z) * (B.x - B.z))], .sto q7 rR [((B.x + B.z) * (B.x + B.z)) * ((B.x - B.z) * (B.x - B.z))]] W25s) (Keep [.val rR [(B.x + B.z) * (B.x + B.z)], .val rR [(B.x - B.z) * (B.x - B.z)], .val rR [((B.x + B.z) * (B.x + B.z)) * ((B.x - B.z) * (B.x - B.z))], .sto q7 rR [((B.x + B.z) * (B.x + B.z)) * ((B.x - B.z) * (B.x - B.z))]] W25s) (fun k => ([u94, u95, u96, undef] : List Value).getD k undef) ?_ (by rfl) Keep.start (holds_soft (by kernel_rfl)) ?_ ?_
        · intro u i v h
          rcases i with _ | _ | _ | _ | i
          all_goals first | (simp [Act.put, putV]; done) | (exfalso; simp at h; omega)
        · intro hs
          refine ⟨?_, ?_, ?_, ?_, trivial⟩
          · exact step_load q15 0 hs (wants_none rfl) rfl rfl tyFe (fun _ => E15.out) hm15.lt hm15 (fun k g hk => by rcases k with _ | _ | _ | _ | k <;> first | (cases hk; done) | (cases hk; exact .inr HD15_q7.out))
          · exact step_load q17 0 hs (wants_none rfl) rfl rfl tyFe (fun _ => E17.out) hm17.lt hm17 (fun k g hk => by rcases k with _ | _ | _ | _ | k <;> first | (cases hk; done) | (cases hk; exact .inr HD17_q7.out))
          · refine step_call hs (wants_none rfl) rfl fun L u W hJ hG hL hdep K hK => ?_
            have a0 := (show IsFs rR (u 0) [(B.x + B.z) * (B.x + B.z)] from hG 0 (hdep 0 (by kernel_rfl)))
            have a1 := (show IsFs rR (u 1) [(B.x - B.z) * (B.x - B.z)] from hG 1 (hdep 1 (by kernel_rfl)))
            go_simp
            go_at_call 33
            (with_reducible refine (kMul a0 a1 _).mono ?_); rintro e w1 ⟨r, rfl, hr, hb⟩
            have hk := hK.out _ _ hr hb
            exact hk
          · refine step_storeO q7 16 hs (wants_none rfl) rfl rfl (by kernel_rfl) (fun k hk => ?_) (fun _ => E7.out) (there_lt hs10_2t (by omega)) hs10_2t (gives_op 2 rfl (by kernel_rfl) (fun _ => rfl)) tyFe rfl
            rcases k with _ | _ | _ | _ | k
            all_goals first | (exact absurd rfl hk) | (intro e; cases e; done)
        intro L26 u26s W26s hall hJ hG
        have hb : Below w.heap.size W25s W26s := hJ.below (by have := hbel.size; omega) (fun k b hf => by rcases k with _ | _ | _ | _ | k <;> first | (cases hf; done) | (cases hf; omega))
        have hbel := hbel.trans hb
        have hm6' := hm6'.blk (hJ.block _ (hm6'.lt) (fun k hk => by rcases k with _ | _ | _ | _ | k <;> first | (cases hk; done) | (cases hk; exact absurd rfl (Ne.symm HD7_q6.out))))
        have hs11_2 := hs11_2.blk (hJ.block _ (hs11_2.lt) (fun k hk => by rcases k with _ | _ | _ | _ | k <;> first | (cases hk; done) | (cases hk; exact absurd rfl HN7_8.out)))
        have hs23_3 := hs23_3.blk (hJ.block _ (hs23_3.lt) (fun k hk => by rcases k with _ | _ | _ | _ | k <;> first | (cases hk; done) | (cases hk; exact absurd rfl HN7_9.out)))
        have hs25_5 := hs25_5.blk (hJ.block _ (hs25_5.lt) (fun k hk => by rcases k with _ | _ | _ | _ | k <;> first | (cases hk; done) | (cases hk; exact absurd rfl HN7_10.out)))
        have hm14 := hm14.blk (hJ.block _ (hm14.lt) (fun k hk => by rcases k with _ | _ | _ | _ | k <;> first | (cases hk; done) | (cases hk; exact absurd rfl HD14_q7.out)))
        have hm15 := hm15.blk (hJ.block _ (hm15.lt) (fun k hk => by rcases k with _ | _ | _ | _ | k <;> first | (cases hk; done) | (cases hk; exact absurd rfl HD15_q7.out)))
        have hm16 := hm16.blk (hJ.block _ (hm16.lt) (fun k hk => by rcases k with _ | _ | _ | _ | k <;> first | (cases hk; done) | (cases hk; exact absurd rfl HD16_q7.out)))
        have hm17 := hm17.blk (hJ.block _ (hm17.lt) (fun k hk => by rcases k with _ | _ | _ | _ | k <;> first | (cases hk; done) | (cases hk; exact absurd rfl HD17_q7.out)))
        have hm18 := hm18.blk (hJ.block _ (hm18.lt) (fun k hk => by rcases k with _ | _ | _ | _ | k <;> first | (cases hk; done) | (cases hk; exact absurd rfl HD18_q7.out)))
        have hm19 := hm19.blk (hJ.block _ (hm19.lt) (fun k hk => by rcases k with _ | _ | _ | _ | k <;> first | (cases hk; done) | (cases hk; exact absurd rfl HD19_q7.out)))
        have hm20 := hm20.blk (hJ.block _ (hm20.lt) (fun k hk => by rcases k with _ | _ | _ | _ | k <;> first | (cases hk; done) | (cases hk; exact absurd rfl HD20_q7.out)))
        have hm21 := hm21.blk (hJ.block _ (hm21.lt) (fun k hk => by rcases k with _ | _ | _ | _ | k <;> first | (cases hk; done) | (cases hk; exact absurd rfl HD21_q7.out)))
        have hm22 := hm22.blk (hJ.block _ (hm22.lt) (fun k hk => by rcases k with _ | _ | _ | _ | k <;> first | (cases hk; done) | (cases hk; exact absurd rfl HD22_q7.out)))
        have ht6' := there_blk ht6' (hJ.block _ (there_lt ht6' (by omega)) (fun k hk => by rcases k with _ | _ | _ | _ | k <;> first | (cases hk; done) | (cases hk; exact absurd rfl (Ne.symm HD7_q6.out))))
        have hs11_2t := there_blk hs11_2t (hJ.block _ (there_lt hs11_2t (by omega)) (fun k hk => by rcases k with _ | _ | _ | _ | k <;> first | (cases hk; done) | (cases hk; exact absurd rfl HN7_8.out)))
        have hs23_3t := there_blk hs23_3t (hJ.block _ (there_lt hs23_3t (by omega)) (fun k hk => by rcases k with _ | _ | _ | _ | k <;> first | (cases hk; done) | (cases hk; exact absurd rfl HN7_9.out)))
        have hs25_5t := there_blk hs25_5t (hJ.block _ (there_lt hs25_5t (by omega)) (fun k hk => by rcases k with _ | _ | _ | _ | k <;> first | (cases hk; done) | (cases hk; exact absurd rfl HN7_10.out)))
        have htk' := there_blk htk' (hJ.block _ (there_lt htk' (by omega)) (fun k hk => by rcases k with _ | _ | _ | _ | k <;> first | (cases hk; done) | (cases hk; exact absurd rfl (Ne.symm HD7_wheapsize.out))))
        have ht14 := there_blk ht14 (hJ.block _ (there_lt ht14 (by omega)) (fun k hk => by rcases k with _ | _ | _ | _ | k <;> first | (cases hk; done) | (cases hk; exact absurd rfl HD14_q7.out)))
        have ht15 := there_blk ht15 (hJ.block _ (there_lt ht15 (by omega)) (fun k hk => by rcases k with _ | _ | _ | _ | k <;> first | (cases hk; done) | (cases hk; exact absurd rfl HD15_q7.out)))
        have ht16 := there_blk ht16 (hJ.block _ (there_lt ht16 (by omega)) (fun k hk => by rcases k with _ | _ | _ | _ | k <;> first | (cases hk; done) | (cases hk; exact absurd rfl HD16_q7.out)))
        have ht17 := there_blk ht17 (hJ.block _ (there_lt ht17 (by omega)) (fun k hk => by rcases k with _ | _ | _ | _ | k <;> first | (cases hk; done) | (cases hk; exact absurd rfl HD17_q7.out)))
        have ht18 := there_blk ht18 (hJ.block _ (there_lt ht18 (by omega)) (fun k hk => by rcases k with _ | _ | _ | _ | k <;> first | (cases hk; done) | (cases hk; exact absurd rfl HD18_q7.out)))
        have ht19 := there_blk ht19 (hJ.block _ (there_lt ht19 (by omega)) (fun k hk => by rcases k with _ | _ | _ | _ | k <;> first | (cases hk; done) | (cases hk; exact absurd rfl HD19_q7.out)))
        have ht20 := there_blk ht20 (hJ.block _ (there_lt ht20 (by omega)) (fun k hk => by rcases k with _ | _ | _ | _ | k <;> first | (cases hk; done) | (cases hk; exact absurd rfl HD20_q7.out)))
        have ht21 := there_blk ht21 (hJ.block _ (there_lt ht21 (by omega)) (fun k hk => by rcases k with _ | _ | _ | _ | k <;> first | (cases hk; done) | (cases hk; exact absurd rfl HD21_q7.out)))
        have ht22 := there_blk ht22 (hJ.block _ (there_lt ht22 (by omega)) (fun k hk => by rcases k with _ | _ | _ | _ | k <;> first | (cases hk; done) | (cases hk; exact absurd rfl HD22_q7.out)))
        have hK' := Lib.hid (blk_keep hK'.out (hJ.block _ (hK'.out.lt) (fun k hk => by rcases k with _ | _ | _ | _ | k <;> first | (cases hk; done) | (cases hk; exact absurd rfl (Ne.symm HD7_wheapsize.out)))))
        obtain ⟨_, hs26_3t, hs26_3⟩ := (show _ ∧ W26s.there q7 0 16 ∧ HasFs rR W26s q7 0 [((B.x + B.z) * (B.x + B.z)) * ((B.x - B.z) * (B.x - B.z))] from hG 3 (by simp))
        have hbel0 := hbel
        clear hJ hG hall hb
        go_upto_region 27 with fail
        refine wp_region_mid (fun u => (.slice a n cap :: .slice b m cap' :: undef :: undef :: .slice none 0 0 :: .slice (some ⟨w.heap.size, 0, none⟩) 32 32 :: u2 2 :: u3 4 :: u3 5 :: u3 6 :: u3 7 :: u12s 1 :: .int .i64 (i : Int) :: .int .i64 (b2i bt) :: u13s 3 :: u14s 3 :: u15s 3 :: u16s 3 :: u17s 3 :: u18s 3 :: u19s 3 :: u20s 3 :: u21s 3 :: .slice a n cap :: .slice (some ⟨w.heap.size, 0, none⟩) 32 32 :: u2 0 :: u2 1 :: u3 0 :: u3 1 :: u3 2 :: u3 3 :: .int .i64 (i : Int) :: .bool true :: u33 :: u34 :: .slice (some ⟨w.heap.size, 0, none⟩) 32 32 :: .int .i64 (i : Int) :: .int .i64 (↑i / 8) :: .pointer (some ⟨w.heap.size, i / 8, none⟩) :: .int .u8 (c.toNat : Int) :: .int .i64 (i : Int) :: .int .i64 (↑i % 8) :: .int .u8 (↑c.toNat / 2 ^ (i % 8)) :: .int .u8 (b2i bt) :: .int .i64 (b2i bt) :: .int .i64 (b2i was) :: .int .i64 (b2i bt) :: .bool true :: u10s 0 :: u10s 1 :: u11s 0 :: u11s 1 :: u12s 0 :: u13s 0 :: u13s 1 :: u13s 2 :: u14s 0 :: u14s 1 :: u14s 2 :: u15s 0 :: u15s 1 :: u15s 2 :: u16s 0 :: u16s 1 :: u16s 2 :: u17s 0 :: u17s 1 :: u17s 2 :: u18s 0 :: u18s 1 :: u18s 2 :: u19s 0 :: u19s 1 :: u19s 2 :: u20s 0 :: u20s 1 :: u20s 2 :: u21s 0 :: u21s 1 :: u21s 2 :: u22s 0 :: u22s 1 :: u22s 2 :: u23s 0 :: u23s 1 :: u23s 2 :: u24s 0 :: u24s 1 :: u24s 2 :: u25s 0 :: u25s 1 :: u25s 2 :: u25s 3 :: u25s 4 :: u26s 0 :: u26s 1 :: u26s 2 :: u 0 :: u 1 :: u 2 :: u 3 :: u 4 :: u 5 :: u 6 :: undef :: undef :: undef :: undef :: undef :: undef :: undef :: undef :: undef :: []).toArray) (Holds [.val rR [((B.x + B.z) * (B.x + B.z)) - ((B.x - B.z) * (B.x - B.z))], .val rR [(B.x + B.z) * (B.x + B.z)], .val rR [fn 121665], .val rR [((B.x + B.z) * (B.x + B.z)) - ((B.x - B.z) * (B.x - B.z))], .val rR [(fn 121665) * (((B.x + B.z) * (B.x + B.z)) - ((B.x - B.z) * (B.x - B.z)))], .val rR [((B.x + B.z) * (B.x + B.z)) + ((fn 121665) * (((B.x + B.z) * (B.x + B.z)) - ((B.x - B.z) * (B.x - B.z))))], .val rR [(((B.x + B.z) * (B.x + B.z)) - ((B.x - B.z) * (B.x - B.z))) * (((B.x + B.z) * (B.x + B.z)) + ((fn 121665) * (((B.x + B.z) * (B.x + B.z)) - ((B.x - B.z) * (B.x - B.z)))))], .sto q8 rR [(((B.x + B.z) * (B.x + B.z)) - ((B.x - B.z) * (B.x - B.z))) * (((B.x + B.z) * (B.x + B.z)) + ((fn 121665) * (((B.x + B.z) * (B.x + B.z)) - ((B.x - B.z) * (B.x - B.z)))))]] W26s) (Keep [.val rR [((B.x + B.z) * (B.x + B.z)) - ((B.x - B.z) * (B.x - B.z))], .val rR [(B.x + B.z) * (B.x + B.z)], .val rR [fn 121665], .val rR [((B.x + B.z) * (B.x + B.z)) - ((B.x - B.z) * (B.x - B.z))], .val rR [(fn 121665) * (((B.x + B.z) * (B.x + B.z)) - ((B.x - B.z) * (B.x - B.z)))], .val rR [((B.x + B.z) * (B.x + B.z)) + ((fn 121665) * (((B.x + B.z) * (B.x + B.z)) - ((B.x - B.z) * (B.x - B.z))))], .val rR [(((B.x + B.z) * (B.x + B.z)) - ((B.x - B.z) * (B.x - B.z))) * (((B.x + B.z) * (B.x + B.z)) + ((fn 121665) * (((B.x + B.z) * (B.x + B.z)) - ((B.x - B.z) * (B.x - B.z)))))], .sto q8 rR [(((B.x + B.z) * (B.x + B.z)) - ((B.x - B.z) * (B.x - B.z))) * (((B.x + B.z) * (B.x + B.z)) + ((fn 121665) * (((B.x + B.z) * (B.x + B.z)) - ((B.x - B.z) * (B.x - B.z)))))]] W26s) (fun k => ([u97, u98, u99, u100, u101, u102, u103, undef] : List Value).getD k undef) (by kernel_rfl) (by kernel_rfl) ?_ (by rfl) Keep.drew (holds_soft (by kernel_rfl)) ?_ ?_
        · intro u i v h
          rcases i with _ | _ | _ | _ | _ | _ | _ | _ | i
          all_goals first | (simp [Act.put, putV]; done) | (exfalso; simp at h; omega)
        · intro hs
          refine ⟨?_, ?_, ?_, ?_, ?_, ?_, ?_, ?_, trivial⟩
          · exact step_load q18 0 hs (wants_none rfl) rfl rfl tyFe (fun _ => E18.out) hm18.lt hm18 (fun k g hk => by rcases k with _ | _ | _ | _ | _ | _ | _ | _ | k <;> first | (cases hk; done) | (cases hk; exact .inr HD18_q8.out))
          · exact step_load q15 0 hs (wants_none rfl) rfl rfl tyFe (fun _ => E15.out) hm15.lt hm15 (fun k g hk => by rcases k with _ | _ | _ | _ | _ | _ | _ | _ | k <;> first | (cases hk; done) | (cases hk; exact .inr HD15_q8.out))
          · refine step_call hs (wants_none rfl) rfl fun L u W hJ hG hL hdep K hK => ?_
            go_simp
            go_at_call 31
            (with_reducible refine (kSmallI (n := 121665) (z := 121665) rfl (by omega) _).mono ?_); rintro e w1 ⟨r, rfl, hr, hb⟩
            have hk := hK.out _ _ hr hb
            exact hk
          · exact step_load q18 0 hs (wants_none rfl) rfl rfl tyFe (fun _ => E18.out) hm18.lt hm18 (fun k g hk => by rcases k with _ | _ | _ | _ | _ | _ | _ | _ | k <;> first | (cases hk; done) | (cases hk; exact .inr HD18_q8.out))
          · refine step_call hs (wants_none rfl) rfl fun L u W hJ hG hL hdep K hK => ?_
            have a0 := (show IsFs rR (u 2) [fn 121665] from hG 2 (hdep 2 (by kernel_rfl)))
            have a1 := (show IsFs rR (u 3) [((B.x + B.z) * (B.x + B.z)) - ((B.x - B.z) * (B.x - B.z))] from hG 3 (hdep 3 (by kernel_rfl)))
            go_simp
            go_at_call 33
            (with_reducible refine (kMul a0 a1 _).mono ?_); rintro e w1 ⟨r, rfl, hr, hb⟩
            have hk := hK.out _ _ hr hb
            exact hk
          · refine step_call hs (wants_none rfl) rfl fun L u W hJ hG hL hdep K hK => ?_
            have a0 := (show IsFs rR (u 1) [(B.x + B.z) * (B.x + B.z)] from hG 1 (hdep 1 (by kernel_rfl)))
            have a1 := (show IsFs rR (u 4) [(fn 121665) * (((B.x + B.z) * (B.x + B.z)) - ((B.x - B.z) * (B.x - B.z)))] from hG 4 (hdep 4 (by kernel_rfl)))
            go_simp
            go_at_call 32
            (with_reducible refine (kAdd a0 a1 _).mono ?_); rintro e w1 ⟨r, rfl, hr, hb⟩
            have hk := hK.out _ _ hr hb
            exact hk
          · refine step_call hs (wants_none rfl) rfl fun L u W hJ hG hL hdep K hK => ?_
            have a0 := (show IsFs rR (u 0) [((B.x + B.z) * (B.x + B.z)) - ((B.x - B.z) * (B.x - B.z))] from hG 0 (hdep 0 (by kernel_rfl)))
            have a1 := (show IsFs rR (u 5) [((B.x + B.z) * (B.x + B.z)) + ((fn 121665) * (((B.x + B.z) * (B.x + B.z)) - ((B.x - B.z) * (B.x - B.z))))] from hG 5 (hdep 5 (by kernel_rfl)))
            go_simp
            go_at_call 33
            (with_reducible refine (kMul a0 a1 _).mono ?_); rintro e w1 ⟨r, rfl, hr, hb⟩
            have hk := hK.out _ _ hr hb
            exact hk
          · refine step_storeO q8 16 hs (wants_none rfl) rfl rfl (by kernel_rfl) (fun k hk => ?_) (fun _ => E8.out) (there_lt hs11_2t (by omega)) hs11_2t (gives_op 6 rfl (by kernel_rfl) (fun _ => rfl)) tyFe rfl
            rcases k with _ | _ | _ | _ | _ | _ | _ | _ | k
            all_goals first | (exact absurd rfl hk) | (intro e; cases e; done)
        intro L27 u27s W27s hall hJ hG
        have hb : Below w.heap.size W26s W27s := hJ.below (by have := hbel.size; omega) (fun k b hf => by rcases k with _ | _ | _ | _ | _ | _ | _ | _ | k <;> first | (cases hf; done) | (cases hf; omega))
        have hbel := hbel.trans hb
        have hm6' := hm6'.blk (hJ.block _ (hm6'.lt) (fun k hk => by rcases k with _ | _ | _ | _ | _ | _ | _ | _ | k <;> first | (cases hk; done) | (cases hk; exact absurd rfl (Ne.symm HD8_q6.out))))
        have hs26_3 := hs26_3.blk (hJ.block _ (hs26_3.lt) (fun k hk => by rcases k with _ | _ | _ | _ | _ | _ | _ | _ | k <;> first | (cases hk; done) | (cases hk; exact absurd rfl (Ne.symm HN7_8.out))))
        have hs23_3 := hs23_3.blk (hJ.block _ (hs23_3.lt) (fun k hk => by rcases k with _ | _ | _ | _ | _ | _ | _ | _ | k <;> first | (cases hk; done) | (cases hk; exact absurd rfl HN8_9.out)))
        have hs25_5 := hs25_5.blk (hJ.block _ (hs25_5.lt) (fun k hk => by rcases k with _ | _ | _ | _ | _ | _ | _ | _ | k <;> first | (cases hk; done) | (cases hk; exact absurd rfl HN8_10.out)))
        have hm14 := hm14.blk (hJ.block _ (hm14.lt) (fun k hk => by rcases k with _ | _ | _ | _ | _ | _ | _ | _ | k <;> first | (cases hk; done) | (cases hk; exact absurd rfl HD14_q8.out)))
        have hm15 := hm15.blk (hJ.block _ (hm15.lt) (fun k hk => by rcases k with _ | _ | _ | _ | _ | _ | _ | _ | k <;> first | (cases hk; done) | (cases hk; exact absurd rfl HD15_q8.out)))
        have hm16 := hm16.blk (hJ.block _ (hm16.lt) (fun k hk => by rcases k with _ | _ | _ | _ | _ | _ | _ | _ | k <;> first | (cases hk; done) | (cases hk; exact absurd rfl HD16_q8.out)))
        have hm17 := hm17.blk (hJ.block _ (hm17.lt) (fun k hk => by rcases k with _ | _ | _ | _ | _ | _ | _ | _ | k <;> first | (cases hk; done) | (cases hk; exact absurd rfl HD17_q8.out)))
        have hm18 := hm18.blk (hJ.block _ (hm18.lt) (fun k hk => by rcases k with _ | _ | _ | _ | _ | _ | _ | _ | k <;> first | (cases hk; done) | (cases hk; exact absurd rfl HD18_q8.out)))
        have hm19 := hm19.blk (hJ.block _ (hm19.lt) (fun k hk => by rcases k with _ | _ | _ | _ | _ | _ | _ | _ | k <;> first | (cases hk; done) | (cases hk; exact absurd rfl HD19_q8.out)))
        have hm20 := hm20.blk (hJ.block _ (hm20.lt) (fun k hk => by rcases k with _ | _ | _ | _ | _ | _ | _ | _ | k <;> first | (cases hk; done) | (cases hk; exact absurd rfl HD20_q8.out)))
        have hm21 := hm21.blk (hJ.block _ (hm21.lt) (fun k hk => by rcases k with _ | _ | _ | _ | _ | _ | _ | _ | k <;> first | (cases hk; done) | (cases hk; exact absurd rfl HD21_q8.out)))
        have hm22 := hm22.blk (hJ.block _ (hm22.lt) (fun k hk => by rcases k with _ | _ | _ | _ | _ | _ | _ | _ | k <;> first | (cases hk; done) | (cases hk; exact absurd rfl HD22_q8.out)))
        have ht6' := there_blk ht6' (hJ.block _ (there_lt ht6' (by omega)) (fun k hk => by rcases k with _ | _ | _ | _ | _ | _ | _ | _ | k <;> first | (cases hk; done) | (cases hk; exact absurd rfl (Ne.symm HD8_q6.out))))
        have hs26_3t := there_blk hs26_3t (hJ.block _ (there_lt hs26_3t (by omega)) (fun k hk => by rcases k with _ | _ | _ | _ | _ | _ | _ | _ | k <;> first | (cases hk; done) | (cases hk; exact absurd rfl (Ne.symm HN7_8.out))))
        have hs23_3t := there_blk hs23_3t (hJ.block _ (there_lt hs23_3t (by omega)) (fun k hk => by rcases k with _ | _ | _ | _ | _ | _ | _ | _ | k <;> first | (cases hk; done) | (cases hk; exact absurd rfl HN8_9.out)))
        have hs25_5t := there_blk hs25_5t (hJ.block _ (there_lt hs25_5t (by omega)) (fun k hk => by rcases k with _ | _ | _ | _ | _ | _ | _ | _ | k <;> first | (cases hk; done) | (cases hk; exact absurd rfl HN8_10.out)))
        have htk' := there_blk htk' (hJ.block _ (there_lt htk' (by omega)) (fun k hk => by rcases k with _ | _ | _ | _ | _ | _ | _ | _ | k <;> first | (cases hk; done) | (cases hk; exact absurd rfl (Ne.symm HD8_wheapsize.out))))
        have ht14 := there_blk ht14 (hJ.block _ (there_lt ht14 (by omega)) (fun k hk => by rcases k with _ | _ | _ | _ | _ | _ | _ | _ | k <;> first | (cases hk; done) | (cases hk; exact absurd rfl HD14_q8.out)))
        have ht15 := there_blk ht15 (hJ.block _ (there_lt ht15 (by omega)) (fun k hk => by rcases k with _ | _ | _ | _ | _ | _ | _ | _ | k <;> first | (cases hk; done) | (cases hk; exact absurd rfl HD15_q8.out)))
        have ht16 := there_blk ht16 (hJ.block _ (there_lt ht16 (by omega)) (fun k hk => by rcases k with _ | _ | _ | _ | _ | _ | _ | _ | k <;> first | (cases hk; done) | (cases hk; exact absurd rfl HD16_q8.out)))
        have ht17 := there_blk ht17 (hJ.block _ (there_lt ht17 (by omega)) (fun k hk => by rcases k with _ | _ | _ | _ | _ | _ | _ | _ | k <;> first | (cases hk; done) | (cases hk; exact absurd rfl HD17_q8.out)))
        have ht18 := there_blk ht18 (hJ.block _ (there_lt ht18 (by omega)) (fun k hk => by rcases k with _ | _ | _ | _ | _ | _ | _ | _ | k <;> first | (cases hk; done) | (cases hk; exact absurd rfl HD18_q8.out)))
        have ht19 := there_blk ht19 (hJ.block _ (there_lt ht19 (by omega)) (fun k hk => by rcases k with _ | _ | _ | _ | _ | _ | _ | _ | k <;> first | (cases hk; done) | (cases hk; exact absurd rfl HD19_q8.out)))
        have ht20 := there_blk ht20 (hJ.block _ (there_lt ht20 (by omega)) (fun k hk => by rcases k with _ | _ | _ | _ | _ | _ | _ | _ | k <;> first | (cases hk; done) | (cases hk; exact absurd rfl HD20_q8.out)))
        have ht21 := there_blk ht21 (hJ.block _ (there_lt ht21 (by omega)) (fun k hk => by rcases k with _ | _ | _ | _ | _ | _ | _ | _ | k <;> first | (cases hk; done) | (cases hk; exact absurd rfl HD21_q8.out)))
        have ht22 := there_blk ht22 (hJ.block _ (there_lt ht22 (by omega)) (fun k hk => by rcases k with _ | _ | _ | _ | _ | _ | _ | _ | k <;> first | (cases hk; done) | (cases hk; exact absurd rfl HD22_q8.out)))
        have hK' := Lib.hid (blk_keep hK'.out (hJ.block _ (hK'.out.lt) (fun k hk => by rcases k with _ | _ | _ | _ | _ | _ | _ | _ | k <;> first | (cases hk; done) | (cases hk; exact absurd rfl (Ne.symm HD8_wheapsize.out)))))
        obtain ⟨_, hs27_7t, hs27_7⟩ := (show _ ∧ W27s.there q8 0 16 ∧ HasFs rR W27s q8 0 [(((B.x + B.z) * (B.x + B.z)) - ((B.x - B.z) * (B.x - B.z))) * (((B.x + B.z) * (B.x + B.z)) + ((fn 121665) * (((B.x + B.z) * (B.x + B.z)) - ((B.x - B.z) * (B.x - B.z)))))] from hG 7 (by simp))
        have hbel0 := hbel
        clear hJ hG hall hb
        go_wp2_with fail
        go_roundw
        case rel => exact ⟨i, bt, ⟨_, _⟩, ⟨_, _⟩, by omega, HC11.out, by go_num, hm6', hs26_3, hs27_7, hs23_3, hs25_5, ht6', hs26_3t, hs27_7t, hs23_3t, hs25_5t, htk', hK'.out, hbel, by rw [← HST.out]; exact lstep_yes HSW.out HBT.out⟩
        case measure => simp [intOf]
      · rw [Bool.not_eq_true] at hsw; rw [hsw] at hbn
        have HSW := Lib.hid hsw; clear hsw
        go_upto_region 12 with fail
        have hbel := hbel'
        have hbel0 := hbel'
        have hK' := Lib.hid hK'
        clear hbn hkt hc hbd
        skip
        refine wp_region_turn (fun u => (.slice a n cap :: .slice b m cap' :: undef :: undef :: .slice none 0 0 :: .slice (some ⟨w.heap.size, 0, none⟩) 32 32 :: u2 2 :: u3 4 :: u3 5 :: u3 6 :: u3 7 :: u 1 :: .int .i64 (i : Int) :: .int .i64 (b2i bt) :: u14 :: u15 :: u16 :: u17 :: u18 :: u19 :: u20 :: u21 :: u22 :: .slice a n cap :: .slice (some ⟨w.heap.size, 0, none⟩) 32 32 :: u2 0 :: u2 1 :: u3 0 :: u3 1 :: u3 2 :: u3 3 :: .int .i64 (i : Int) :: .bool true :: u33 :: u34 :: .slice (some ⟨w.heap.size, 0, none⟩) 32 32 :: .int .i64 (i : Int) :: .int .i64 (↑i / 8) :: .pointer (some ⟨w.heap.size, i / 8, none⟩) :: .int .u8 (c.toNat : Int) :: .int .i64 (i : Int) :: .int .i64 (↑i % 8) :: .int .u8 (↑c.toNat / 2 ^ (i % 8)) :: .int .u8 (b2i bt) :: .int .i64 (b2i bt) :: .int .i64 (b2i was) :: .int .i64 (b2i bt) :: .bool false :: u48 :: u49 :: u50 :: u51 :: u 0 :: u53 :: u54 :: u55 :: u56 :: u57 :: u58 :: u59 :: u60 :: u61 :: u62 :: u63 :: u64 :: u65 :: u66 :: u67 :: u68 :: u69 :: u70 :: u71 :: u72 :: u73 :: u74 :: u75 :: u76 :: u77 :: u78 :: u79 :: u80 :: u81 :: u82 :: u83 :: u84 :: u85 :: u86 :: u87 :: u88 :: u89 :: u90 :: u91 :: u92 :: u93 :: u94 :: u95 :: u96 :: u97 :: u98 :: u99 :: u100 :: u101 :: u102 :: u103 :: undef :: undef :: undef :: undef :: undef :: undef :: undef :: undef :: undef :: []).toArray) (Holds [.oth (fun v => v = .int .i64 (b2i bt)), .oth (fun v => v = .int .i64 (b2i bt))] wr) (Keep [.oth (fun v => v = .int .i64 (b2i bt)), .oth (fun v => v = .int .i64 (b2i bt))] wr) (fun k => ([u52, .int .i64 (b2i was)] : List Value).getD k undef) ?_ (by rfl) Keep.start (holds_soft (by kernel_rfl)) ?_ ?_
        · intro u i v h
          rcases i with _ | _ | i
          all_goals first | (simp [Act.put, putV]; done) | (exfalso; simp at h; omega)
        · intro hs
          refine ⟨?_, ?_, trivial⟩
          · exact step_pureO hs (wants_none rfl) rfl fun L u W hG hdep => ⟨_, run_move rfl, rfl⟩
          · exact step_pureO hs (wants_none rfl) rfl fun L u W hG hdep => ⟨_, run_assign rfl, (show u 0 = .int .i64 (b2i bt) from hG 0 (hdep 0 (by kernel_rfl)))⟩
        intro L12 u12n W12n hall hJ hG
        have hb := hJ.all rfl
        have hbel := Below.call hbel hb
        have hm6' := hm6'.later hb
        have hm7' := hm7'.later hb
        have hm8' := hm8'.later hb
        have hm9' := hm9'.later hb
        have hm10' := hm10'.later hb
        have ht6' := there_later ht6' hb
        have ht7' := there_later ht7' hb
        have ht8' := there_later ht8' hb
        have ht9' := there_later ht9' hb
        have ht10' := there_later ht10' hb
        have htk' := there_later htk' hb
        have hK' := Lib.hid (hK'.out.below' hb)
        have HC11 := Lib.hid (show u12n 1 = .int .i64 (b2i bt) from hG 1 (by simp))
        have hbel0 := hbel
        clear hJ hG hall hb
        go_upto_region 13 with fail
        refine wp_region_turn (fun u => (.slice a n cap :: .slice b m cap' :: undef :: undef :: .slice none 0 0 :: .slice (some ⟨w.heap.size, 0, none⟩) 32 32 :: u2 2 :: u3 4 :: u3 5 :: u3 6 :: u3 7 :: u12n 1 :: .int .i64 (i : Int) :: .int .i64 (b2i bt) :: u 3 :: u15 :: u16 :: u17 :: u18 :: u19 :: u20 :: u21 :: u22 :: .slice a n cap :: .slice (some ⟨w.heap.size, 0, none⟩) 32 32 :: u2 0 :: u2 1 :: u3 0 :: u3 1 :: u3 2 :: u3 3 :: .int .i64 (i : Int) :: .bool true :: u33 :: u34 :: .slice (some ⟨w.heap.size, 0, none⟩) 32 32 :: .int .i64 (i : Int) :: .int .i64 (↑i / 8) :: .pointer (some ⟨w.heap.size, i / 8, none⟩) :: .int .u8 (c.toNat : Int) :: .int .i64 (i : Int) :: .int .i64 (↑i % 8) :: .int .u8 (↑c.toNat / 2 ^ (i % 8)) :: .int .u8 (b2i bt) :: .int .i64 (b2i bt) :: .int .i64 (b2i was) :: .int .i64 (b2i bt) :: .bool false :: u48 :: u49 :: u50 :: u51 :: u12n 0 :: u 0 :: u 1 :: u 2 :: u56 :: u57 :: u58 :: u59 :: u60 :: u61 :: u62 :: u63 :: u64 :: u65 :: u66 :: u67 :: u68 :: u69 :: u70 :: u71 :: u72 :: u73 :: u74 :: u75 :: u76 :: u77 :: u78 :: u79 :: u80 :: u81 :: u82 :: u83 :: u84 :: u85 :: u86 :: u87 :: u88 :: u89 :: u90 :: u91 :: u92 :: u93 :: u94 :: u95 :: u96 :: u97 :: u98 :: u99 :: u100 :: u101 :: u102 :: u103 :: undef :: undef :: undef :: undef :: undef :: undef :: undef :: undef :: undef :: []).toArray) (Holds [.val rR [A.x], .val rR [A.z], .val rR [A.x + A.z], .new 16, .st 3 rR [A.x + A.z]] W12n) (Keep [.val rR [A.x], .val rR [A.z], .val rR [A.x + A.z], .new 16, .st 3 rR [A.x + A.z]] W12n) (fun k => ([u53, u54, u55, u14, undef] : List Value).getD k undef) ?_ (by rfl) Keep.start (holds_soft (by kernel_rfl)) ?_ ?_
        · intro u i v h
          rcases i with _ | _ | _ | _ | _ | i
          all_goals first | (simp [Act.put, putV]; done) | (exfalso; simp at h; omega)
        · intro hs
          refine ⟨?_, ?_, ?_, ?_, ?_, trivial⟩
          · exact step_load q7 0 hs (wants_none rfl) rfl rfl tyFe (fun _ => E7.out) hm7'.lt hm7' (noSto_apart (by kernel_rfl))
          · exact step_load q8 0 hs (wants_none rfl) rfl rfl tyFe (fun _ => E8.out) hm8'.lt hm8' (noSto_apart (by kernel_rfl))
          · refine step_call hs (wants_none rfl) rfl fun L u W hJ hG hL hdep K hK => ?_
            have a0 := (show IsFs rR (u 0) [A.x] from hG 0 (hdep 0 (by kernel_rfl)))
            have a1 := (show IsFs rR (u 1) [A.z] from hG 1 (hdep 1 (by kernel_rfl)))
            go_simp
            go_at_call 32
            (with_reducible refine (kAdd a0 a1 _).mono ?_); rintro e w1 ⟨r, rfl, hr, hb⟩
            have hk := hK.out _ _ hr hb
            exact hk
          · exact step_alloc hs (wants_none rfl) rfl rfl (by omega) rfl allocFe
          · exact step_store 3 hs (by kernel_rfl) (wants_none rfl) rfl rfl rfl (by kernel_rfl) (by kernel_rfl) (by kernel_rfl) (by kernel_rfl) (fun _ => rfl) (gives_op 2 rfl (by kernel_rfl) (fun _ => rfl)) tyFe rfl
        intro L13 u13n W13n hall hJ hG
        obtain ⟨q14, e14, hq14, _, ht14⟩ := (show ∃ g, u13n 3 = .pointer (some ⟨g, 0, none⟩) ∧ W12n.heap.size ≤ g ∧ 0 < 16 ∧ W13n.there g 0 16 from hG 3 (by simp))
        have hm14 : HasFs rR W13n q14 0 [A.x + A.z] := by
          obtain ⟨g, e, _, h⟩ := (show ∃ g, u13n 3 = .pointer (some ⟨g, 0, none⟩) ∧ W12n.heap.size ≤ g ∧ HasFs rR W13n g 0 [A.x + A.z] from hG 4 (by simp))
          rw [e14] at e; cases e; exact h
        have HD14_q6 := Lib.hid (show q6 ≠ q14 by have := there_lt ht6' (by omega); omega)
        have HD14_q7 := Lib.hid (show q7 ≠ q14 by have := there_lt ht7' (by omega); omega)
        have HD14_q8 := Lib.hid (show q8 ≠ q14 by have := there_lt ht8' (by omega); omega)
        have HD14_q9 := Lib.hid (show q9 ≠ q14 by have := there_lt ht9' (by omega); omega)
        have HD14_q10 := Lib.hid (show q10 ≠ q14 by have := there_lt ht10' (by omega); omega)
        have HD14_wheapsize := Lib.hid (show w.heap.size ≠ q14 by have := there_lt htk' (by omega); omega)
        have hq14 : w.heap.size ≤ q14 := by have := hbel0.size; omega
        have E14 := Lib.hid e14; clear e14
        have hb := hJ.all rfl
        have hbel := Below.call hbel hb
        have hm6' := hm6'.later hb
        have hm7' := hm7'.later hb
        have hm8' := hm8'.later hb
        have hm9' := hm9'.later hb
        have hm10' := hm10'.later hb
        have ht6' := there_later ht6' hb
        have ht7' := there_later ht7' hb
        have ht8' := there_later ht8' hb
        have ht9' := there_later ht9' hb
        have ht10' := there_later ht10' hb
        have htk' := there_later htk' hb
        have hK' := Lib.hid (hK'.out.below' hb)
        have hbel0 := hbel
        clear hJ hG hall hb
        go_upto_region 14 with fail
        refine wp_region_turn (fun u => (.slice a n cap :: .slice b m cap' :: undef :: undef :: .slice none 0 0 :: .slice (some ⟨w.heap.size, 0, none⟩) 32 32 :: u2 2 :: u3 4 :: u3 5 :: u3 6 :: u3 7 :: u12n 1 :: .int .i64 (i : Int) :: .int .i64 (b2i bt) :: u13n 3 :: u 3 :: u16 :: u17 :: u18 :: u19 :: u20 :: u21 :: u22 :: .slice a n cap :: .slice (some ⟨w.heap.size, 0, none⟩) 32 32 :: u2 0 :: u2 1 :: u3 0 :: u3 1 :: u3 2 :: u3 3 :: .int .i64 (i : Int) :: .bool true :: u33 :: u34 :: .slice (some ⟨w.heap.size, 0, none⟩) 32 32 :: .int .i64 (i : Int) :: .int .i64 (↑i / 8) :: .pointer (some ⟨w.heap.size, i / 8, none⟩) :: .int .u8 (c.toNat : Int) :: .int .i64 (i : Int) :: .int .i64 (↑i % 8) :: .int .u8 (↑c.toNat / 2 ^ (i % 8)) :: .int .u8 (b2i bt) :: .int .i64 (b2i bt) :: .int .i64 (b2i was) :: .int .i64 (b2i bt) :: .bool false :: u48 :: u49 :: u50 :: u51 :: u12n 0 :: u13n 0 :: u13n 1 :: u13n 2 :: u 0 :: u 1 :: u 2 :: u59 :: u60 :: u61 :: u62 :: u63 :: u64 :: u65 :: u66 :: u67 :: u68 :: u69 :: u70 :: u71 :: u72 :: u73 :: u74 :: u75 :: u76 :: u77 :: u78 :: u79 :: u80 :: u81 :: u82 :: u83 :: u84 :: u85 :: u86 :: u87 :: u88 :: u89 :: u90 :: u91 :: u92 :: u93 :: u94 :: u95 :: u96 :: u97 :: u98 :: u99 :: u100 :: u101 :: u102 :: u103 :: undef :: undef :: undef :: undef :: undef :: undef :: undef :: undef :: undef :: []).toArray) (Holds [.val rR [A.x + A.z], .val rR [A.x + A.z], .val rR [(A.x + A.z) * (A.x + A.z)], .new 16, .st 3 rR [(A.x + A.z) * (A.x + A.z)]] W13n) (Keep [.val rR [A.x + A.z], .val rR [A.x + A.z], .val rR [(A.x + A.z) * (A.x + A.z)], .new 16, .st 3 rR [(A.x + A.z) * (A.x + A.z)]] W13n) (fun k => ([u56, u57, u58, u15, undef] : List Value).getD k undef) ?_ (by rfl) Keep.start (holds_soft (by kernel_rfl)) ?_ ?_
        · intro u i v h
          rcases i with _ | _ | _ | _ | _ | i
          all_goals first | (simp [Act.put, putV]; done) | (exfalso; simp at h; omega)
        · intro hs
          refine ⟨?_, ?_, ?_, ?_, ?_, trivial⟩
          · exact step_load q14 0 hs (wants_none rfl) rfl rfl tyFe (fun _ => E14.out) hm14.lt hm14 (noSto_apart (by kernel_rfl))
          · exact step_load q14 0 hs (wants_none rfl) rfl rfl tyFe (fun _ => E14.out) hm14.lt hm14 (noSto_apart (by kernel_rfl))
          · refine step_call hs (wants_none rfl) rfl fun L u W hJ hG hL hdep K hK => ?_
            have a0 := (show IsFs rR (u 0) [A.x + A.z] from hG 0 (hdep 0 (by kernel_rfl)))
            have a1 := (show IsFs rR (u 1) [A.x + A.z] from hG 1 (hdep 1 (by kernel_rfl)))
            go_simp
            go_at_call 33
            (with_reducible refine (kMul a0 a1 _).mono ?_); rintro e w1 ⟨r, rfl, hr, hb⟩
            have hk := hK.out _ _ hr hb
            exact hk
          · exact step_alloc hs (wants_none rfl) rfl rfl (by omega) rfl allocFe
          · exact step_store 3 hs (by kernel_rfl) (wants_none rfl) rfl rfl rfl (by kernel_rfl) (by kernel_rfl) (by kernel_rfl) (by kernel_rfl) (fun _ => rfl) (gives_op 2 rfl (by kernel_rfl) (fun _ => rfl)) tyFe rfl
        intro L14 u14n W14n hall hJ hG
        obtain ⟨q15, e15, hq15, _, ht15⟩ := (show ∃ g, u14n 3 = .pointer (some ⟨g, 0, none⟩) ∧ W13n.heap.size ≤ g ∧ 0 < 16 ∧ W14n.there g 0 16 from hG 3 (by simp))
        have hm15 : HasFs rR W14n q15 0 [(A.x + A.z) * (A.x + A.z)] := by
          obtain ⟨g, e, _, h⟩ := (show ∃ g, u14n 3 = .pointer (some ⟨g, 0, none⟩) ∧ W13n.heap.size ≤ g ∧ HasFs rR W14n g 0 [(A.x + A.z) * (A.x + A.z)] from hG 4 (by simp))
          rw [e15] at e; cases e; exact h
        have HD15_q6 := Lib.hid (show q6 ≠ q15 by have := there_lt ht6' (by omega); omega)
        have HD15_q7 := Lib.hid (show q7 ≠ q15 by have := there_lt ht7' (by omega); omega)
        have HD15_q8 := Lib.hid (show q8 ≠ q15 by have := there_lt ht8' (by omega); omega)
        have HD15_q9 := Lib.hid (show q9 ≠ q15 by have := there_lt ht9' (by omega); omega)
        have HD15_q10 := Lib.hid (show q10 ≠ q15 by have := there_lt ht10' (by omega); omega)
        have HD15_wheapsize := Lib.hid (show w.heap.size ≠ q15 by have := there_lt htk' (by omega); omega)
        have HD15_q14 := Lib.hid (show q14 ≠ q15 by have := there_lt ht14 (by omega); omega)
        have hq15 : w.heap.size ≤ q15 := by have := hbel0.size; omega
        have E15 := Lib.hid e15; clear e15
        have hb := hJ.all rfl
        have hbel := Below.call hbel hb
        have hm6' := hm6'.later hb
        have hm7' := hm7'.later hb
        have hm8' := hm8'.later hb
        have hm9' := hm9'.later hb
        have hm10' := hm10'.later hb
        have hm14 := hm14.later hb
        have ht6' := there_later ht6' hb
        have ht7' := there_later ht7' hb
        have ht8' := there_later ht8' hb
        have ht9' := there_later ht9' hb
        have ht10' := there_later ht10' hb
        have htk' := there_later htk' hb
        have ht14 := there_later ht14 hb
        have hK' := Lib.hid (hK'.out.below' hb)
        have hbel0 := hbel
        clear hJ hG hall hb
        go_upto_region 15 with fail
        refine wp_region_turn (fun u => (.slice a n cap :: .slice b m cap' :: undef :: undef :: .slice none 0 0 :: .slice (some ⟨w.heap.size, 0, none⟩) 32 32 :: u2 2 :: u3 4 :: u3 5 :: u3 6 :: u3 7 :: u12n 1 :: .int .i64 (i : Int) :: .int .i64 (b2i bt) :: u13n 3 :: u14n 3 :: u 3 :: u17 :: u18 :: u19 :: u20 :: u21 :: u22 :: .slice a n cap :: .slice (some ⟨w.heap.size, 0, none⟩) 32 32 :: u2 0 :: u2 1 :: u3 0 :: u3 1 :: u3 2 :: u3 3 :: .int .i64 (i : Int) :: .bool true :: u33 :: u34 :: .slice (some ⟨w.heap.size, 0, none⟩) 32 32 :: .int .i64 (i : Int) :: .int .i64 (↑i / 8) :: .pointer (some ⟨w.heap.size, i / 8, none⟩) :: .int .u8 (c.toNat : Int) :: .int .i64 (i : Int) :: .int .i64 (↑i % 8) :: .int .u8 (↑c.toNat / 2 ^ (i % 8)) :: .int .u8 (b2i bt) :: .int .i64 (b2i bt) :: .int .i64 (b2i was) :: .int .i64 (b2i bt) :: .bool false :: u48 :: u49 :: u50 :: u51 :: u12n 0 :: u13n 0 :: u13n 1 :: u13n 2 :: u14n 0 :: u14n 1 :: u14n 2 :: u 0 :: u 1 :: u 2 :: u62 :: u63 :: u64 :: u65 :: u66 :: u67 :: u68 :: u69 :: u70 :: u71 :: u72 :: u73 :: u74 :: u75 :: u76 :: u77 :: u78 :: u79 :: u80 :: u81 :: u82 :: u83 :: u84 :: u85 :: u86 :: u87 :: u88 :: u89 :: u90 :: u91 :: u92 :: u93 :: u94 :: u95 :: u96 :: u97 :: u98 :: u99 :: u100 :: u101 :: u102 :: u103 :: undef :: undef :: undef :: undef :: undef :: undef :: undef :: undef :: undef :: []).toArray) (Holds [.val rR [A.x], .val rR [A.z], .val rR [A.x - A.z], .new 16, .st 3 rR [A.x - A.z]] W14n) (Keep [.val rR [A.x], .val rR [A.z], .val rR [A.x - A.z], .new 16, .st 3 rR [A.x - A.z]] W14n) (fun k => ([u59, u60, u61, u16, undef] : List Value).getD k undef) ?_ (by rfl) Keep.start (holds_soft (by kernel_rfl)) ?_ ?_
        · intro u i v h
          rcases i with _ | _ | _ | _ | _ | i
          all_goals first | (simp [Act.put, putV]; done) | (exfalso; simp at h; omega)
        · intro hs
          refine ⟨?_, ?_, ?_, ?_, ?_, trivial⟩
          · exact step_load q7 0 hs (wants_none rfl) rfl rfl tyFe (fun _ => E7.out) hm7'.lt hm7' (noSto_apart (by kernel_rfl))
          · exact step_load q8 0 hs (wants_none rfl) rfl rfl tyFe (fun _ => E8.out) hm8'.lt hm8' (noSto_apart (by kernel_rfl))
          · refine step_call hs (wants_none rfl) rfl fun L u W hJ hG hL hdep K hK => ?_
            have a0 := (show IsFs rR (u 0) [A.x] from hG 0 (hdep 0 (by kernel_rfl)))
            have a1 := (show IsFs rR (u 1) [A.z] from hG 1 (hdep 1 (by kernel_rfl)))
            go_simp
            go_at_call 34
            (with_reducible refine (kSub a0 a1 _).mono ?_); rintro e w1 ⟨r, rfl, hr, hb⟩
            have hk := hK.out _ _ hr hb
            exact hk
          · exact step_alloc hs (wants_none rfl) rfl rfl (by omega) rfl allocFe
          · exact step_store 3 hs (by kernel_rfl) (wants_none rfl) rfl rfl rfl (by kernel_rfl) (by kernel_rfl) (by kernel_rfl) (by kernel_rfl) (fun _ => rfl) (gives_op 2 rfl (by kernel_rfl) (fun _ => rfl)) tyFe rfl
        intro L15 u15n W15n hall hJ hG
        obtain ⟨q16, e16, hq16, _, ht16⟩ := (show ∃ g, u15n 3 = .pointer (some ⟨g, 0, none⟩) ∧ W14n.heap.size ≤ g ∧ 0 < 16 ∧ W15n.there g 0 16 from hG 3 (by simp))
        have hm16 : HasFs rR W15n q16 0 [A.x - A.z] := by
          obtain ⟨g, e, _, h⟩ := (show ∃ g, u15n 3 = .pointer (some ⟨g, 0, none⟩) ∧ W14n.heap.size ≤ g ∧ HasFs rR W15n g 0 [A.x - A.z] from hG 4 (by simp))
          rw [e16] at e; cases e; exact h
        have HD16_q6 := Lib.hid (show q6 ≠ q16 by have := there_lt ht6' (by omega); omega)
        have HD16_q7 := Lib.hid (show q7 ≠ q16 by have := there_lt ht7' (by omega); omega)
        have HD16_q8 := Lib.hid (show q8 ≠ q16 by have := there_lt ht8' (by omega); omega)
        have HD16_q9 := Lib.hid (show q9 ≠ q16 by have := there_lt ht9' (by omega); omega)
        have HD16_q10 := Lib.hid (show q10 ≠ q16 by have := there_lt ht10' (by omega); omega)
        have HD16_wheapsize := Lib.hid (show w.heap.size ≠ q16 by have := there_lt htk' (by omega); omega)
        have HD16_q14 := Lib.hid (show q14 ≠ q16 by have := there_lt ht14 (by omega); omega)
        have HD16_q15 := Lib.hid (show q15 ≠ q16 by have := there_lt ht15 (by omega); omega)
        have hq16 : w.heap.size ≤ q16 := by have := hbel0.size; omega
        have E16 := Lib.hid e16; clear e16
        have hb := hJ.all rfl
        have hbel := Below.call hbel hb
        have hm6' := hm6'.later hb
        have hm7' := hm7'.later hb
        have hm8' := hm8'.later hb
        have hm9' := hm9'.later hb
        have hm10' := hm10'.later hb
        have hm14 := hm14.later hb
        have hm15 := hm15.later hb
        have ht6' := there_later ht6' hb
        have ht7' := there_later ht7' hb
        have ht8' := there_later ht8' hb
        have ht9' := there_later ht9' hb
        have ht10' := there_later ht10' hb
        have htk' := there_later htk' hb
        have ht14 := there_later ht14 hb
        have ht15 := there_later ht15 hb
        have hK' := Lib.hid (hK'.out.below' hb)
        have hbel0 := hbel
        clear hJ hG hall hb
        go_upto_region 16 with fail
        refine wp_region_turn (fun u => (.slice a n cap :: .slice b m cap' :: undef :: undef :: .slice none 0 0 :: .slice (some ⟨w.heap.size, 0, none⟩) 32 32 :: u2 2 :: u3 4 :: u3 5 :: u3 6 :: u3 7 :: u12n 1 :: .int .i64 (i : Int) :: .int .i64 (b2i bt) :: u13n 3 :: u14n 3 :: u15n 3 :: u 3 :: u18 :: u19 :: u20 :: u21 :: u22 :: .slice a n cap :: .slice (some ⟨w.heap.size, 0, none⟩) 32 32 :: u2 0 :: u2 1 :: u3 0 :: u3 1 :: u3 2 :: u3 3 :: .int .i64 (i : Int) :: .bool true :: u33 :: u34 :: .slice (some ⟨w.heap.size, 0, none⟩) 32 32 :: .int .i64 (i : Int) :: .int .i64 (↑i / 8) :: .pointer (some ⟨w.heap.size, i / 8, none⟩) :: .int .u8 (c.toNat : Int) :: .int .i64 (i : Int) :: .int .i64 (↑i % 8) :: .int .u8 (↑c.toNat / 2 ^ (i % 8)) :: .int .u8 (b2i bt) :: .int .i64 (b2i bt) :: .int .i64 (b2i was) :: .int .i64 (b2i bt) :: .bool false :: u48 :: u49 :: u50 :: u51 :: u12n 0 :: u13n 0 :: u13n 1 :: u13n 2 :: u14n 0 :: u14n 1 :: u14n 2 :: u15n 0 :: u15n 1 :: u15n 2 :: u 0 :: u 1 :: u 2 :: u65 :: u66 :: u67 :: u68 :: u69 :: u70 :: u71 :: u72 :: u73 :: u74 :: u75 :: u76 :: u77 :: u78 :: u79 :: u80 :: u81 :: u82 :: u83 :: u84 :: u85 :: u86 :: u87 :: u88 :: u89 :: u90 :: u91 :: u92 :: u93 :: u94 :: u95 :: u96 :: u97 :: u98 :: u99 :: u100 :: u101 :: u102 :: u103 :: undef :: undef :: undef :: undef :: undef :: undef :: undef :: undef :: undef :: []).toArray) (Holds [.val rR [A.x - A.z], .val rR [A.x - A.z], .val rR [(A.x - A.z) * (A.x - A.z)], .new 16, .st 3 rR [(A.x - A.z) * (A.x - A.z)]] W15n) (Keep [.val rR [A.x - A.z], .val rR [A.x - A.z], .val rR [(A.x - A.z) * (A.x - A.z)], .new 16, .st 3 rR [(A.x - A.z) * (A.x - A.z)]] W15n) (fun k => ([u62, u63, u64, u17, undef] : List Value).getD k undef) ?_ (by rfl) Keep.start (holds_soft (by kernel_rfl)) ?_ ?_
        · intro u i v h
          rcases i with _ | _ | _ | _ | _ | i
          all_goals first | (simp [Act.put, putV]; done) | (exfalso; simp at h; omega)
        · intro hs
          refine ⟨?_, ?_, ?_, ?_, ?_, trivial⟩
          · exact step_load q16 0 hs (wants_none rfl) rfl rfl tyFe (fun _ => E16.out) hm16.lt hm16 (noSto_apart (by kernel_rfl))
          · exact step_load q16 0 hs (wants_none rfl) rfl rfl tyFe (fun _ => E16.out) hm16.lt hm16 (noSto_apart (by kernel_rfl))
          · refine step_call hs (wants_none rfl) rfl fun L u W hJ hG hL hdep K hK => ?_
            have a0 := (show IsFs rR (u 0) [A.x - A.z] from hG 0 (hdep 0 (by kernel_rfl)))
            have a1 := (show IsFs rR (u 1) [A.x - A.z] from hG 1 (hdep 1 (by kernel_rfl)))
            go_simp
            go_at_call 33
            (with_reducible refine (kMul a0 a1 _).mono ?_); rintro e w1 ⟨r, rfl, hr, hb⟩
            have hk := hK.out _ _ hr hb
            exact hk
          · exact step_alloc hs (wants_none rfl) rfl rfl (by omega) rfl allocFe
          · exact step_store 3 hs (by kernel_rfl) (wants_none rfl) rfl rfl rfl (by kernel_rfl) (by kernel_rfl) (by kernel_rfl) (by kernel_rfl) (fun _ => rfl) (gives_op 2 rfl (by kernel_rfl) (fun _ => rfl)) tyFe rfl
        intro L16 u16n W16n hall hJ hG
        obtain ⟨q17, e17, hq17, _, ht17⟩ := (show ∃ g, u16n 3 = .pointer (some ⟨g, 0, none⟩) ∧ W15n.heap.size ≤ g ∧ 0 < 16 ∧ W16n.there g 0 16 from hG 3 (by simp))
        have hm17 : HasFs rR W16n q17 0 [(A.x - A.z) * (A.x - A.z)] := by
          obtain ⟨g, e, _, h⟩ := (show ∃ g, u16n 3 = .pointer (some ⟨g, 0, none⟩) ∧ W15n.heap.size ≤ g ∧ HasFs rR W16n g 0 [(A.x - A.z) * (A.x - A.z)] from hG 4 (by simp))
          rw [e17] at e; cases e; exact h
        have HD17_q6 := Lib.hid (show q6 ≠ q17 by have := there_lt ht6' (by omega); omega)
        have HD17_q7 := Lib.hid (show q7 ≠ q17 by have := there_lt ht7' (by omega); omega)
        have HD17_q8 := Lib.hid (show q8 ≠ q17 by have := there_lt ht8' (by omega); omega)
        have HD17_q9 := Lib.hid (show q9 ≠ q17 by have := there_lt ht9' (by omega); omega)
        have HD17_q10 := Lib.hid (show q10 ≠ q17 by have := there_lt ht10' (by omega); omega)
        have HD17_wheapsize := Lib.hid (show w.heap.size ≠ q17 by have := there_lt htk' (by omega); omega)
        have HD17_q14 := Lib.hid (show q14 ≠ q17 by have := there_lt ht14 (by omega); omega)
        have HD17_q15 := Lib.hid (show q15 ≠ q17 by have := there_lt ht15 (by omega); omega)
        have HD17_q16 := Lib.hid (show q16 ≠ q17 by have := there_lt ht16 (by omega); omega)
        have hq17 : w.heap.size ≤ q17 := by have := hbel0.size; omega
        have E17 := Lib.hid e17; clear e17
        have hb := hJ.all rfl
        have hbel := Below.call hbel hb
        have hm6' := hm6'.later hb
        have hm7' := hm7'.later hb
        have hm8' := hm8'.later hb
        have hm9' := hm9'.later hb
        have hm10' := hm10'.later hb
        have hm14 := hm14.later hb
        have hm15 := hm15.later hb
        have hm16 := hm16.later hb
        have ht6' := there_later ht6' hb
        have ht7' := there_later ht7' hb
        have ht8' := there_later ht8' hb
        have ht9' := there_later ht9' hb
        have ht10' := there_later ht10' hb
        have htk' := there_later htk' hb
        have ht14 := there_later ht14 hb
        have ht15 := there_later ht15 hb
        have ht16 := there_later ht16 hb
        have hK' := Lib.hid (hK'.out.below' hb)
        have hbel0 := hbel
        clear hJ hG hall hb
        go_upto_region 17 with fail
        refine wp_region_turn (fun u => (.slice a n cap :: .slice b m cap' :: undef :: undef :: .slice none 0 0 :: .slice (some ⟨w.heap.size, 0, none⟩) 32 32 :: u2 2 :: u3 4 :: u3 5 :: u3 6 :: u3 7 :: u12n 1 :: .int .i64 (i : Int) :: .int .i64 (b2i bt) :: u13n 3 :: u14n 3 :: u15n 3 :: u16n 3 :: u 3 :: u19 :: u20 :: u21 :: u22 :: .slice a n cap :: .slice (some ⟨w.heap.size, 0, none⟩) 32 32 :: u2 0 :: u2 1 :: u3 0 :: u3 1 :: u3 2 :: u3 3 :: .int .i64 (i : Int) :: .bool true :: u33 :: u34 :: .slice (some ⟨w.heap.size, 0, none⟩) 32 32 :: .int .i64 (i : Int) :: .int .i64 (↑i / 8) :: .pointer (some ⟨w.heap.size, i / 8, none⟩) :: .int .u8 (c.toNat : Int) :: .int .i64 (i : Int) :: .int .i64 (↑i % 8) :: .int .u8 (↑c.toNat / 2 ^ (i % 8)) :: .int .u8 (b2i bt) :: .int .i64 (b2i bt) :: .int .i64 (b2i was) :: .int .i64 (b2i bt) :: .bool false :: u48 :: u49 :: u50 :: u51 :: u12n 0 :: u13n 0 :: u13n 1 :: u13n 2 :: u14n 0 :: u14n 1 :: u14n 2 :: u15n 0 :: u15n 1 :: u15n 2 :: u16n 0 :: u16n 1 :: u16n 2 :: u 0 :: u 1 :: u 2 :: u68 :: u69 :: u70 :: u71 :: u72 :: u73 :: u74 :: u75 :: u76 :: u77 :: u78 :: u79 :: u80 :: u81 :: u82 :: u83 :: u84 :: u85 :: u86 :: u87 :: u88 :: u89 :: u90 :: u91 :: u92 :: u93 :: u94 :: u95 :: u96 :: u97 :: u98 :: u99 :: u100 :: u101 :: u102 :: u103 :: undef :: undef :: undef :: undef :: undef :: undef :: undef :: undef :: undef :: []).toArray) (Holds [.val rR [(A.x + A.z) * (A.x + A.z)], .val rR [(A.x - A.z) * (A.x - A.z)], .val rR [((A.x + A.z) * (A.x + A.z)) - ((A.x - A.z) * (A.x - A.z))], .new 16, .st 3 rR [((A.x + A.z) * (A.x + A.z)) - ((A.x - A.z) * (A.x - A.z))]] W16n) (Keep [.val rR [(A.x + A.z) * (A.x + A.z)], .val rR [(A.x - A.z) * (A.x - A.z)], .val rR [((A.x + A.z) * (A.x + A.z)) - ((A.x - A.z) * (A.x - A.z))], .new 16, .st 3 rR [((A.x + A.z) * (A.x + A.z)) - ((A.x - A.z) * (A.x - A.z))]] W16n) (fun k => ([u65, u66, u67, u18, undef] : List Value).getD k undef) ?_ (by rfl) Keep.start (holds_soft (by kernel_rfl)) ?_ ?_
        · intro u i v h
          rcases i with _ | _ | _ | _ | _ | i
          all_goals first | (simp [Act.put, putV]; done) | (exfalso; simp at h; omega)
        · intro hs
          refine ⟨?_, ?_, ?_, ?_, ?_, trivial⟩
          · exact step_load q15 0 hs (wants_none rfl) rfl rfl tyFe (fun _ => E15.out) hm15.lt hm15 (noSto_apart (by kernel_rfl))
          · exact step_load q17 0 hs (wants_none rfl) rfl rfl tyFe (fun _ => E17.out) hm17.lt hm17 (noSto_apart (by kernel_rfl))
          · refine step_call hs (wants_none rfl) rfl fun L u W hJ hG hL hdep K hK => ?_
            have a0 := (show IsFs rR (u 0) [(A.x + A.z) * (A.x + A.z)] from hG 0 (hdep 0 (by kernel_rfl)))
            have a1 := (show IsFs rR (u 1) [(A.x - A.z) * (A.x - A.z)] from hG 1 (hdep 1 (by kernel_rfl)))
            go_simp
            go_at_call 34
            (with_reducible refine (kSub a0 a1 _).mono ?_); rintro e w1 ⟨r, rfl, hr, hb⟩
            have hk := hK.out _ _ hr hb
            exact hk
          · exact step_alloc hs (wants_none rfl) rfl rfl (by omega) rfl allocFe
          · exact step_store 3 hs (by kernel_rfl) (wants_none rfl) rfl rfl rfl (by kernel_rfl) (by kernel_rfl) (by kernel_rfl) (by kernel_rfl) (fun _ => rfl) (gives_op 2 rfl (by kernel_rfl) (fun _ => rfl)) tyFe rfl
        intro L17 u17n W17n hall hJ hG
        obtain ⟨q18, e18, hq18, _, ht18⟩ := (show ∃ g, u17n 3 = .pointer (some ⟨g, 0, none⟩) ∧ W16n.heap.size ≤ g ∧ 0 < 16 ∧ W17n.there g 0 16 from hG 3 (by simp))
        have hm18 : HasFs rR W17n q18 0 [((A.x + A.z) * (A.x + A.z)) - ((A.x - A.z) * (A.x - A.z))] := by
          obtain ⟨g, e, _, h⟩ := (show ∃ g, u17n 3 = .pointer (some ⟨g, 0, none⟩) ∧ W16n.heap.size ≤ g ∧ HasFs rR W17n g 0 [((A.x + A.z) * (A.x + A.z)) - ((A.x - A.z) * (A.x - A.z))] from hG 4 (by simp))
          rw [e18] at e; cases e; exact h
        have HD18_q6 := Lib.hid (show q6 ≠ q18 by have := there_lt ht6' (by omega); omega)
        have HD18_q7 := Lib.hid (show q7 ≠ q18 by have := there_lt ht7' (by omega); omega)
        have HD18_q8 := Lib.hid (show q8 ≠ q18 by have := there_lt ht8' (by omega); omega)
        have HD18_q9 := Lib.hid (show q9 ≠ q18 by have := there_lt ht9' (by omega); omega)
        have HD18_q10 := Lib.hid (show q10 ≠ q18 by have := there_lt ht10' (by omega); omega)
        have HD18_wheapsize := Lib.hid (show w.heap.size ≠ q18 by have := there_lt htk' (by omega); omega)
        have HD18_q14 := Lib.hid (show q14 ≠ q18 by have := there_lt ht14 (by omega); omega)
        have HD18_q15 := Lib.hid (show q15 ≠ q18 by have := there_lt ht15 (by omega); omega)
        have HD18_q16 := Lib.hid (show q16 ≠ q18 by have := there_lt ht16 (by omega); omega)
        have HD18_q17 := Lib.hid (show q17 ≠ q18 by have := there_lt ht17 (by omega); omega)
        have hq18 : w.heap.size ≤ q18 := by have := hbel0.size; omega
        have E18 := Lib.hid e18; clear e18
        have hb := hJ.all rfl
        have hbel := Below.call hbel hb
        have hm6' := hm6'.later hb
        have hm7' := hm7'.later hb
        have hm8' := hm8'.later hb
        have hm9' := hm9'.later hb
        have hm10' := hm10'.later hb
        have hm14 := hm14.later hb
        have hm15 := hm15.later hb
        have hm16 := hm16.later hb
        have hm17 := hm17.later hb
        have ht6' := there_later ht6' hb
        have ht7' := there_later ht7' hb
        have ht8' := there_later ht8' hb
        have ht9' := there_later ht9' hb
        have ht10' := there_later ht10' hb
        have htk' := there_later htk' hb
        have ht14 := there_later ht14 hb
        have ht15 := there_later ht15 hb
        have ht16 := there_later ht16 hb
        have ht17 := there_later ht17 hb
        have hK' := Lib.hid (hK'.out.below' hb)
        have hbel0 := hbel
        clear hJ hG hall hb
        go_upto_region 18 with fail
        refine wp_region_turn (fun u => (.slice a n cap :: .slice b m cap' :: undef :: undef :: .slice none 0 0 :: .slice (some ⟨w.heap.size, 0, none⟩) 32 32 :: u2 2 :: u3 4 :: u3 5 :: u3 6 :: u3 7 :: u12n 1 :: .int .i64 (i : Int) :: .int .i64 (b2i bt) :: u13n 3 :: u14n 3 :: u15n 3 :: u16n 3 :: u17n 3 :: u 3 :: u20 :: u21 :: u22 :: .slice a n cap :: .slice (some ⟨w.heap.size, 0, none⟩) 32 32 :: u2 0 :: u2 1 :: u3 0 :: u3 1 :: u3 2 :: u3 3 :: .int .i64 (i : Int) :: .bool true :: u33 :: u34 :: .slice (some ⟨w.heap.size, 0, none⟩) 32 32 :: .int .i64 (i : Int) :: .int .i64 (↑i / 8) :: .pointer (some ⟨w.heap.size, i / 8, none⟩) :: .int .u8 (c.toNat : Int) :: .int .i64 (i : Int) :: .int .i64 (↑i % 8) :: .int .u8 (↑c.toNat / 2 ^ (i % 8)) :: .int .u8 (b2i bt) :: .int .i64 (b2i bt) :: .int .i64 (b2i was) :: .int .i64 (b2i bt) :: .bool false :: u48 :: u49 :: u50 :: u51 :: u12n 0 :: u13n 0 :: u13n 1 :: u13n 2 :: u14n 0 :: u14n 1 :: u14n 2 :: u15n 0 :: u15n 1 :: u15n 2 :: u16n 0 :: u16n 1 :: u16n 2 :: u17n 0 :: u17n 1 :: u17n 2 :: u 0 :: u 1 :: u 2 :: u71 :: u72 :: u73 :: u74 :: u75 :: u76 :: u77 :: u78 :: u79 :: u80 :: u81 :: u82 :: u83 :: u84 :: u85 :: u86 :: u87 :: u88 :: u89 :: u90 :: u91 :: u92 :: u93 :: u94 :: u95 :: u96 :: u97 :: u98 :: u99 :: u100 :: u101 :: u102 :: u103 :: undef :: undef :: undef :: undef :: undef :: undef :: undef :: undef :: undef :: []).toArray) (Holds [.val rR [B.x], .val rR [B.z], .val rR [B.x + B.z], .new 16, .st 3 rR [B.x + B.z]] W17n) (Keep [.val rR [B.x], .val rR [B.z], .val rR [B.x + B.z], .new 16, .st 3 rR [B.x + B.z]] W17n) (fun k => ([u68, u69, u70, u19, undef] : List Value).getD k undef) ?_ (by rfl) Keep.start (holds_soft (by kernel_rfl)) ?_ ?_
        · intro u i v h
          rcases i with _ | _ | _ | _ | _ | i
          all_goals first | (simp [Act.put, putV]; done) | (exfalso; simp at h; omega)
        · intro hs
          refine ⟨?_, ?_, ?_, ?_, ?_, trivial⟩
          · exact step_load q9 0 hs (wants_none rfl) rfl rfl tyFe (fun _ => E9.out) hm9'.lt hm9' (noSto_apart (by kernel_rfl))
          · exact step_load q10 0 hs (wants_none rfl) rfl rfl tyFe (fun _ => E10.out) hm10'.lt hm10' (noSto_apart (by kernel_rfl))
          · refine step_call hs (wants_none rfl) rfl fun L u W hJ hG hL hdep K hK => ?_
            have a0 := (show IsFs rR (u 0) [B.x] from hG 0 (hdep 0 (by kernel_rfl)))
            have a1 := (show IsFs rR (u 1) [B.z] from hG 1 (hdep 1 (by kernel_rfl)))
            go_simp
            go_at_call 32
            (with_reducible refine (kAdd a0 a1 _).mono ?_); rintro e w1 ⟨r, rfl, hr, hb⟩
            have hk := hK.out _ _ hr hb
            exact hk
          · exact step_alloc hs (wants_none rfl) rfl rfl (by omega) rfl allocFe
          · exact step_store 3 hs (by kernel_rfl) (wants_none rfl) rfl rfl rfl (by kernel_rfl) (by kernel_rfl) (by kernel_rfl) (by kernel_rfl) (fun _ => rfl) (gives_op 2 rfl (by kernel_rfl) (fun _ => rfl)) tyFe rfl
        intro L18 u18n W18n hall hJ hG
        obtain ⟨q19, e19, hq19, _, ht19⟩ := (show ∃ g, u18n 3 = .pointer (some ⟨g, 0, none⟩) ∧ W17n.heap.size ≤ g ∧ 0 < 16 ∧ W18n.there g 0 16 from hG 3 (by simp))
        have hm19 : HasFs rR W18n q19 0 [B.x + B.z] := by
          obtain ⟨g, e, _, h⟩ := (show ∃ g, u18n 3 = .pointer (some ⟨g, 0, none⟩) ∧ W17n.heap.size ≤ g ∧ HasFs rR W18n g 0 [B.x + B.z] from hG 4 (by simp))
          rw [e19] at e; cases e; exact h
        have HD19_q6 := Lib.hid (show q6 ≠ q19 by have := there_lt ht6' (by omega); omega)
        have HD19_q7 := Lib.hid (show q7 ≠ q19 by have := there_lt ht7' (by omega); omega)
        have HD19_q8 := Lib.hid (show q8 ≠ q19 by have := there_lt ht8' (by omega); omega)
        have HD19_q9 := Lib.hid (show q9 ≠ q19 by have := there_lt ht9' (by omega); omega)
        have HD19_q10 := Lib.hid (show q10 ≠ q19 by have := there_lt ht10' (by omega); omega)
        have HD19_wheapsize := Lib.hid (show w.heap.size ≠ q19 by have := there_lt htk' (by omega); omega)
        have HD19_q14 := Lib.hid (show q14 ≠ q19 by have := there_lt ht14 (by omega); omega)
        have HD19_q15 := Lib.hid (show q15 ≠ q19 by have := there_lt ht15 (by omega); omega)
        have HD19_q16 := Lib.hid (show q16 ≠ q19 by have := there_lt ht16 (by omega); omega)
        have HD19_q17 := Lib.hid (show q17 ≠ q19 by have := there_lt ht17 (by omega); omega)
        have HD19_q18 := Lib.hid (show q18 ≠ q19 by have := there_lt ht18 (by omega); omega)
        have hq19 : w.heap.size ≤ q19 := by have := hbel0.size; omega
        have E19 := Lib.hid e19; clear e19
        have hb := hJ.all rfl
        have hbel := Below.call hbel hb
        have hm6' := hm6'.later hb
        have hm7' := hm7'.later hb
        have hm8' := hm8'.later hb
        have hm9' := hm9'.later hb
        have hm10' := hm10'.later hb
        have hm14 := hm14.later hb
        have hm15 := hm15.later hb
        have hm16 := hm16.later hb
        have hm17 := hm17.later hb
        have hm18 := hm18.later hb
        have ht6' := there_later ht6' hb
        have ht7' := there_later ht7' hb
        have ht8' := there_later ht8' hb
        have ht9' := there_later ht9' hb
        have ht10' := there_later ht10' hb
        have htk' := there_later htk' hb
        have ht14 := there_later ht14 hb
        have ht15 := there_later ht15 hb
        have ht16 := there_later ht16 hb
        have ht17 := there_later ht17 hb
        have ht18 := there_later ht18 hb
        have hK' := Lib.hid (hK'.out.below' hb)
        have hbel0 := hbel
        clear hJ hG hall hb
        go_upto_region 19 with fail
        refine wp_region_turn (fun u => (.slice a n cap :: .slice b m cap' :: undef :: undef :: .slice none 0 0 :: .slice (some ⟨w.heap.size, 0, none⟩) 32 32 :: u2 2 :: u3 4 :: u3 5 :: u3 6 :: u3 7 :: u12n 1 :: .int .i64 (i : Int) :: .int .i64 (b2i bt) :: u13n 3 :: u14n 3 :: u15n 3 :: u16n 3 :: u17n 3 :: u18n 3 :: u 3 :: u21 :: u22 :: .slice a n cap :: .slice (some ⟨w.heap.size, 0, none⟩) 32 32 :: u2 0 :: u2 1 :: u3 0 :: u3 1 :: u3 2 :: u3 3 :: .int .i64 (i : Int) :: .bool true :: u33 :: u34 :: .slice (some ⟨w.heap.size, 0, none⟩) 32 32 :: .int .i64 (i : Int) :: .int .i64 (↑i / 8) :: .pointer (some ⟨w.heap.size, i / 8, none⟩) :: .int .u8 (c.toNat : Int) :: .int .i64 (i : Int) :: .int .i64 (↑i % 8) :: .int .u8 (↑c.toNat / 2 ^ (i % 8)) :: .int .u8 (b2i bt) :: .int .i64 (b2i bt) :: .int .i64 (b2i was) :: .int .i64 (b2i bt) :: .bool false :: u48 :: u49 :: u50 :: u51 :: u12n 0 :: u13n 0 :: u13n 1 :: u13n 2 :: u14n 0 :: u14n 1 :: u14n 2 :: u15n 0 :: u15n 1 :: u15n 2 :: u16n 0 :: u16n 1 :: u16n 2 :: u17n 0 :: u17n 1 :: u17n 2 :: u18n 0 :: u18n 1 :: u18n 2 :: u 0 :: u 1 :: u 2 :: u74 :: u75 :: u76 :: u77 :: u78 :: u79 :: u80 :: u81 :: u82 :: u83 :: u84 :: u85 :: u86 :: u87 :: u88 :: u89 :: u90 :: u91 :: u92 :: u93 :: u94 :: u95 :: u96 :: u97 :: u98 :: u99 :: u100 :: u101 :: u102 :: u103 :: undef :: undef :: undef :: undef :: undef :: undef :: undef :: undef :: undef :: []).toArray) (Holds [.val rR [B.x], .val rR [B.z], .val rR [B.x - B.z], .new 16, .st 3 rR [B.x - B.z]] W18n) (Keep [.val rR [B.x], .val rR [B.z], .val rR [B.x - B.z], .new 16, .st 3 rR [B.x - B.z]] W18n) (fun k => ([u71, u72, u73, u20, undef] : List Value).getD k undef) ?_ (by rfl) Keep.start (holds_soft (by kernel_rfl)) ?_ ?_
        · intro u i v h
          rcases i with _ | _ | _ | _ | _ | i
          all_goals first | (simp [Act.put, putV]; done) | (exfalso; simp at h; omega)
        · intro hs
          refine ⟨?_, ?_, ?_, ?_, ?_, trivial⟩
          · exact step_load q9 0 hs (wants_none rfl) rfl rfl tyFe (fun _ => E9.out) hm9'.lt hm9' (noSto_apart (by kernel_rfl))
          · exact step_load q10 0 hs (wants_none rfl) rfl rfl tyFe (fun _ => E10.out) hm10'.lt hm10' (noSto_apart (by kernel_rfl))
          · refine step_call hs (wants_none rfl) rfl fun L u W hJ hG hL hdep K hK => ?_
            have a0 := (show IsFs rR (u 0) [B.x] from hG 0 (hdep 0 (by kernel_rfl)))
            have a1 := (show IsFs rR (u 1) [B.z] from hG 1 (hdep 1 (by kernel_rfl)))
            go_simp
            go_at_call 34
            (with_reducible refine (kSub a0 a1 _).mono ?_); rintro e w1 ⟨r, rfl, hr, hb⟩
            have hk := hK.out _ _ hr hb
            exact hk
          · exact step_alloc hs (wants_none rfl) rfl rfl (by omega) rfl allocFe
          · exact step_store 3 hs (by kernel_rfl) (wants_none rfl) rfl rfl rfl (by kernel_rfl) (by kernel_rfl) (by kernel_rfl) (by kernel_rfl) (fun _ => rfl) (gives_op 2 rfl (by kernel_rfl) (fun _ => rfl)) tyFe rfl
        intro L19 u19n W19n hall hJ hG
        obtain ⟨q20, e20, hq20, _, ht20⟩ := (show ∃ g, u19n 3 = .pointer (some ⟨g, 0, none⟩) ∧ W18n.heap.size ≤ g ∧ 0 < 16 ∧ W19n.there g 0 16 from hG 3 (by simp))
        have hm20 : HasFs rR W19n q20 0 [B.x - B.z] := by
          obtain ⟨g, e, _, h⟩ := (show ∃ g, u19n 3 = .pointer (some ⟨g, 0, none⟩) ∧ W18n.heap.size ≤ g ∧ HasFs rR W19n g 0 [B.x - B.z] from hG 4 (by simp))
          rw [e20] at e; cases e; exact h
        have HD20_q6 := Lib.hid (show q6 ≠ q20 by have := there_lt ht6' (by omega); omega)
        have HD20_q7 := Lib.hid (show q7 ≠ q20 by have := there_lt ht7' (by omega); omega)
        have HD20_q8 := Lib.hid (show q8 ≠ q20 by have := there_lt ht8' (by omega); omega)
        have HD20_q9 := Lib.hid (show q9 ≠ q20 by have := there_lt ht9' (by omega); omega)
        have HD20_q10 := Lib.hid (show q10 ≠ q20 by have := there_lt ht10' (by omega); omega)
        have HD20_wheapsize := Lib.hid (show w.heap.size ≠ q20 by have := there_lt htk' (by omega); omega)
        have HD20_q14 := Lib.hid (show q14 ≠ q20 by have := there_lt ht14 (by omega); omega)
        have HD20_q15 := Lib.hid (show q15 ≠ q20 by have := there_lt ht15 (by omega); omega)
        have HD20_q16 := Lib.hid (show q16 ≠ q20 by have := there_lt ht16 (by omega); omega)
        have HD20_q17 := Lib.hid (show q17 ≠ q20 by have := there_lt ht17 (by omega); omega)
        have HD20_q18 := Lib.hid (show q18 ≠ q20 by have := there_lt ht18 (by omega); omega)
        have HD20_q19 := Lib.hid (show q19 ≠ q20 by have := there_lt ht19 (by omega); omega)
        have hq20 : w.heap.size ≤ q20 := by have := hbel0.size; omega
        have E20 := Lib.hid e20; clear e20
        have hb := hJ.all rfl
        have hbel := Below.call hbel hb
        have hm6' := hm6'.later hb
        have hm7' := hm7'.later hb
        have hm8' := hm8'.later hb
        have hm9' := hm9'.later hb
        have hm10' := hm10'.later hb
        have hm14 := hm14.later hb
        have hm15 := hm15.later hb
        have hm16 := hm16.later hb
        have hm17 := hm17.later hb
        have hm18 := hm18.later hb
        have hm19 := hm19.later hb
        have ht6' := there_later ht6' hb
        have ht7' := there_later ht7' hb
        have ht8' := there_later ht8' hb
        have ht9' := there_later ht9' hb
        have ht10' := there_later ht10' hb
        have htk' := there_later htk' hb
        have ht14 := there_later ht14 hb
        have ht15 := there_later ht15 hb
        have ht16 := there_later ht16 hb
        have ht17 := there_later ht17 hb
        have ht18 := there_later ht18 hb
        have ht19 := there_later ht19 hb
        have hK' := Lib.hid (hK'.out.below' hb)
        have hbel0 := hbel
        clear hJ hG hall hb
        go_upto_region 20 with fail
        refine wp_region_turn (fun u => (.slice a n cap :: .slice b m cap' :: undef :: undef :: .slice none 0 0 :: .slice (some ⟨w.heap.size, 0, none⟩) 32 32 :: u2 2 :: u3 4 :: u3 5 :: u3 6 :: u3 7 :: u12n 1 :: .int .i64 (i : Int) :: .int .i64 (b2i bt) :: u13n 3 :: u14n 3 :: u15n 3 :: u16n 3 :: u17n 3 :: u18n 3 :: u19n 3 :: u 3 :: u22 :: .slice a n cap :: .slice (some ⟨w.heap.size, 0, none⟩) 32 32 :: u2 0 :: u2 1 :: u3 0 :: u3 1 :: u3 2 :: u3 3 :: .int .i64 (i : Int) :: .bool true :: u33 :: u34 :: .slice (some ⟨w.heap.size, 0, none⟩) 32 32 :: .int .i64 (i : Int) :: .int .i64 (↑i / 8) :: .pointer (some ⟨w.heap.size, i / 8, none⟩) :: .int .u8 (c.toNat : Int) :: .int .i64 (i : Int) :: .int .i64 (↑i % 8) :: .int .u8 (↑c.toNat / 2 ^ (i % 8)) :: .int .u8 (b2i bt) :: .int .i64 (b2i bt) :: .int .i64 (b2i was) :: .int .i64 (b2i bt) :: .bool false :: u48 :: u49 :: u50 :: u51 :: u12n 0 :: u13n 0 :: u13n 1 :: u13n 2 :: u14n 0 :: u14n 1 :: u14n 2 :: u15n 0 :: u15n 1 :: u15n 2 :: u16n 0 :: u16n 1 :: u16n 2 :: u17n 0 :: u17n 1 :: u17n 2 :: u18n 0 :: u18n 1 :: u18n 2 :: u19n 0 :: u19n 1 :: u19n 2 :: u 0 :: u 1 :: u 2 :: u77 :: u78 :: u79 :: u80 :: u81 :: u82 :: u83 :: u84 :: u85 :: u86 :: u87 :: u88 :: u89 :: u90 :: u91 :: u92 :: u93 :: u94 :: u95 :: u96 :: u97 :: u98 :: u99 :: u100 :: u101 :: u102 :: u103 :: undef :: undef :: undef :: undef :: undef :: undef :: undef :: undef :: undef :: []).toArray) (Holds [.val rR [B.x - B.z], .val rR [A.x + A.z], .val rR [(B.x - B.z) * (A.x + A.z)], .new 16, .st 3 rR [(B.x - B.z) * (A.x + A.z)]] W19n) (Keep [.val rR [B.x - B.z], .val rR [A.x + A.z], .val rR [(B.x - B.z) * (A.x + A.z)], .new 16, .st 3 rR [(B.x - B.z) * (A.x + A.z)]] W19n) (fun k => ([u74, u75, u76, u21, undef] : List Value).getD k undef) ?_ (by rfl) Keep.start (holds_soft (by kernel_rfl)) ?_ ?_
        · intro u i v h
          rcases i with _ | _ | _ | _ | _ | i
          all_goals first | (simp [Act.put, putV]; done) | (exfalso; simp at h; omega)
        · intro hs
          refine ⟨?_, ?_, ?_, ?_, ?_, trivial⟩
          · exact step_load q20 0 hs (wants_none rfl) rfl rfl tyFe (fun _ => E20.out) hm20.lt hm20 (noSto_apart (by kernel_rfl))
          · exact step_load q14 0 hs (wants_none rfl) rfl rfl tyFe (fun _ => E14.out) hm14.lt hm14 (noSto_apart (by kernel_rfl))
          · refine step_call hs (wants_none rfl) rfl fun L u W hJ hG hL hdep K hK => ?_
            have a0 := (show IsFs rR (u 0) [B.x - B.z] from hG 0 (hdep 0 (by kernel_rfl)))
            have a1 := (show IsFs rR (u 1) [A.x + A.z] from hG 1 (hdep 1 (by kernel_rfl)))
            go_simp
            go_at_call 33
            (with_reducible refine (kMul a0 a1 _).mono ?_); rintro e w1 ⟨r, rfl, hr, hb⟩
            have hk := hK.out _ _ hr hb
            exact hk
          · exact step_alloc hs (wants_none rfl) rfl rfl (by omega) rfl allocFe
          · exact step_store 3 hs (by kernel_rfl) (wants_none rfl) rfl rfl rfl (by kernel_rfl) (by kernel_rfl) (by kernel_rfl) (by kernel_rfl) (fun _ => rfl) (gives_op 2 rfl (by kernel_rfl) (fun _ => rfl)) tyFe rfl
        intro L20 u20n W20n hall hJ hG
        obtain ⟨q21, e21, hq21, _, ht21⟩ := (show ∃ g, u20n 3 = .pointer (some ⟨g, 0, none⟩) ∧ W19n.heap.size ≤ g ∧ 0 < 16 ∧ W20n.there g 0 16 from hG 3 (by simp))
        have hm21 : HasFs rR W20n q21 0 [(B.x - B.z) * (A.x + A.z)] := by
          obtain ⟨g, e, _, h⟩ := (show ∃ g, u20n 3 = .pointer (some ⟨g, 0, none⟩) ∧ W19n.heap.size ≤ g ∧ HasFs rR W20n g 0 [(B.x - B.z) * (A.x + A.z)] from hG 4 (by simp))
          rw [e21] at e; cases e; exact h
        have HD21_q6 := Lib.hid (show q6 ≠ q21 by have := there_lt ht6' (by omega); omega)
        have HD21_q7 := Lib.hid (show q7 ≠ q21 by have := there_lt ht7' (by omega); omega)
        have HD21_q8 := Lib.hid (show q8 ≠ q21 by have := there_lt ht8' (by omega); omega)
        have HD21_q9 := Lib.hid (show q9 ≠ q21 by have := there_lt ht9' (by omega); omega)
        have HD21_q10 := Lib.hid (show q10 ≠ q21 by have := there_lt ht10' (by omega); omega)
        have HD21_wheapsize := Lib.hid (show w.heap.size ≠ q21 by have := there_lt htk' (by omega); omega)
        have HD21_q14 := Lib.hid (show q14 ≠ q21 by have := there_lt ht14 (by omega); omega)
        have HD21_q15 := Lib.hid (show q15 ≠ q21 by have := there_lt ht15 (by omega); omega)
        have HD21_q16 := Lib.hid (show q16 ≠ q21 by have := there_lt ht16 (by omega); omega)
        have HD21_q17 := Lib.hid (show q17 ≠ q21 by have := there_lt ht17 (by omega); omega)
        have HD21_q18 := Lib.hid (show q18 ≠ q21 by have := there_lt ht18 (by omega); omega)
        have HD21_q19 := Lib.hid (show q19 ≠ q21 by have := there_lt ht19 (by omega); omega)
        have HD21_q20 := Lib.hid (show q20 ≠ q21 by have := there_lt ht20 (by omega); omega)
        have hq21 : w.heap.size ≤ q21 := by have := hbel0.size; omega
        have E21 := Lib.hid e21; clear e21
        have hb := hJ.all rfl
        have hbel := Below.call hbel hb
        have hm6' := hm6'.later hb
        have hm7' := hm7'.later hb
        have hm8' := hm8'.later hb
        have hm9' := hm9'.later hb
        have hm10' := hm10'.later hb
        have hm14 := hm14.later hb
        have hm15 := hm15.later hb
        have hm16 := hm16.later hb
        have hm17 := hm17.later hb
        have hm18 := hm18.later hb
        have hm19 := hm19.later hb
        have hm20 := hm20.later hb
        have ht6' := there_later ht6' hb
        have ht7' := there_later ht7' hb
        have ht8' := there_later ht8' hb
        have ht9' := there_later ht9' hb
        have ht10' := there_later ht10' hb
        have htk' := there_later htk' hb
        have ht14 := there_later ht14 hb
        have ht15 := there_later ht15 hb
        have ht16 := there_later ht16 hb
        have ht17 := there_later ht17 hb
        have ht18 := there_later ht18 hb
        have ht19 := there_later ht19 hb
        have ht20 := there_later ht20 hb
        have hK' := Lib.hid (hK'.out.below' hb)
        have hbel0 := hbel
        clear hJ hG hall hb
        go_upto_region 21 with fail
        refine wp_region_turn (fun u => (.slice a n cap :: .slice b m cap' :: undef :: undef :: .slice none 0 0 :: .slice (some ⟨w.heap.size, 0, none⟩) 32 32 :: u2 2 :: u3 4 :: u3 5 :: u3 6 :: u3 7 :: u12n 1 :: .int .i64 (i : Int) :: .int .i64 (b2i bt) :: u13n 3 :: u14n 3 :: u15n 3 :: u16n 3 :: u17n 3 :: u18n 3 :: u19n 3 :: u20n 3 :: u 3 :: .slice a n cap :: .slice (some ⟨w.heap.size, 0, none⟩) 32 32 :: u2 0 :: u2 1 :: u3 0 :: u3 1 :: u3 2 :: u3 3 :: .int .i64 (i : Int) :: .bool true :: u33 :: u34 :: .slice (some ⟨w.heap.size, 0, none⟩) 32 32 :: .int .i64 (i : Int) :: .int .i64 (↑i / 8) :: .pointer (some ⟨w.heap.size, i / 8, none⟩) :: .int .u8 (c.toNat : Int) :: .int .i64 (i : Int) :: .int .i64 (↑i % 8) :: .int .u8 (↑c.toNat / 2 ^ (i % 8)) :: .int .u8 (b2i bt) :: .int .i64 (b2i bt) :: .int .i64 (b2i was) :: .int .i64 (b2i bt) :: .bool false :: u48 :: u49 :: u50 :: u51 :: u12n 0 :: u13n 0 :: u13n 1 :: u13n 2 :: u14n 0 :: u14n 1 :: u14n 2 :: u15n 0 :: u15n 1 :: u15n 2 :: u16n 0 :: u16n 1 :: u16n 2 :: u17n 0 :: u17n 1 :: u17n 2 :: u18n 0 :: u18n 1 :: u18n 2 :: u19n 0 :: u19n 1 :: u19n 2 :: u20n 0 :: u20n 1 :: u20n 2 :: u 0 :: u 1 :: u 2 :: u80 :: u81 :: u82 :: u83 :: u84 :: u85 :: u86 :: u87 :: u88 :: u89 :: u90 :: u91 :: u92 :: u93 :: u94 :: u95 :: u96 :: u97 :: u98 :: u99 :: u100 :: u101 :: u102 :: u103 :: undef :: undef :: undef :: undef :: undef :: undef :: undef :: undef :: undef :: []).toArray) (Holds [.val rR [B.x + B.z], .val rR [A.x - A.z], .val rR [(B.x + B.z) * (A.x - A.z)], .new 16, .st 3 rR [(B.x + B.z) * (A.x - A.z)]] W20n) (Keep [.val rR [B.x + B.z], .val rR [A.x - A.z], .val rR [(B.x + B.z) * (A.x - A.z)], .new 16, .st 3 rR [(B.x + B.z) * (A.x - A.z)]] W20n) (fun k => ([u77, u78, u79, u22, undef] : List Value).getD k undef) ?_ (by rfl) Keep.start (holds_soft (by kernel_rfl)) ?_ ?_
        · intro u i v h
          rcases i with _ | _ | _ | _ | _ | i
          all_goals first | (simp [Act.put, putV]; done) | (exfalso; simp at h; omega)
        · intro hs
          refine ⟨?_, ?_, ?_, ?_, ?_, trivial⟩
          · exact step_load q19 0 hs (wants_none rfl) rfl rfl tyFe (fun _ => E19.out) hm19.lt hm19 (noSto_apart (by kernel_rfl))
          · exact step_load q16 0 hs (wants_none rfl) rfl rfl tyFe (fun _ => E16.out) hm16.lt hm16 (noSto_apart (by kernel_rfl))
          · refine step_call hs (wants_none rfl) rfl fun L u W hJ hG hL hdep K hK => ?_
            have a0 := (show IsFs rR (u 0) [B.x + B.z] from hG 0 (hdep 0 (by kernel_rfl)))
            have a1 := (show IsFs rR (u 1) [A.x - A.z] from hG 1 (hdep 1 (by kernel_rfl)))
            go_simp
            go_at_call 33
            (with_reducible refine (kMul a0 a1 _).mono ?_); rintro e w1 ⟨r, rfl, hr, hb⟩
            have hk := hK.out _ _ hr hb
            exact hk
          · exact step_alloc hs (wants_none rfl) rfl rfl (by omega) rfl allocFe
          · exact step_store 3 hs (by kernel_rfl) (wants_none rfl) rfl rfl rfl (by kernel_rfl) (by kernel_rfl) (by kernel_rfl) (by kernel_rfl) (fun _ => rfl) (gives_op 2 rfl (by kernel_rfl) (fun _ => rfl)) tyFe rfl
        intro L21 u21n W21n hall hJ hG
        obtain ⟨q22, e22, hq22, _, ht22⟩ := (show ∃ g, u21n 3 = .pointer (some ⟨g, 0, none⟩) ∧ W20n.heap.size ≤ g ∧ 0 < 16 ∧ W21n.there g 0 16 from hG 3 (by simp))
        have hm22 : HasFs rR W21n q22 0 [(B.x + B.z) * (A.x - A.z)] := by
          obtain ⟨g, e, _, h⟩ := (show ∃ g, u21n 3 = .pointer (some ⟨g, 0, none⟩) ∧ W20n.heap.size ≤ g ∧ HasFs rR W21n g 0 [(B.x + B.z) * (A.x - A.z)] from hG 4 (by simp))
          rw [e22] at e; cases e; exact h
        have HD22_q6 := Lib.hid (show q6 ≠ q22 by have := there_lt ht6' (by omega); omega)
        have HD22_q7 := Lib.hid (show q7 ≠ q22 by have := there_lt ht7' (by omega); omega)
        have HD22_q8 := Lib.hid (show q8 ≠ q22 by have := there_lt ht8' (by omega); omega)
        have HD22_q9 := Lib.hid (show q9 ≠ q22 by have := there_lt ht9' (by omega); omega)
        have HD22_q10 := Lib.hid (show q10 ≠ q22 by have := there_lt ht10' (by omega); omega)
        have HD22_wheapsize := Lib.hid (show w.heap.size ≠ q22 by have := there_lt htk' (by omega); omega)
        have HD22_q14 := Lib.hid (show q14 ≠ q22 by have := there_lt ht14 (by omega); omega)
        have HD22_q15 := Lib.hid (show q15 ≠ q22 by have := there_lt ht15 (by omega); omega)
        have HD22_q16 := Lib.hid (show q16 ≠ q22 by have := there_lt ht16 (by omega); omega)
        have HD22_q17 := Lib.hid (show q17 ≠ q22 by have := there_lt ht17 (by omega); omega)
        have HD22_q18 := Lib.hid (show q18 ≠ q22 by have := there_lt ht18 (by omega); omega)
        have HD22_q19 := Lib.hid (show q19 ≠ q22 by have := there_lt ht19 (by omega); omega)
        have HD22_q20 := Lib.hid (show q20 ≠ q22 by have := there_lt ht20 (by omega); omega)
        have HD22_q21 := Lib.hid (show q21 ≠ q22 by have := there_lt ht21 (by omega); omega)
        have hq22 : w.heap.size ≤ q22 := by have := hbel0.size; omega
        have E22 := Lib.hid e22; clear e22
        have hb := hJ.all rfl
        have hbel := Below.call hbel hb
        have hm6' := hm6'.later hb
        have hm7' := hm7'.later hb
        have hm8' := hm8'.later hb
        have hm9' := hm9'.later hb
        have hm10' := hm10'.later hb
        have hm14 := hm14.later hb
        have hm15 := hm15.later hb
        have hm16 := hm16.later hb
        have hm17 := hm17.later hb
        have hm18 := hm18.later hb
        have hm19 := hm19.later hb
        have hm20 := hm20.later hb
        have hm21 := hm21.later hb
        have ht6' := there_later ht6' hb
        have ht7' := there_later ht7' hb
        have ht8' := there_later ht8' hb
        have ht9' := there_later ht9' hb
        have ht10' := there_later ht10' hb
        have htk' := there_later htk' hb
        have ht14 := there_later ht14 hb
        have ht15 := there_later ht15 hb
        have ht16 := there_later ht16 hb
        have ht17 := there_later ht17 hb
        have ht18 := there_later ht18 hb
        have ht19 := there_later ht19 hb
        have ht20 := there_later ht20 hb
        have ht21 := there_later ht21 hb
        have hK' := Lib.hid (hK'.out.below' hb)
        have hbel0 := hbel
        clear hJ hG hall hb
        go_upto_region 22 with fail
        refine wp_region_turn (fun u => (.slice a n cap :: .slice b m cap' :: undef :: undef :: .slice none 0 0 :: .slice (some ⟨w.heap.size, 0, none⟩) 32 32 :: u2 2 :: u3 4 :: u3 5 :: u3 6 :: u3 7 :: u12n 1 :: .int .i64 (i : Int) :: .int .i64 (b2i bt) :: u13n 3 :: u14n 3 :: u15n 3 :: u16n 3 :: u17n 3 :: u18n 3 :: u19n 3 :: u20n 3 :: u21n 3 :: .slice a n cap :: .slice (some ⟨w.heap.size, 0, none⟩) 32 32 :: u2 0 :: u2 1 :: u3 0 :: u3 1 :: u3 2 :: u3 3 :: .int .i64 (i : Int) :: .bool true :: u33 :: u34 :: .slice (some ⟨w.heap.size, 0, none⟩) 32 32 :: .int .i64 (i : Int) :: .int .i64 (↑i / 8) :: .pointer (some ⟨w.heap.size, i / 8, none⟩) :: .int .u8 (c.toNat : Int) :: .int .i64 (i : Int) :: .int .i64 (↑i % 8) :: .int .u8 (↑c.toNat / 2 ^ (i % 8)) :: .int .u8 (b2i bt) :: .int .i64 (b2i bt) :: .int .i64 (b2i was) :: .int .i64 (b2i bt) :: .bool false :: u48 :: u49 :: u50 :: u51 :: u12n 0 :: u13n 0 :: u13n 1 :: u13n 2 :: u14n 0 :: u14n 1 :: u14n 2 :: u15n 0 :: u15n 1 :: u15n 2 :: u16n 0 :: u16n 1 :: u16n 2 :: u17n 0 :: u17n 1 :: u17n 2 :: u18n 0 :: u18n 1 :: u18n 2 :: u19n 0 :: u19n 1 :: u19n 2 :: u20n 0 :: u20n 1 :: u20n 2 :: u21n 0 :: u21n 1 :: u21n 2 :: u 0 :: u 1 :: u 2 :: u83 :: u84 :: u85 :: u86 :: u87 :: u88 :: u89 :: u90 :: u91 :: u92 :: u93 :: u94 :: u95 :: u96 :: u97 :: u98 :: u99 :: u100 :: u101 :: u102 :: u103 :: undef :: undef :: undef :: undef :: undef :: undef :: undef :: undef :: undef :: []).toArray) (Holds [.val rR [(B.x - B.z) * (A.x + A.z)], .val rR [(B.x + B.z) * (A.x - A.z)], .val rR [((B.x - B.z) * (A.x + A.z)) + ((B.x + B.z) * (A.x - A.z))], .sto q9 rR [((B.x - B.z) * (A.x + A.z)) + ((B.x + B.z) * (A.x - A.z))]] W21n) (Keep [.val rR [(B.x - B.z) * (A.x + A.z)], .val rR [(B.x + B.z) * (A.x - A.z)], .val rR [((B.x - B.z) * (A.x + A.z)) + ((B.x + B.z) * (A.x - A.z))], .sto q9 rR [((B.x - B.z) * (A.x + A.z)) + ((B.x + B.z) * (A.x - A.z))]] W21n) (fun k => ([u80, u81, u82, undef] : List Value).getD k undef) ?_ (by rfl) Keep.start (holds_soft (by kernel_rfl)) ?_ ?_
        · intro u i v h
          rcases i with _ | _ | _ | _ | i
          all_goals first | (simp [Act.put, putV]; done) | (exfalso; simp at h; omega)
        · intro hs
          refine ⟨?_, ?_, ?_, ?_, trivial⟩
          · exact step_load q21 0 hs (wants_none rfl) rfl rfl tyFe (fun _ => E21.out) hm21.lt hm21 (fun k g hk => by rcases k with _ | _ | _ | _ | k <;> first | (cases hk; done) | (cases hk; exact .inr HD21_q9.out))
          · exact step_load q22 0 hs (wants_none rfl) rfl rfl tyFe (fun _ => E22.out) hm22.lt hm22 (fun k g hk => by rcases k with _ | _ | _ | _ | k <;> first | (cases hk; done) | (cases hk; exact .inr HD22_q9.out))
          · refine step_call hs (wants_none rfl) rfl fun L u W hJ hG hL hdep K hK => ?_
            have a0 := (show IsFs rR (u 0) [(B.x - B.z) * (A.x + A.z)] from hG 0 (hdep 0 (by kernel_rfl)))
            have a1 := (show IsFs rR (u 1) [(B.x + B.z) * (A.x - A.z)] from hG 1 (hdep 1 (by kernel_rfl)))
            go_simp
            go_at_call 32
            (with_reducible refine (kAdd a0 a1 _).mono ?_); rintro e w1 ⟨r, rfl, hr, hb⟩
            have hk := hK.out _ _ hr hb
            exact hk
          · refine step_storeO q9 16 hs (wants_none rfl) rfl rfl (by kernel_rfl) (fun k hk => ?_) (fun _ => E9.out) (there_lt ht9' (by omega)) ht9' (gives_op 2 rfl (by kernel_rfl) (fun _ => rfl)) tyFe rfl
            rcases k with _ | _ | _ | _ | k
            all_goals first | (exact absurd rfl hk) | (intro e; cases e; done)
        intro L22 u22n W22n hall hJ hG
        have hb : Below w.heap.size W21n W22n := hJ.below (by have := hbel.size; omega) (fun k b hf => by rcases k with _ | _ | _ | _ | k <;> first | (cases hf; done) | (cases hf; omega))
        have hbel := hbel.trans hb
        have hm6' := hm6'.blk (hJ.block _ (hm6'.lt) (fun k hk => by rcases k with _ | _ | _ | _ | k <;> first | (cases hk; done) | (cases hk; exact absurd rfl (Ne.symm HD9_q6.out))))
        have hm7' := hm7'.blk (hJ.block _ (hm7'.lt) (fun k hk => by rcases k with _ | _ | _ | _ | k <;> first | (cases hk; done) | (cases hk; exact absurd rfl (Ne.symm HN7_9.out))))
        have hm8' := hm8'.blk (hJ.block _ (hm8'.lt) (fun k hk => by rcases k with _ | _ | _ | _ | k <;> first | (cases hk; done) | (cases hk; exact absurd rfl (Ne.symm HN8_9.out))))
        have hm10' := hm10'.blk (hJ.block _ (hm10'.lt) (fun k hk => by rcases k with _ | _ | _ | _ | k <;> first | (cases hk; done) | (cases hk; exact absurd rfl HN9_10.out)))
        have hm14 := hm14.blk (hJ.block _ (hm14.lt) (fun k hk => by rcases k with _ | _ | _ | _ | k <;> first | (cases hk; done) | (cases hk; exact absurd rfl HD14_q9.out)))
        have hm15 := hm15.blk (hJ.block _ (hm15.lt) (fun k hk => by rcases k with _ | _ | _ | _ | k <;> first | (cases hk; done) | (cases hk; exact absurd rfl HD15_q9.out)))
        have hm16 := hm16.blk (hJ.block _ (hm16.lt) (fun k hk => by rcases k with _ | _ | _ | _ | k <;> first | (cases hk; done) | (cases hk; exact absurd rfl HD16_q9.out)))
        have hm17 := hm17.blk (hJ.block _ (hm17.lt) (fun k hk => by rcases k with _ | _ | _ | _ | k <;> first | (cases hk; done) | (cases hk; exact absurd rfl HD17_q9.out)))
        have hm18 := hm18.blk (hJ.block _ (hm18.lt) (fun k hk => by rcases k with _ | _ | _ | _ | k <;> first | (cases hk; done) | (cases hk; exact absurd rfl HD18_q9.out)))
        have hm19 := hm19.blk (hJ.block _ (hm19.lt) (fun k hk => by rcases k with _ | _ | _ | _ | k <;> first | (cases hk; done) | (cases hk; exact absurd rfl HD19_q9.out)))
        have hm20 := hm20.blk (hJ.block _ (hm20.lt) (fun k hk => by rcases k with _ | _ | _ | _ | k <;> first | (cases hk; done) | (cases hk; exact absurd rfl HD20_q9.out)))
        have hm21 := hm21.blk (hJ.block _ (hm21.lt) (fun k hk => by rcases k with _ | _ | _ | _ | k <;> first | (cases hk; done) | (cases hk; exact absurd rfl HD21_q9.out)))
        have hm22 := hm22.blk (hJ.block _ (hm22.lt) (fun k hk => by rcases k with _ | _ | _ | _ | k <;> first | (cases hk; done) | (cases hk; exact absurd rfl HD22_q9.out)))
        have ht6' := there_blk ht6' (hJ.block _ (there_lt ht6' (by omega)) (fun k hk => by rcases k with _ | _ | _ | _ | k <;> first | (cases hk; done) | (cases hk; exact absurd rfl (Ne.symm HD9_q6.out))))
        have ht7' := there_blk ht7' (hJ.block _ (there_lt ht7' (by omega)) (fun k hk => by rcases k with _ | _ | _ | _ | k <;> first | (cases hk; done) | (cases hk; exact absurd rfl (Ne.symm HN7_9.out))))
        have ht8' := there_blk ht8' (hJ.block _ (there_lt ht8' (by omega)) (fun k hk => by rcases k with _ | _ | _ | _ | k <;> first | (cases hk; done) | (cases hk; exact absurd rfl (Ne.symm HN8_9.out))))
        have ht10' := there_blk ht10' (hJ.block _ (there_lt ht10' (by omega)) (fun k hk => by rcases k with _ | _ | _ | _ | k <;> first | (cases hk; done) | (cases hk; exact absurd rfl HN9_10.out)))
        have htk' := there_blk htk' (hJ.block _ (there_lt htk' (by omega)) (fun k hk => by rcases k with _ | _ | _ | _ | k <;> first | (cases hk; done) | (cases hk; exact absurd rfl (Ne.symm HD9_wheapsize.out))))
        have ht14 := there_blk ht14 (hJ.block _ (there_lt ht14 (by omega)) (fun k hk => by rcases k with _ | _ | _ | _ | k <;> first | (cases hk; done) | (cases hk; exact absurd rfl HD14_q9.out)))
        have ht15 := there_blk ht15 (hJ.block _ (there_lt ht15 (by omega)) (fun k hk => by rcases k with _ | _ | _ | _ | k <;> first | (cases hk; done) | (cases hk; exact absurd rfl HD15_q9.out)))
        have ht16 := there_blk ht16 (hJ.block _ (there_lt ht16 (by omega)) (fun k hk => by rcases k with _ | _ | _ | _ | k <;> first | (cases hk; done) | (cases hk; exact absurd rfl HD16_q9.out)))
        have ht17 := there_blk ht17 (hJ.block _ (there_lt ht17 (by omega)) (fun k hk => by rcases k with _ | _ | _ | _ | k <;> first | (cases hk; done) | (cases hk; exact absurd rfl HD17_q9.out)))
        have ht18 := there_blk ht18 (hJ.block _ (there_lt ht18 (by omega)) (fun k hk => by rcases k with _ | _ | _ | _ | k <;> first | (cases hk; done) | (cases hk; exact absurd rfl HD18_q9.out)))
        have ht19 := there_blk ht19 (hJ.block _ (there_lt ht19 (by omega)) (fun k hk => by rcases k with _ | _ | _ | _ | k <;> first | (cases hk; done) | (cases hk; exact absurd rfl HD19_q9.out)))
        have ht20 := there_blk ht20 (hJ.block _ (there_lt ht20 (by omega)) (fun k hk => by rcases k with _ | _ | _ | _ | k <;> first | (cases hk; done) | (cases hk; exact absurd rfl HD20_q9.out)))
        have ht21 := there_blk ht21 (hJ.block _ (there_lt ht21 (by omega)) (fun k hk => by rcases k with _ | _ | _ | _ | k <;> first | (cases hk; done) | (cases hk; exact absurd rfl HD21_q9.out)))
        have ht22 := there_blk ht22 (hJ.block _ (there_lt ht22 (by omega)) (fun k hk => by rcases k with _ | _ | _ | _ | k <;> first | (cases hk; done) | (cases hk; exact absurd rfl HD22_q9.out)))
        have hK' := Lib.hid (blk_keep hK'.out (hJ.block _ (hK'.out.lt) (fun k hk => by rcases k with _ | _ | _ | _ | k <;> first | (cases hk; done) | (cases hk; exact absurd rfl (Ne.symm HD9_wheapsize.out)))))
        obtain ⟨_, hs22_3t, hs22_3⟩ := (show _ ∧ W22n.there q9 0 16 ∧ HasFs rR W22n q9 0 [((B.x - B.z) * (A.x + A.z)) + ((B.x + B.z) * (A.x - A.z))] from hG 3 (by simp))
        have hbel0 := hbel
        clear hJ hG hall hb
        go_upto_region 23 with fail
        refine wp_region_turn (fun u => (.slice a n cap :: .slice b m cap' :: undef :: undef :: .slice none 0 0 :: .slice (some ⟨w.heap.size, 0, none⟩) 32 32 :: u2 2 :: u3 4 :: u3 5 :: u3 6 :: u3 7 :: u12n 1 :: .int .i64 (i : Int) :: .int .i64 (b2i bt) :: u13n 3 :: u14n 3 :: u15n 3 :: u16n 3 :: u17n 3 :: u18n 3 :: u19n 3 :: u20n 3 :: u21n 3 :: .slice a n cap :: .slice (some ⟨w.heap.size, 0, none⟩) 32 32 :: u2 0 :: u2 1 :: u3 0 :: u3 1 :: u3 2 :: u3 3 :: .int .i64 (i : Int) :: .bool true :: u33 :: u34 :: .slice (some ⟨w.heap.size, 0, none⟩) 32 32 :: .int .i64 (i : Int) :: .int .i64 (↑i / 8) :: .pointer (some ⟨w.heap.size, i / 8, none⟩) :: .int .u8 (c.toNat : Int) :: .int .i64 (i : Int) :: .int .i64 (↑i % 8) :: .int .u8 (↑c.toNat / 2 ^ (i % 8)) :: .int .u8 (b2i bt) :: .int .i64 (b2i bt) :: .int .i64 (b2i was) :: .int .i64 (b2i bt) :: .bool false :: u48 :: u49 :: u50 :: u51 :: u12n 0 :: u13n 0 :: u13n 1 :: u13n 2 :: u14n 0 :: u14n 1 :: u14n 2 :: u15n 0 :: u15n 1 :: u15n 2 :: u16n 0 :: u16n 1 :: u16n 2 :: u17n 0 :: u17n 1 :: u17n 2 :: u18n 0 :: u18n 1 :: u18n 2 :: u19n 0 :: u19n 1 :: u19n 2 :: u20n 0 :: u20n 1 :: u20n 2 :: u21n 0 :: u21n 1 :: u21n 2 :: u22n 0 :: u22n 1 :: u22n 2 :: u 0 :: u 1 :: u 2 :: u86 :: u87 :: u88 :: u89 :: u90 :: u91 :: u92 :: u93 :: u94 :: u95 :: u96 :: u97 :: u98 :: u99 :: u100 :: u101 :: u102 :: u103 :: undef :: undef :: undef :: undef :: undef :: undef :: undef :: undef :: undef :: []).toArray) (Holds [.val rR [((B.x - B.z) * (A.x + A.z)) + ((B.x + B.z) * (A.x - A.z))], .val rR [((B.x - B.z) * (A.x + A.z)) + ((B.x + B.z) * (A.x - A.z))], .val rR [(((B.x - B.z) * (A.x + A.z)) + ((B.x + B.z) * (A.x - A.z))) * (((B.x - B.z) * (A.x + A.z)) + ((B.x + B.z) * (A.x - A.z)))], .sto q9 rR [(((B.x - B.z) * (A.x + A.z)) + ((B.x + B.z) * (A.x - A.z))) * (((B.x - B.z) * (A.x + A.z)) + ((B.x + B.z) * (A.x - A.z)))]] W22n) (Keep [.val rR [((B.x - B.z) * (A.x + A.z)) + ((B.x + B.z) * (A.x - A.z))], .val rR [((B.x - B.z) * (A.x + A.z)) + ((B.x + B.z) * (A.x - A.z))], .val rR [(((B.x - B.z) * (A.x + A.z)) + ((B.x + B.z) * (A.x - A.z))) * (((B.x - B.z) * (A.x + A.z)) + ((B.x + B.z) * (A.x - A.z)))], .sto q9 rR [(((B.x - B.z) * (A.x + A.z)) + ((B.x + B.z) * (A.x - A.z))) * (((B.x - B.z) * (A.x + A.z)) + ((B.x + B.z) * (A.x - A.z)))]] W22n) (fun k => ([u83, u84, u85, undef] : List Value).getD k undef) ?_ (by rfl) Keep.start (holds_soft (by kernel_rfl)) ?_ ?_
        · intro u i v h
          rcases i with _ | _ | _ | _ | i
          all_goals first | (simp [Act.put, putV]; done) | (exfalso; simp at h; omega)
        · intro hs
          refine ⟨?_, ?_, ?_, ?_, trivial⟩
          · exact step_load q9 0 hs (wants_none rfl) rfl rfl tyFe (fun _ => E9.out) hs22_3.lt hs22_3 (fun k g hk => by rcases k with _ | _ | _ | _ | k <;> first | (cases hk; done) | (cases hk; exact .inl (by kernel_rfl)))
          · exact step_load q9 0 hs (wants_none rfl) rfl rfl tyFe (fun _ => E9.out) hs22_3.lt hs22_3 (fun k g hk => by rcases k with _ | _ | _ | _ | k <;> first | (cases hk; done) | (cases hk; exact .inl (by kernel_rfl)))
          · refine step_call hs (wants_none rfl) rfl fun L u W hJ hG hL hdep K hK => ?_
            have a0 := (show IsFs rR (u 0) [((B.x - B.z) * (A.x + A.z)) + ((B.x + B.z) * (A.x - A.z))] from hG 0 (hdep 0 (by kernel_rfl)))
            have a1 := (show IsFs rR (u 1) [((B.x - B.z) * (A.x + A.z)) + ((B.x + B.z) * (A.x - A.z))] from hG 1 (hdep 1 (by kernel_rfl)))
            go_simp
            go_at_call 33
            (with_reducible refine (kMul a0 a1 _).mono ?_); rintro e w1 ⟨r, rfl, hr, hb⟩
            have hk := hK.out _ _ hr hb
            exact hk
          · refine step_storeO q9 16 hs (wants_none rfl) rfl rfl (by kernel_rfl) (fun k hk => ?_) (fun _ => E9.out) (there_lt hs22_3t (by omega)) hs22_3t (gives_op 2 rfl (by kernel_rfl) (fun _ => rfl)) tyFe rfl
            rcases k with _ | _ | _ | _ | k
            all_goals first | (exact absurd rfl hk) | (intro e; cases e; done)
        intro L23 u23n W23n hall hJ hG
        have hb : Below w.heap.size W22n W23n := hJ.below (by have := hbel.size; omega) (fun k b hf => by rcases k with _ | _ | _ | _ | k <;> first | (cases hf; done) | (cases hf; omega))
        have hbel := hbel.trans hb
        have hm6' := hm6'.blk (hJ.block _ (hm6'.lt) (fun k hk => by rcases k with _ | _ | _ | _ | k <;> first | (cases hk; done) | (cases hk; exact absurd rfl (Ne.symm HD9_q6.out))))
        have hm7' := hm7'.blk (hJ.block _ (hm7'.lt) (fun k hk => by rcases k with _ | _ | _ | _ | k <;> first | (cases hk; done) | (cases hk; exact absurd rfl (Ne.symm HN7_9.out))))
        have hm8' := hm8'.blk (hJ.block _ (hm8'.lt) (fun k hk => by rcases k with _ | _ | _ | _ | k <;> first | (cases hk; done) | (cases hk; exact absurd rfl (Ne.symm HN8_9.out))))
        have hm10' := hm10'.blk (hJ.block _ (hm10'.lt) (fun k hk => by rcases k with _ | _ | _ | _ | k <;> first | (cases hk; done) | (cases hk; exact absurd rfl HN9_10.out)))
        have hm14 := hm14.blk (hJ.block _ (hm14.lt) (fun k hk => by rcases k with _ | _ | _ | _ | k <;> first | (cases hk; done) | (cases hk; exact absurd rfl HD14_q9.out)))
        have hm15 := hm15.blk (hJ.block _ (hm15.lt) (fun k hk => by rcases k with _ | _ | _ | _ | k <;> first | (cases hk; done) | (cases hk; exact absurd rfl HD15_q9.out)))
        have hm16 := hm16.blk (hJ.block _ (hm16.lt) (fun k hk => by rcases k with _ | _ | _ | _ | k <;> first | (cases hk; done) | (cases hk; exact absurd rfl HD16_q9.out)))
        have hm17 := hm17.blk (hJ.block _ (hm17.lt) (fun k hk => by rcases k with _ | _ | _ | _ | k <;> first | (cases hk; done) | (cases hk; exact absurd rfl HD17_q9.out)))
        have hm18 := hm18.blk (hJ.block _ (hm18.lt) (fun k hk => by rcases k with _ | _ | _ | _ | k <;> first | (cases hk; done) | (cases hk; exact absurd rfl HD18_q9.out)))
        have hm19 := hm19.blk (hJ.block _ (hm19.lt) (fun k hk => by rcases k with _ | _ | _ | _ | k <;> first | (cases hk; done) | (cases hk; exact absurd rfl HD19_q9.out)))
        have hm20 := hm20.blk (hJ.block _ (hm20.lt) (fun k hk => by rcases k with _ | _ | _ | _ | k <;> first | (cases hk; done) | (cases hk; exact absurd rfl HD20_q9.out)))
        have hm21 := hm21.blk (hJ.block _ (hm21.lt) (fun k hk => by rcases k with _ | _ | _ | _ | k <;> first | (cases hk; done) | (cases hk; exact absurd rfl HD21_q9.out)))
        have hm22 := hm22.blk (hJ.block _ (hm22.lt) (fun k hk => by rcases k with _ | _ | _ | _ | k <;> first | (cases hk; done) | (cases hk; exact absurd rfl HD22_q9.out)))
        have ht6' := there_blk ht6' (hJ.block _ (there_lt ht6' (by omega)) (fun k hk => by rcases k with _ | _ | _ | _ | k <;> first | (cases hk; done) | (cases hk; exact absurd rfl (Ne.symm HD9_q6.out))))
        have ht7' := there_blk ht7' (hJ.block _ (there_lt ht7' (by omega)) (fun k hk => by rcases k with _ | _ | _ | _ | k <;> first | (cases hk; done) | (cases hk; exact absurd rfl (Ne.symm HN7_9.out))))
        have ht8' := there_blk ht8' (hJ.block _ (there_lt ht8' (by omega)) (fun k hk => by rcases k with _ | _ | _ | _ | k <;> first | (cases hk; done) | (cases hk; exact absurd rfl (Ne.symm HN8_9.out))))
        have ht10' := there_blk ht10' (hJ.block _ (there_lt ht10' (by omega)) (fun k hk => by rcases k with _ | _ | _ | _ | k <;> first | (cases hk; done) | (cases hk; exact absurd rfl HN9_10.out)))
        have htk' := there_blk htk' (hJ.block _ (there_lt htk' (by omega)) (fun k hk => by rcases k with _ | _ | _ | _ | k <;> first | (cases hk; done) | (cases hk; exact absurd rfl (Ne.symm HD9_wheapsize.out))))
        have ht14 := there_blk ht14 (hJ.block _ (there_lt ht14 (by omega)) (fun k hk => by rcases k with _ | _ | _ | _ | k <;> first | (cases hk; done) | (cases hk; exact absurd rfl HD14_q9.out)))
        have ht15 := there_blk ht15 (hJ.block _ (there_lt ht15 (by omega)) (fun k hk => by rcases k with _ | _ | _ | _ | k <;> first | (cases hk; done) | (cases hk; exact absurd rfl HD15_q9.out)))
        have ht16 := there_blk ht16 (hJ.block _ (there_lt ht16 (by omega)) (fun k hk => by rcases k with _ | _ | _ | _ | k <;> first | (cases hk; done) | (cases hk; exact absurd rfl HD16_q9.out)))
        have ht17 := there_blk ht17 (hJ.block _ (there_lt ht17 (by omega)) (fun k hk => by rcases k with _ | _ | _ | _ | k <;> first | (cases hk; done) | (cases hk; exact absurd rfl HD17_q9.out)))
        have ht18 := there_blk ht18 (hJ.block _ (there_lt ht18 (by omega)) (fun k hk => by rcases k with _ | _ | _ | _ | k <;> first | (cases hk; done) | (cases hk; exact absurd rfl HD18_q9.out)))
        have ht19 := there_blk ht19 (hJ.block _ (there_lt ht19 (by omega)) (fun k hk => by rcases k with _ | _ | _ | _ | k <;> first | (cases hk; done) | (cases hk; exact absurd rfl HD19_q9.out)))
        have ht20 := there_blk ht20 (hJ.block _ (there_lt ht20 (by omega)) (fun k hk => by rcases k with _ | _ | _ | _ | k <;> first | (cases hk; done) | (cases hk; exact absurd rfl HD20_q9.out)))
        have ht21 := there_blk ht21 (hJ.block _ (there_lt ht21 (by omega)) (fun k hk => by rcases k with _ | _ | _ | _ | k <;> first | (cases hk; done) | (cases hk; exact absurd rfl HD21_q9.out)))
        have ht22 := there_blk ht22 (hJ.block _ (there_lt ht22 (by omega)) (fun k hk => by rcases k with _ | _ | _ | _ | k <;> first | (cases hk; done) | (cases hk; exact absurd rfl HD22_q9.out)))
        have hK' := Lib.hid (blk_keep hK'.out (hJ.block _ (hK'.out.lt) (fun k hk => by rcases k with _ | _ | _ | _ | k <;> first | (cases hk; done) | (cases hk; exact absurd rfl (Ne.symm HD9_wheapsize.out)))))
        obtain ⟨_, hs23_3t, hs23_3⟩ := (show _ ∧ W23n.there q9 0 16 ∧ HasFs rR W23n q9 0 [(((B.x - B.z) * (A.x + A.z)) + ((B.x + B.z) * (A.x - A.z))) * (((B.x - B.z) * (A.x + A.z)) + ((B.x + B.z) * (A.x - A.z)))] from hG 3 (by simp))
        have hbel0 := hbel
        clear hJ hG hall hb
        go_upto_region 24 with fail
        refine wp_region_turn (fun u => (.slice a n cap :: .slice b m cap' :: undef :: undef :: .slice none 0 0 :: .slice (some ⟨w.heap.size, 0, none⟩) 32 32 :: u2 2 :: u3 4 :: u3 5 :: u3 6 :: u3 7 :: u12n 1 :: .int .i64 (i : Int) :: .int .i64 (b2i bt) :: u13n 3 :: u14n 3 :: u15n 3 :: u16n 3 :: u17n 3 :: u18n 3 :: u19n 3 :: u20n 3 :: u21n 3 :: .slice a n cap :: .slice (some ⟨w.heap.size, 0, none⟩) 32 32 :: u2 0 :: u2 1 :: u3 0 :: u3 1 :: u3 2 :: u3 3 :: .int .i64 (i : Int) :: .bool true :: u33 :: u34 :: .slice (some ⟨w.heap.size, 0, none⟩) 32 32 :: .int .i64 (i : Int) :: .int .i64 (↑i / 8) :: .pointer (some ⟨w.heap.size, i / 8, none⟩) :: .int .u8 (c.toNat : Int) :: .int .i64 (i : Int) :: .int .i64 (↑i % 8) :: .int .u8 (↑c.toNat / 2 ^ (i % 8)) :: .int .u8 (b2i bt) :: .int .i64 (b2i bt) :: .int .i64 (b2i was) :: .int .i64 (b2i bt) :: .bool false :: u48 :: u49 :: u50 :: u51 :: u12n 0 :: u13n 0 :: u13n 1 :: u13n 2 :: u14n 0 :: u14n 1 :: u14n 2 :: u15n 0 :: u15n 1 :: u15n 2 :: u16n 0 :: u16n 1 :: u16n 2 :: u17n 0 :: u17n 1 :: u17n 2 :: u18n 0 :: u18n 1 :: u18n 2 :: u19n 0 :: u19n 1 :: u19n 2 :: u20n 0 :: u20n 1 :: u20n 2 :: u21n 0 :: u21n 1 :: u21n 2 :: u22n 0 :: u22n 1 :: u22n 2 :: u23n 0 :: u23n 1 :: u23n 2 :: u 0 :: u 1 :: u 2 :: u89 :: u90 :: u91 :: u92 :: u93 :: u94 :: u95 :: u96 :: u97 :: u98 :: u99 :: u100 :: u101 :: u102 :: u103 :: undef :: undef :: undef :: undef :: undef :: undef :: undef :: undef :: undef :: []).toArray) (Holds [.val rR [(B.x - B.z) * (A.x + A.z)], .val rR [(B.x + B.z) * (A.x - A.z)], .val rR [((B.x - B.z) * (A.x + A.z)) - ((B.x + B.z) * (A.x - A.z))], .sto q10 rR [((B.x - B.z) * (A.x + A.z)) - ((B.x + B.z) * (A.x - A.z))]] W23n) (Keep [.val rR [(B.x - B.z) * (A.x + A.z)], .val rR [(B.x + B.z) * (A.x - A.z)], .val rR [((B.x - B.z) * (A.x + A.z)) - ((B.x + B.z) * (A.x - A.z))], .sto q10 rR [((B.x - B.z) * (A.x + A.z)) - ((B.x + B.z) * (A.x - A.z))]] W23n) (fun k => ([u86, u87, u88, undef] : List Value).getD k undef) ?_ (by rfl) Keep.start (holds_soft (by kernel_rfl)) ?_ ?_
        · intro u i v h
          rcases i with _ | _ | _ | _ | i
          all_goals first | (simp [Act.put, putV]; done) | (exfalso; simp at h; omega)
        · intro hs
          refine ⟨?_, ?_, ?_, ?_, trivial⟩
          · exact step_load q21 0 hs (wants_none rfl) rfl rfl tyFe (fun _ => E21.out) hm21.lt hm21 (fun k g hk => by rcases k with _ | _ | _ | _ | k <;> first | (cases hk; done) | (cases hk; exact .inr HD21_q10.out))
          · exact step_load q22 0 hs (wants_none rfl) rfl rfl tyFe (fun _ => E22.out) hm22.lt hm22 (fun k g hk => by rcases k with _ | _ | _ | _ | k <;> first | (cases hk; done) | (cases hk; exact .inr HD22_q10.out))
          · refine step_call hs (wants_none rfl) rfl fun L u W hJ hG hL hdep K hK => ?_
            have a0 := (show IsFs rR (u 0) [(B.x - B.z) * (A.x + A.z)] from hG 0 (hdep 0 (by kernel_rfl)))
            have a1 := (show IsFs rR (u 1) [(B.x + B.z) * (A.x - A.z)] from hG 1 (hdep 1 (by kernel_rfl)))
            go_simp
            go_at_call 34
            (with_reducible refine (kSub a0 a1 _).mono ?_); rintro e w1 ⟨r, rfl, hr, hb⟩
            have hk := hK.out _ _ hr hb
            exact hk
          · refine step_storeO q10 16 hs (wants_none rfl) rfl rfl (by kernel_rfl) (fun k hk => ?_) (fun _ => E10.out) (there_lt ht10' (by omega)) ht10' (gives_op 2 rfl (by kernel_rfl) (fun _ => rfl)) tyFe rfl
            rcases k with _ | _ | _ | _ | k
            all_goals first | (exact absurd rfl hk) | (intro e; cases e; done)
        intro L24 u24n W24n hall hJ hG
        have hb : Below w.heap.size W23n W24n := hJ.below (by have := hbel.size; omega) (fun k b hf => by rcases k with _ | _ | _ | _ | k <;> first | (cases hf; done) | (cases hf; omega))
        have hbel := hbel.trans hb
        have hm6' := hm6'.blk (hJ.block _ (hm6'.lt) (fun k hk => by rcases k with _ | _ | _ | _ | k <;> first | (cases hk; done) | (cases hk; exact absurd rfl (Ne.symm HD10_q6.out))))
        have hm7' := hm7'.blk (hJ.block _ (hm7'.lt) (fun k hk => by rcases k with _ | _ | _ | _ | k <;> first | (cases hk; done) | (cases hk; exact absurd rfl (Ne.symm HN7_10.out))))
        have hm8' := hm8'.blk (hJ.block _ (hm8'.lt) (fun k hk => by rcases k with _ | _ | _ | _ | k <;> first | (cases hk; done) | (cases hk; exact absurd rfl (Ne.symm HN8_10.out))))
        have hs23_3 := hs23_3.blk (hJ.block _ (hs23_3.lt) (fun k hk => by rcases k with _ | _ | _ | _ | k <;> first | (cases hk; done) | (cases hk; exact absurd rfl (Ne.symm HN9_10.out))))
        have hm14 := hm14.blk (hJ.block _ (hm14.lt) (fun k hk => by rcases k with _ | _ | _ | _ | k <;> first | (cases hk; done) | (cases hk; exact absurd rfl HD14_q10.out)))
        have hm15 := hm15.blk (hJ.block _ (hm15.lt) (fun k hk => by rcases k with _ | _ | _ | _ | k <;> first | (cases hk; done) | (cases hk; exact absurd rfl HD15_q10.out)))
        have hm16 := hm16.blk (hJ.block _ (hm16.lt) (fun k hk => by rcases k with _ | _ | _ | _ | k <;> first | (cases hk; done) | (cases hk; exact absurd rfl HD16_q10.out)))
        have hm17 := hm17.blk (hJ.block _ (hm17.lt) (fun k hk => by rcases k with _ | _ | _ | _ | k <;> first | (cases hk; done) | (cases hk; exact absurd rfl HD17_q10.out)))
        have hm18 := hm18.blk (hJ.block _ (hm18.lt) (fun k hk => by rcases k with _ | _ | _ | _ | k <;> first | (cases hk; done) | (cases hk; exact absurd rfl HD18_q10.out)))
        have hm19 := hm19.blk (hJ.block _ (hm19.lt) (fun k hk => by rcases k with _ | _ | _ | _ | k <;> first | (cases hk; done) | (cases hk; exact absurd rfl HD19_q10.out)))
        have hm20 := hm20.blk (hJ.block _ (hm20.lt) (fun k hk => by rcases k with _ | _ | _ | _ | k <;> first | (cases hk; done) | (cases hk; exact absurd rfl HD20_q10.out)))
        have hm21 := hm21.blk (hJ.block _ (hm21.lt) (fun k hk => by rcases k with _ | _ | _ | _ | k <;> first | (cases hk; done) | (cases hk; exact absurd rfl HD21_q10.out)))
        have hm22 := hm22.blk (hJ.block _ (hm22.lt) (fun k hk => by rcases k with _ | _ | _ | _ | k <;> first | (cases hk; done) | (cases hk; exact absurd rfl HD22_q10.out)))
        have ht6' := there_blk ht6' (hJ.block _ (there_lt ht6' (by omega)) (fun k hk => by rcases k with _ | _ | _ | _ | k <;> first | (cases hk; done) | (cases hk; exact absurd rfl (Ne.symm HD10_q6.out))))
        have ht7' := there_blk ht7' (hJ.block _ (there_lt ht7' (by omega)) (fun k hk => by rcases k with _ | _ | _ | _ | k <;> first | (cases hk; done) | (cases hk; exact absurd rfl (Ne.symm HN7_10.out))))
        have ht8' := there_blk ht8' (hJ.block _ (there_lt ht8' (by omega)) (fun k hk => by rcases k with _ | _ | _ | _ | k <;> first | (cases hk; done) | (cases hk; exact absurd rfl (Ne.symm HN8_10.out))))
        have hs23_3t := there_blk hs23_3t (hJ.block _ (there_lt hs23_3t (by omega)) (fun k hk => by rcases k with _ | _ | _ | _ | k <;> first | (cases hk; done) | (cases hk; exact absurd rfl (Ne.symm HN9_10.out))))
        have htk' := there_blk htk' (hJ.block _ (there_lt htk' (by omega)) (fun k hk => by rcases k with _ | _ | _ | _ | k <;> first | (cases hk; done) | (cases hk; exact absurd rfl (Ne.symm HD10_wheapsize.out))))
        have ht14 := there_blk ht14 (hJ.block _ (there_lt ht14 (by omega)) (fun k hk => by rcases k with _ | _ | _ | _ | k <;> first | (cases hk; done) | (cases hk; exact absurd rfl HD14_q10.out)))
        have ht15 := there_blk ht15 (hJ.block _ (there_lt ht15 (by omega)) (fun k hk => by rcases k with _ | _ | _ | _ | k <;> first | (cases hk; done) | (cases hk; exact absurd rfl HD15_q10.out)))
        have ht16 := there_blk ht16 (hJ.block _ (there_lt ht16 (by omega)) (fun k hk => by rcases k with _ | _ | _ | _ | k <;> first | (cases hk; done) | (cases hk; exact absurd rfl HD16_q10.out)))
        have ht17 := there_blk ht17 (hJ.block _ (there_lt ht17 (by omega)) (fun k hk => by rcases k with _ | _ | _ | _ | k <;> first | (cases hk; done) | (cases hk; exact absurd rfl HD17_q10.out)))
        have ht18 := there_blk ht18 (hJ.block _ (there_lt ht18 (by omega)) (fun k hk => by rcases k with _ | _ | _ | _ | k <;> first | (cases hk; done) | (cases hk; exact absurd rfl HD18_q10.out)))
        have ht19 := there_blk ht19 (hJ.block _ (there_lt ht19 (by omega)) (fun k hk => by rcases k with _ | _ | _ | _ | k <;> first | (cases hk; done) | (cases hk; exact absurd rfl HD19_q10.out)))
        have ht20 := there_blk ht20 (hJ.block _ (there_lt ht20 (by omega)) (fun k hk => by rcases k with _ | _ | _ | _ | k <;> first | (cases hk; done) | (cases hk; exact absurd rfl HD20_q10.out)))
        have ht21 := there_blk ht21 (hJ.block _ (there_lt ht21 (by omega)) (fun k hk => by rcases k with _ | _ | _ | _ | k <;> first | (cases hk; done) | (cases hk; exact absurd rfl HD21_q10.out)))
        have ht22 := there_blk ht22 (hJ.block _ (there_lt ht22 (by omega)) (fun k hk => by rcases k with _ | _ | _ | _ | k <;> first | (cases hk; done) | (cases hk; exact absurd rfl HD22_q10.out)))
        have hK' := Lib.hid (blk_keep hK'.out (hJ.block _ (hK'.out.lt) (fun k hk => by rcases k with _ | _ | _ | _ | k <;> first | (cases hk; done) | (cases hk; exact absurd rfl (Ne.symm HD10_wheapsize.out)))))
        obtain ⟨_, hs24_3t, hs24_3⟩ := (show _ ∧ W24n.there q10 0 16 ∧ HasFs rR W24n q10 0 [((B.x - B.z) * (A.x + A.z)) - ((B.x + B.z) * (A.x - A.z))] from hG 3 (by simp))
        have hbel0 := hbel
        clear hJ hG hall hb
        go_upto_region 25 with fail
        refine wp_region_mid (fun u => (.slice a n cap :: .slice b m cap' :: undef :: undef :: .slice none 0 0 :: .slice (some ⟨w.heap.size, 0, none⟩) 32 32 :: u2 2 :: u3 4 :: u3 5 :: u3 6 :: u3 7 :: u12n 1 :: .int .i64 (i : Int) :: .int .i64 (b2i bt) :: u13n 3 :: u14n 3 :: u15n 3 :: u16n 3 :: u17n 3 :: u18n 3 :: u19n 3 :: u20n 3 :: u21n 3 :: .slice a n cap :: .slice (some ⟨w.heap.size, 0, none⟩) 32 32 :: u2 0 :: u2 1 :: u3 0 :: u3 1 :: u3 2 :: u3 3 :: .int .i64 (i : Int) :: .bool true :: u33 :: u34 :: .slice (some ⟨w.heap.size, 0, none⟩) 32 32 :: .int .i64 (i : Int) :: .int .i64 (↑i / 8) :: .pointer (some ⟨w.heap.size, i / 8, none⟩) :: .int .u8 (c.toNat : Int) :: .int .i64 (i : Int) :: .int .i64 (↑i % 8) :: .int .u8 (↑c.toNat / 2 ^ (i % 8)) :: .int .u8 (b2i bt) :: .int .i64 (b2i bt) :: .int .i64 (b2i was) :: .int .i64 (b2i bt) :: .bool false :: u48 :: u49 :: u50 :: u51 :: u12n 0 :: u13n 0 :: u13n 1 :: u13n 2 :: u14n 0 :: u14n 1 :: u14n 2 :: u15n 0 :: u15n 1 :: u15n 2 :: u16n 0 :: u16n 1 :: u16n 2 :: u17n 0 :: u17n 1 :: u17n 2 :: u18n 0 :: u18n 1 :: u18n 2 :: u19n 0 :: u19n 1 :: u19n 2 :: u20n 0 :: u20n 1 :: u20n 2 :: u21n 0 :: u21n 1 :: u21n 2 :: u22n 0 :: u22n 1 :: u22n 2 :: u23n 0 :: u23n 1 :: u23n 2 :: u24n 0 :: u24n 1 :: u24n 2 :: u 0 :: u 1 :: u 2 :: u 3 :: u 4 :: u94 :: u95 :: u96 :: u97 :: u98 :: u99 :: u100 :: u101 :: u102 :: u103 :: undef :: undef :: undef :: undef :: undef :: undef :: undef :: undef :: undef :: []).toArray) (Holds [.val rR [U], .val rR [((B.x - B.z) * (A.x + A.z)) - ((B.x + B.z) * (A.x - A.z))], .val rR [((B.x - B.z) * (A.x + A.z)) - ((B.x + B.z) * (A.x - A.z))], .val rR [(((B.x - B.z) * (A.x + A.z)) - ((B.x + B.z) * (A.x - A.z))) * (((B.x - B.z) * (A.x + A.z)) - ((B.x + B.z) * (A.x - A.z)))], .val rR [U * ((((B.x - B.z) * (A.x + A.z)) - ((B.x + B.z) * (A.x - A.z))) * (((B.x - B.z) * (A.x + A.z)) - ((B.x + B.z) * (A.x - A.z))))], .sto q10 rR [U * ((((B.x - B.z) * (A.x + A.z)) - ((B.x + B.z) * (A.x - A.z))) * (((B.x - B.z) * (A.x + A.z)) - ((B.x + B.z) * (A.x - A.z))))]] W24n) (Keep [.val rR [U], .val rR [((B.x - B.z) * (A.x + A.z)) - ((B.x + B.z) * (A.x - A.z))], .val rR [((B.x - B.z) * (A.x + A.z)) - ((B.x + B.z) * (A.x - A.z))], .val rR [(((B.x - B.z) * (A.x + A.z)) - ((B.x + B.z) * (A.x - A.z))) * (((B.x - B.z) * (A.x + A.z)) - ((B.x + B.z) * (A.x - A.z)))], .val rR [U * ((((B.x - B.z) * (A.x + A.z)) - ((B.x + B.z) * (A.x - A.z))) * (((B.x - B.z) * (A.x + A.z)) - ((B.x + B.z) * (A.x - A.z))))], .sto q10 rR [U * ((((B.x - B.z) * (A.x + A.z)) - ((B.x + B.z) * (A.x - A.z))) * (((B.x - B.z) * (A.x + A.z)) - ((B.x + B.z) * (A.x - A.z))))]] W24n) (fun k => ([u89, u90, u91, u92, u93, undef] : List Value).getD k undef) (by kernel_rfl) (by kernel_rfl) ?_ (by rfl) Keep.drew (holds_soft (by kernel_rfl)) ?_ ?_
        · intro u i v h
          rcases i with _ | _ | _ | _ | _ | _ | i
          all_goals first | (simp [Act.put, putV]; done) | (exfalso; simp at h; omega)
        · intro hs
          refine ⟨?_, ?_, ?_, ?_, ?_, ?_, trivial⟩
          · exact step_load q6 0 hs (wants_none rfl) rfl rfl tyFe (fun _ => E6.out) hm6'.lt hm6' (fun k g hk => by rcases k with _ | _ | _ | _ | _ | _ | k <;> first | (cases hk; done) | (cases hk; exact .inr (Ne.symm HD10_q6.out)))
          · exact step_load q10 0 hs (wants_none rfl) rfl rfl tyFe (fun _ => E10.out) hs24_3.lt hs24_3 (fun k g hk => by rcases k with _ | _ | _ | _ | _ | _ | k <;> first | (cases hk; done) | (cases hk; exact .inl (by kernel_rfl)))
          · exact step_load q10 0 hs (wants_none rfl) rfl rfl tyFe (fun _ => E10.out) hs24_3.lt hs24_3 (fun k g hk => by rcases k with _ | _ | _ | _ | _ | _ | k <;> first | (cases hk; done) | (cases hk; exact .inl (by kernel_rfl)))
          · refine step_call hs (wants_none rfl) rfl fun L u W hJ hG hL hdep K hK => ?_
            have a0 := (show IsFs rR (u 1) [((B.x - B.z) * (A.x + A.z)) - ((B.x + B.z) * (A.x - A.z))] from hG 1 (hdep 1 (by kernel_rfl)))
            have a1 := (show IsFs rR (u 2) [((B.x - B.z) * (A.x + A.z)) - ((B.x + B.z) * (A.x - A.z))] from hG 2 (hdep 2 (by kernel_rfl)))
            go_simp
            go_at_call 33
            (with_reducible refine (kMul a0 a1 _).mono ?_); rintro e w1 ⟨r, rfl, hr, hb⟩
            have hk := hK.out _ _ hr hb
            exact hk
          · refine step_call hs (wants_none rfl) rfl fun L u W hJ hG hL hdep K hK => ?_
            have a0 := (show IsFs rR (u 0) [U] from hG 0 (hdep 0 (by kernel_rfl)))
            have a1 := (show IsFs rR (u 3) [(((B.x - B.z) * (A.x + A.z)) - ((B.x + B.z) * (A.x - A.z))) * (((B.x - B.z) * (A.x + A.z)) - ((B.x + B.z) * (A.x - A.z)))] from hG 3 (hdep 3 (by kernel_rfl)))
            go_simp
            go_at_call 33
            (with_reducible refine (kMul a0 a1 _).mono ?_); rintro e w1 ⟨r, rfl, hr, hb⟩
            have hk := hK.out _ _ hr hb
            exact hk
          · refine step_storeO q10 16 hs (wants_none rfl) rfl rfl (by kernel_rfl) (fun k hk => ?_) (fun _ => E10.out) (there_lt hs24_3t (by omega)) hs24_3t (gives_op 4 rfl (by kernel_rfl) (fun _ => rfl)) tyFe rfl
            rcases k with _ | _ | _ | _ | _ | _ | k
            all_goals first | (exact absurd rfl hk) | (intro e; cases e; done)
        intro L25 u25n W25n hall hJ hG
        have hb : Below w.heap.size W24n W25n := hJ.below (by have := hbel.size; omega) (fun k b hf => by rcases k with _ | _ | _ | _ | _ | _ | k <;> first | (cases hf; done) | (cases hf; omega))
        have hbel := hbel.trans hb
        have hm6' := hm6'.blk (hJ.block _ (hm6'.lt) (fun k hk => by rcases k with _ | _ | _ | _ | _ | _ | k <;> first | (cases hk; done) | (cases hk; exact absurd rfl (Ne.symm HD10_q6.out))))
        have hm7' := hm7'.blk (hJ.block _ (hm7'.lt) (fun k hk => by rcases k with _ | _ | _ | _ | _ | _ | k <;> first | (cases hk; done) | (cases hk; exact absurd rfl (Ne.symm HN7_10.out))))
        have hm8' := hm8'.blk (hJ.block _ (hm8'.lt) (fun k hk => by rcases k with _ | _ | _ | _ | _ | _ | k <;> first | (cases hk; done) | (cases hk; exact absurd rfl (Ne.symm HN8_10.out))))
        have hs23_3 := hs23_3.blk (hJ.block _ (hs23_3.lt) (fun k hk => by rcases k with _ | _ | _ | _ | _ | _ | k <;> first | (cases hk; done) | (cases hk; exact absurd rfl (Ne.symm HN9_10.out))))
        have hm14 := hm14.blk (hJ.block _ (hm14.lt) (fun k hk => by rcases k with _ | _ | _ | _ | _ | _ | k <;> first | (cases hk; done) | (cases hk; exact absurd rfl HD14_q10.out)))
        have hm15 := hm15.blk (hJ.block _ (hm15.lt) (fun k hk => by rcases k with _ | _ | _ | _ | _ | _ | k <;> first | (cases hk; done) | (cases hk; exact absurd rfl HD15_q10.out)))
        have hm16 := hm16.blk (hJ.block _ (hm16.lt) (fun k hk => by rcases k with _ | _ | _ | _ | _ | _ | k <;> first | (cases hk; done) | (cases hk; exact absurd rfl HD16_q10.out)))
        have hm17 := hm17.blk (hJ.block _ (hm17.lt) (fun k hk => by rcases k with _ | _ | _ | _ | _ | _ | k <;> first | (cases hk; done) | (cases hk; exact absurd rfl HD17_q10.out)))
        have hm18 := hm18.blk (hJ.block _ (hm18.lt) (fun k hk => by rcases k with _ | _ | _ | _ | _ | _ | k <;> first | (cases hk; done) | (cases hk; exact absurd rfl HD18_q10.out)))
        have hm19 := hm19.blk (hJ.block _ (hm19.lt) (fun k hk => by rcases k with _ | _ | _ | _ | _ | _ | k <;> first | (cases hk; done) | (cases hk; exact absurd rfl HD19_q10.out)))
        have hm20 := hm20.blk (hJ.block _ (hm20.lt) (fun k hk => by rcases k with _ | _ | _ | _ | _ | _ | k <;> first | (cases hk; done) | (cases hk; exact absurd rfl HD20_q10.out)))
        have hm21 := hm21.blk (hJ.block _ (hm21.lt) (fun k hk => by rcases k with _ | _ | _ | _ | _ | _ | k <;> first | (cases hk; done) | (cases hk; exact absurd rfl HD21_q10.out)))
        have hm22 := hm22.blk (hJ.block _ (hm22.lt) (fun k hk => by rcases k with _ | _ | _ | _ | _ | _ | k <;> first | (cases hk; done) | (cases hk; exact absurd rfl HD22_q10.out)))
        have ht6' := there_blk ht6' (hJ.block _ (there_lt ht6' (by omega)) (fun k hk => by rcases k with _ | _ | _ | _ | _ | _ | k <;> first | (cases hk; done) | (cases hk; exact absurd rfl (Ne.symm HD10_q6.out))))
        have ht7' := there_blk ht7' (hJ.block _ (there_lt ht7' (by omega)) (fun k hk => by rcases k with _ | _ | _ | _ | _ | _ | k <;> first | (cases hk; done) | (cases hk; exact absurd rfl (Ne.symm HN7_10.out))))
        have ht8' := there_blk ht8' (hJ.block _ (there_lt ht8' (by omega)) (fun k hk => by rcases k with _ | _ | _ | _ | _ | _ | k <;> first | (cases hk; done) | (cases hk; exact absurd rfl (Ne.symm HN8_10.out))))
        have hs23_3t := there_blk hs23_3t (hJ.block _ (there_lt hs23_3t (by omega)) (fun k hk => by rcases k with _ | _ | _ | _ | _ | _ | k <;> first | (cases hk; done) | (cases hk; exact absurd rfl (Ne.symm HN9_10.out))))
        have htk' := there_blk htk' (hJ.block _ (there_lt htk' (by omega)) (fun k hk => by rcases k with _ | _ | _ | _ | _ | _ | k <;> first | (cases hk; done) | (cases hk; exact absurd rfl (Ne.symm HD10_wheapsize.out))))
        have ht14 := there_blk ht14 (hJ.block _ (there_lt ht14 (by omega)) (fun k hk => by rcases k with _ | _ | _ | _ | _ | _ | k <;> first | (cases hk; done) | (cases hk; exact absurd rfl HD14_q10.out)))
        have ht15 := there_blk ht15 (hJ.block _ (there_lt ht15 (by omega)) (fun k hk => by rcases k with _ | _ | _ | _ | _ | _ | k <;> first | (cases hk; done) | (cases hk; exact absurd rfl HD15_q10.out)))
        have ht16 := there_blk ht16 (hJ.block _ (there_lt ht16 (by omega)) (fun k hk => by rcases k with _ | _ | _ | _ | _ | _ | k <;> first | (cases hk; done) | (cases hk; exact absurd rfl HD16_q10.out)))
        have ht17 := there_blk ht17 (hJ.block _ (there_lt ht17 (by omega)) (fun k hk => by rcases k with _ | _ | _ | _ | _ | _ | k <;> first | (cases hk; done) | (cases hk; exact absurd rfl HD17_q10.out)))
        have ht18 := there_blk ht18 (hJ.block _ (there_lt ht18 (by omega)) (fun k hk => by rcases k with _ | _ | _ | _ | _ | _ | k <;> first | (cases hk; done) | (cases hk; exact absurd rfl HD18_q10.out)))
        have ht19 := there_blk ht19 (hJ.block _ (there_lt ht19 (by omega)) (fun k hk => by rcases k with _ | _ | _ | _ | _ | _ | k <;> first | (cases hk; done) | (cases hk; exact absurd rfl HD19_q10.out)))
        have ht20 := there_blk ht20 (hJ.block _ (there_lt ht20 (by omega)) (fun k hk => by rcases k with _ | _ | _ | _ | _ | _ | k <;> first | (cases hk; done) | (cases hk; exact absurd rfl HD20_q10.out)))
        have ht21 := there_blk ht21 (hJ.block _ (there_lt ht21 (by omega)) (fun k hk => by rcases k with _ | _ | _ | _ | _ | _ | k <;> first | (cases hk; done) | (cases hk; exact absurd rfl HD21_q10.out)))
        have ht22 := there_blk ht22 (hJ.block _ (there_lt ht22 (by omega)) (fun k hk => by rcases k with _ | _ | _ | _ | _ | _ | k <;> first | (cases hk; done) | (cases hk; exact absurd rfl HD22_q10.out)))
        have hK' := Lib.hid (blk_keep hK'.out (hJ.block _ (hK'.out.lt) (fun k hk => by rcases k with _ | _ | _ | _ | _ | _ | k <;> first | (cases hk; done) | (cases hk; exact absurd rfl (Ne.symm HD10_wheapsize.out)))))
        obtain ⟨_, hs25_5t, hs25_5⟩ := (show _ ∧ W25n.there q10 0 16 ∧ HasFs rR W25n q10 0 [U * ((((B.x - B.z) * (A.x + A.z)) - ((B.x + B.z) * (A.x - A.z))) * (((B.x - B.z) * (A.x + A.z)) - ((B.x + B.z) * (A.x - A.z))))] from hG 5 (by simp))
        have hbel0 := hbel
        clear hJ hG hall hb
        go_upto_region 26 with fail
        refine wp_region_turn (fun u => (.slice a n cap :: .slice b m cap' :: undef :: undef :: .slice none 0 0 :: .slice (some ⟨w.heap.size, 0, none⟩) 32 32 :: u2 2 :: u3 4 :: u3 5 :: u3 6 :: u3 7 :: u12n 1 :: .int .i64 (i : Int) :: .int .i64 (b2i bt) :: u13n 3 :: u14n 3 :: u15n 3 :: u16n 3 :: u17n 3 :: u18n 3 :: u19n 3 :: u20n 3 :: u21n 3 :: .slice a n cap :: .slice (some ⟨w.heap.size, 0, none⟩) 32 32 :: u2 0 :: u2 1 :: u3 0 :: u3 1 :: u3 2 :: u3 3 :: .int .i64 (i : Int) :: .bool true :: u33 :: u34 :: .slice (some ⟨w.heap.size, 0, none⟩) 32 32 :: .int .i64 (i : Int) :: .int .i64 (↑i / 8) :: .pointer (some ⟨w.heap.size, i / 8, none⟩) :: .int .u8 (c.toNat : Int) :: .int .i64 (i : Int) :: .int .i64 (↑i % 8) :: .int .u8 (↑c.toNat / 2 ^ (i % 8)) :: .int .u8 (b2i bt) :: .int .i64 (b2i bt) :: .int .i64 (b2i was) :: .int .i64 (b2i bt) :: .bool false :: u48 :: u49 :: u50 :: u51 :: u12n 0 :: u13n 0 :: u13n 1 :: u13n 2 :: u14n 0 :: u14n 1 :: u14n 2 :: u15n 0 :: u15n 1 :: u15n 2 :: u16n 0 :: u16n 1 :: u16n 2 :: u17n 0 :: u17n 1 :: u17n 2 :: u18n 0 :: u18n 1 :: u18n 2 :: u19n 0 :: u19n 1 :: u19n 2 :: u20n 0 :: u20n 1 :: u20n 2 :: u21n 0 :: u21n 1 :: u21n 2 :: u22n 0 :: u22n 1 :: u22n 2 :: u23n 0 :: u23n 1 :: u23n 2 :: u24n 0 :: u24n 1 :: u24n 2 :: u25n 0 :: u25n 1 :: u25n 2 :: u25n 3 :: u25n 4 :: u 0 :: u 1 :: u 2 :: u97 :: u98 :: u99 :: u100 :: u101 :: u102 :: u103 :: undef :: undef :: undef :: undef :: undef :: undef :: undef :: undef :: undef :: []).toArray) (Holds [.val rR [(A.x + A.z) * (A.x + A.z)], .val rR [(A.x - A.z) * (A.x - A.z)], .val rR [((A.x + A.z) * (A.x + A.z)) * ((A.x - A.z) * (A.x - A.z))], .sto q7 rR [((A.x + A.z) * (A.x + A.z)) * ((A.x - A.z) * (A.x - A.z))]] W25n) (Keep [.val rR [(A.x + A.z) * (A.x + A.z)], .val rR [(A.x - A.z) * (A.x - A.z)], .val rR [((A.x + A.z) * (A.x + A.z)) * ((A.x - A.z) * (A.x - A.z))], .sto q7 rR [((A.x + A.z) * (A.x + A.z)) * ((A.x - A.z) * (A.x - A.z))]] W25n) (fun k => ([u94, u95, u96, undef] : List Value).getD k undef) ?_ (by rfl) Keep.start (holds_soft (by kernel_rfl)) ?_ ?_
        · intro u i v h
          rcases i with _ | _ | _ | _ | i
          all_goals first | (simp [Act.put, putV]; done) | (exfalso; simp at h; omega)
        · intro hs
          refine ⟨?_, ?_, ?_, ?_, trivial⟩
          · exact step_load q15 0 hs (wants_none rfl) rfl rfl tyFe (fun _ => E15.out) hm15.lt hm15 (fun k g hk => by rcases k with _ | _ | _ | _ | k <;> first | (cases hk; done) | (cases hk; exact .inr HD15_q7.out))
          · exact step_load q17 0 hs (wants_none rfl) rfl rfl tyFe (fun _ => E17.out) hm17.lt hm17 (fun k g hk => by rcases k with _ | _ | _ | _ | k <;> first | (cases hk; done) | (cases hk; exact .inr HD17_q7.out))
          · refine step_call hs (wants_none rfl) rfl fun L u W hJ hG hL hdep K hK => ?_
            have a0 := (show IsFs rR (u 0) [(A.x + A.z) * (A.x + A.z)] from hG 0 (hdep 0 (by kernel_rfl)))
            have a1 := (show IsFs rR (u 1) [(A.x - A.z) * (A.x - A.z)] from hG 1 (hdep 1 (by kernel_rfl)))
            go_simp
            go_at_call 33
            (with_reducible refine (kMul a0 a1 _).mono ?_); rintro e w1 ⟨r, rfl, hr, hb⟩
            have hk := hK.out _ _ hr hb
            exact hk
          · refine step_storeO q7 16 hs (wants_none rfl) rfl rfl (by kernel_rfl) (fun k hk => ?_) (fun _ => E7.out) (there_lt ht7' (by omega)) ht7' (gives_op 2 rfl (by kernel_rfl) (fun _ => rfl)) tyFe rfl
            rcases k with _ | _ | _ | _ | k
            all_goals first | (exact absurd rfl hk) | (intro e; cases e; done)
        intro L26 u26n W26n hall hJ hG
        have hb : Below w.heap.size W25n W26n := hJ.below (by have := hbel.size; omega) (fun k b hf => by rcases k with _ | _ | _ | _ | k <;> first | (cases hf; done) | (cases hf; omega))
        have hbel := hbel.trans hb
        have hm6' := hm6'.blk (hJ.block _ (hm6'.lt) (fun k hk => by rcases k with _ | _ | _ | _ | k <;> first | (cases hk; done) | (cases hk; exact absurd rfl (Ne.symm HD7_q6.out))))
        have hm8' := hm8'.blk (hJ.block _ (hm8'.lt) (fun k hk => by rcases k with _ | _ | _ | _ | k <;> first | (cases hk; done) | (cases hk; exact absurd rfl HN7_8.out)))
        have hs23_3 := hs23_3.blk (hJ.block _ (hs23_3.lt) (fun k hk => by rcases k with _ | _ | _ | _ | k <;> first | (cases hk; done) | (cases hk; exact absurd rfl HN7_9.out)))
        have hs25_5 := hs25_5.blk (hJ.block _ (hs25_5.lt) (fun k hk => by rcases k with _ | _ | _ | _ | k <;> first | (cases hk; done) | (cases hk; exact absurd rfl HN7_10.out)))
        have hm14 := hm14.blk (hJ.block _ (hm14.lt) (fun k hk => by rcases k with _ | _ | _ | _ | k <;> first | (cases hk; done) | (cases hk; exact absurd rfl HD14_q7.out)))
        have hm15 := hm15.blk (hJ.block _ (hm15.lt) (fun k hk => by rcases k with _ | _ | _ | _ | k <;> first | (cases hk; done) | (cases hk; exact absurd rfl HD15_q7.out)))
        have hm16 := hm16.blk (hJ.block _ (hm16.lt) (fun k hk => by rcases k with _ | _ | _ | _ | k <;> first | (cases hk; done) | (cases hk; exact absurd rfl HD16_q7.out)))
        have hm17 := hm17.blk (hJ.block _ (hm17.lt) (fun k hk => by rcases k with _ | _ | _ | _ | k <;> first | (cases hk; done) | (cases hk; exact absurd rfl HD17_q7.out)))
        have hm18 := hm18.blk (hJ.block _ (hm18.lt) (fun k hk => by rcases k with _ | _ | _ | _ | k <;> first | (cases hk; done) | (cases hk; exact absurd rfl HD18_q7.out)))
        have hm19 := hm19.blk (hJ.block _ (hm19.lt) (fun k hk => by rcases k with _ | _ | _ | _ | k <;> first | (cases hk; done) | (cases hk; exact absurd rfl HD19_q7.out)))
        have hm20 := hm20.blk (hJ.block _ (hm20.lt) (fun k hk => by rcases k with _ | _ | _ | _ | k <;> first | (cases hk; done) | (cases hk; exact absurd rfl HD20_q7.out)))
        have hm21 := hm21.blk (hJ.block _ (hm21.lt) (fun k hk => by rcases k with _ | _ | _ | _ | k <;> first | (cases hk; done) | (cases hk; exact absurd rfl HD21_q7.out)))
        have hm22 := hm22.blk (hJ.block _ (hm22.lt) (fun k hk => by rcases k with _ | _ | _ | _ | k <;> first | (cases hk; done) | (cases hk; exact absurd rfl HD22_q7.out)))
        have ht6' := there_blk ht6' (hJ.block _ (there_lt ht6' (by omega)) (fun k hk => by rcases k with _ | _ | _ | _ | k <;> first | (cases hk; done) | (cases hk; exact absurd rfl (Ne.symm HD7_q6.out))))
        have ht8' := there_blk ht8' (hJ.block _ (there_lt ht8' (by omega)) (fun k hk => by rcases k with _ | _ | _ | _ | k <;> first | (cases hk; done) | (cases hk; exact absurd rfl HN7_8.out)))
        have hs23_3t := there_blk hs23_3t (hJ.block _ (there_lt hs23_3t (by omega)) (fun k hk => by rcases k with _ | _ | _ | _ | k <;> first | (cases hk; done) | (cases hk; exact absurd rfl HN7_9.out)))
        have hs25_5t := there_blk hs25_5t (hJ.block _ (there_lt hs25_5t (by omega)) (fun k hk => by rcases k with _ | _ | _ | _ | k <;> first | (cases hk; done) | (cases hk; exact absurd rfl HN7_10.out)))
        have htk' := there_blk htk' (hJ.block _ (there_lt htk' (by omega)) (fun k hk => by rcases k with _ | _ | _ | _ | k <;> first | (cases hk; done) | (cases hk; exact absurd rfl (Ne.symm HD7_wheapsize.out))))
        have ht14 := there_blk ht14 (hJ.block _ (there_lt ht14 (by omega)) (fun k hk => by rcases k with _ | _ | _ | _ | k <;> first | (cases hk; done) | (cases hk; exact absurd rfl HD14_q7.out)))
        have ht15 := there_blk ht15 (hJ.block _ (there_lt ht15 (by omega)) (fun k hk => by rcases k with _ | _ | _ | _ | k <;> first | (cases hk; done) | (cases hk; exact absurd rfl HD15_q7.out)))
        have ht16 := there_blk ht16 (hJ.block _ (there_lt ht16 (by omega)) (fun k hk => by rcases k with _ | _ | _ | _ | k <;> first | (cases hk; done) | (cases hk; exact absurd rfl HD16_q7.out)))
        have ht17 := there_blk ht17 (hJ.block _ (there_lt ht17 (by omega)) (fun k hk => by rcases k with _ | _ | _ | _ | k <;> first | (cases hk; done) | (cases hk; exact absurd rfl HD17_q7.out)))
        have ht18 := there_blk ht18 (hJ.block _ (there_lt ht18 (by omega)) (fun k hk => by rcases k with _ | _ | _ | _ | k <;> first | (cases hk; done) | (cases hk; exact absurd rfl HD18_q7.out)))
        have ht19 := there_blk ht19 (hJ.block _ (there_lt ht19 (by omega)) (fun k hk => by rcases k with _ | _ | _ | _ | k <;> first | (cases hk; done) | (cases hk; exact absurd rfl HD19_q7.out)))
        have ht20 := there_blk ht20 (hJ.block _ (there_lt ht20 (by omega)) (fun k hk => by rcases k with _ | _ | _ | _ | k <;> first | (cases hk; done) | (cases hk; exact absurd rfl HD20_q7.out)))
        have ht21 := there_blk ht21 (hJ.block _ (there_lt ht21 (by omega)) (fun k hk => by rcases k with _ | _ | _ | _ | k <;> first | (cases hk; done) | (cases hk; exact absurd rfl HD21_q7.out)))
        have ht22 := there_blk ht22 (hJ.block _ (there_lt ht22 (by omega)) (fun k hk => by rcases k with _ | _ | _ | _ | k <;> first | (cases hk; done) | (cases hk; exact absurd rfl HD22_q7.out)))
        have hK' := Lib.hid (blk_keep hK'.out (hJ.block _ (hK'.out.lt) (fun k hk => by rcases k with _ | _ | _ | _ | k <;> first | (cases hk; done) | (cases hk; exact absurd rfl (Ne.symm HD7_wheapsize.out)))))
        obtain ⟨_, hs26_3t, hs26_3⟩ := (show _ ∧ W26n.there q7 0 16 ∧ HasFs rR W26n q7 0 [((A.x + A.z) * (A.x + A.z)) * ((A.x - A.z) * (A.x - A.z))] from hG 3 (by simp))
        have hbel0 := hbel
        clear hJ hG hall hb
        go_upto_region 27 with fail
        refine wp_region_mid (fun u => (.slice a n cap :: .slice b m cap' :: undef :: undef :: .slice none 0 0 :: .slice (some ⟨w.heap.size, 0, none⟩) 32 32 :: u2 2 :: u3 4 :: u3 5 :: u3 6 :: u3 7 :: u12n 1 :: .int .i64 (i : Int) :: .int .i64 (b2i bt) :: u13n 3 :: u14n 3 :: u15n 3 :: u16n 3 :: u17n 3 :: u18n 3 :: u19n 3 :: u20n 3 :: u21n 3 :: .slice a n cap :: .slice (some ⟨w.heap.size, 0, none⟩) 32 32 :: u2 0 :: u2 1 :: u3 0 :: u3 1 :: u3 2 :: u3 3 :: .int .i64 (i : Int) :: .bool true :: u33 :: u34 :: .slice (some ⟨w.heap.size, 0, none⟩) 32 32 :: .int .i64 (i : Int) :: .int .i64 (↑i / 8) :: .pointer (some ⟨w.heap.size, i / 8, none⟩) :: .int .u8 (c.toNat : Int) :: .int .i64 (i : Int) :: .int .i64 (↑i % 8) :: .int .u8 (↑c.toNat / 2 ^ (i % 8)) :: .int .u8 (b2i bt) :: .int .i64 (b2i bt) :: .int .i64 (b2i was) :: .int .i64 (b2i bt) :: .bool false :: u48 :: u49 :: u50 :: u51 :: u12n 0 :: u13n 0 :: u13n 1 :: u13n 2 :: u14n 0 :: u14n 1 :: u14n 2 :: u15n 0 :: u15n 1 :: u15n 2 :: u16n 0 :: u16n 1 :: u16n 2 :: u17n 0 :: u17n 1 :: u17n 2 :: u18n 0 :: u18n 1 :: u18n 2 :: u19n 0 :: u19n 1 :: u19n 2 :: u20n 0 :: u20n 1 :: u20n 2 :: u21n 0 :: u21n 1 :: u21n 2 :: u22n 0 :: u22n 1 :: u22n 2 :: u23n 0 :: u23n 1 :: u23n 2 :: u24n 0 :: u24n 1 :: u24n 2 :: u25n 0 :: u25n 1 :: u25n 2 :: u25n 3 :: u25n 4 :: u26n 0 :: u26n 1 :: u26n 2 :: u 0 :: u 1 :: u 2 :: u 3 :: u 4 :: u 5 :: u 6 :: undef :: undef :: undef :: undef :: undef :: undef :: undef :: undef :: undef :: []).toArray) (Holds [.val rR [((A.x + A.z) * (A.x + A.z)) - ((A.x - A.z) * (A.x - A.z))], .val rR [(A.x + A.z) * (A.x + A.z)], .val rR [fn 121665], .val rR [((A.x + A.z) * (A.x + A.z)) - ((A.x - A.z) * (A.x - A.z))], .val rR [(fn 121665) * (((A.x + A.z) * (A.x + A.z)) - ((A.x - A.z) * (A.x - A.z)))], .val rR [((A.x + A.z) * (A.x + A.z)) + ((fn 121665) * (((A.x + A.z) * (A.x + A.z)) - ((A.x - A.z) * (A.x - A.z))))], .val rR [(((A.x + A.z) * (A.x + A.z)) - ((A.x - A.z) * (A.x - A.z))) * (((A.x + A.z) * (A.x + A.z)) + ((fn 121665) * (((A.x + A.z) * (A.x + A.z)) - ((A.x - A.z) * (A.x - A.z)))))], .sto q8 rR [(((A.x + A.z) * (A.x + A.z)) - ((A.x - A.z) * (A.x - A.z))) * (((A.x + A.z) * (A.x + A.z)) + ((fn 121665) * (((A.x + A.z) * (A.x + A.z)) - ((A.x - A.z) * (A.x - A.z)))))]] W26n) (Keep [.val rR [((A.x + A.z) * (A.x + A.z)) - ((A.x - A.z) * (A.x - A.z))], .val rR [(A.x + A.z) * (A.x + A.z)], .val rR [fn 121665], .val rR [((A.x + A.z) * (A.x + A.z)) - ((A.x - A.z) * (A.x - A.z))], .val rR [(fn 121665) * (((A.x + A.z) * (A.x + A.z)) - ((A.x - A.z) * (A.x - A.z)))], .val rR [((A.x + A.z) * (A.x + A.z)) + ((fn 121665) * (((A.x + A.z) * (A.x + A.z)) - ((A.x - A.z) * (A.x - A.z))))], .val rR [(((A.x + A.z) * (A.x + A.z)) - ((A.x - A.z) * (A.x - A.z))) * (((A.x + A.z) * (A.x + A.z)) + ((fn 121665) * (((A.x + A.z) * (A.x + A.z)) - ((A.x - A.z) * (A.x - A.z)))))], .sto q8 rR [(((A.x + A.z) * (A.x + A.z)) - ((A.x - A.z) * (A.x - A.z))) * (((A.x + A.z) * (A.x + A.z)) + ((fn 121665) * (((A.x + A.z) * (A.x + A.z)) - ((A.x - A.z) * (A.x - A.z)))))]] W26n) (fun k => ([u97, u98, u99, u100, u101, u102, u103, undef] : List Value).getD k undef) (by kernel_rfl) (by kernel_rfl) ?_ (by rfl) Keep.drew (holds_soft (by kernel_rfl)) ?_ ?_
        · intro u i v h
          rcases i with _ | _ | _ | _ | _ | _ | _ | _ | i
          all_goals first | (simp [Act.put, putV]; done) | (exfalso; simp at h; omega)
        · intro hs
          refine ⟨?_, ?_, ?_, ?_, ?_, ?_, ?_, ?_, trivial⟩
          · exact step_load q18 0 hs (wants_none rfl) rfl rfl tyFe (fun _ => E18.out) hm18.lt hm18 (fun k g hk => by rcases k with _ | _ | _ | _ | _ | _ | _ | _ | k <;> first | (cases hk; done) | (cases hk; exact .inr HD18_q8.out))
          · exact step_load q15 0 hs (wants_none rfl) rfl rfl tyFe (fun _ => E15.out) hm15.lt hm15 (fun k g hk => by rcases k with _ | _ | _ | _ | _ | _ | _ | _ | k <;> first | (cases hk; done) | (cases hk; exact .inr HD15_q8.out))
          · refine step_call hs (wants_none rfl) rfl fun L u W hJ hG hL hdep K hK => ?_
            go_simp
            go_at_call 31
            (with_reducible refine (kSmallI (n := 121665) (z := 121665) rfl (by omega) _).mono ?_); rintro e w1 ⟨r, rfl, hr, hb⟩
            have hk := hK.out _ _ hr hb
            exact hk
          · exact step_load q18 0 hs (wants_none rfl) rfl rfl tyFe (fun _ => E18.out) hm18.lt hm18 (fun k g hk => by rcases k with _ | _ | _ | _ | _ | _ | _ | _ | k <;> first | (cases hk; done) | (cases hk; exact .inr HD18_q8.out))
          · refine step_call hs (wants_none rfl) rfl fun L u W hJ hG hL hdep K hK => ?_
            have a0 := (show IsFs rR (u 2) [fn 121665] from hG 2 (hdep 2 (by kernel_rfl)))
            have a1 := (show IsFs rR (u 3) [((A.x + A.z) * (A.x + A.z)) - ((A.x - A.z) * (A.x - A.z))] from hG 3 (hdep 3 (by kernel_rfl)))
            go_simp
            go_at_call 33
            (with_reducible refine (kMul a0 a1 _).mono ?_); rintro e w1 ⟨r, rfl, hr, hb⟩
            have hk := hK.out _ _ hr hb
            exact hk
          · refine step_call hs (wants_none rfl) rfl fun L u W hJ hG hL hdep K hK => ?_
            have a0 := (show IsFs rR (u 1) [(A.x + A.z) * (A.x + A.z)] from hG 1 (hdep 1 (by kernel_rfl)))
            have a1 := (show IsFs rR (u 4) [(fn 121665) * (((A.x + A.z) * (A.x + A.z)) - ((A.x - A.z) * (A.x - A.z)))] from hG 4 (hdep 4 (by kernel_rfl)))
            go_simp
            go_at_call 32
            (with_reducible refine (kAdd a0 a1 _).mono ?_); rintro e w1 ⟨r, rfl, hr, hb⟩
            have hk := hK.out _ _ hr hb
            exact hk
          · refine step_call hs (wants_none rfl) rfl fun L u W hJ hG hL hdep K hK => ?_
            have a0 := (show IsFs rR (u 0) [((A.x + A.z) * (A.x + A.z)) - ((A.x - A.z) * (A.x - A.z))] from hG 0 (hdep 0 (by kernel_rfl)))
            have a1 := (show IsFs rR (u 5) [((A.x + A.z) * (A.x + A.z)) + ((fn 121665) * (((A.x + A.z) * (A.x + A.z)) - ((A.x - A.z) * (A.x - A.z))))] from hG 5 (hdep 5 (by kernel_rfl)))
            go_simp
            go_at_call 33
            (with_reducible refine (kMul a0 a1 _).mono ?_); rintro e w1 ⟨r, rfl, hr, hb⟩
            have hk := hK.out _ _ hr hb
            exact hk
          · refine step_storeO q8 16 hs (wants_none rfl) rfl rfl (by kernel_rfl) (fun k hk => ?_) (fun _ => E8.out) (there_lt ht8' (by omega)) ht8' (gives_op 6 rfl (by kernel_rfl) (fun _ => rfl)) tyFe rfl
            rcases k with _ | _ | _ | _ | _ | _ | _ | _ | k
            all_goals first | (exact absurd rfl hk) | (intro e; cases e; done)
        intro L27 u27n W27n hall hJ hG
        have hb : Below w.heap.size W26n W27n := hJ.below (by have := hbel.size; omega) (fun k b hf => by rcases k with _ | _ | _ | _ | _ | _ | _ | _ | k <;> first | (cases hf; done) | (cases hf; omega))
        have hbel := hbel.trans hb
        have hm6' := hm6'.blk (hJ.block _ (hm6'.lt) (fun k hk => by rcases k with _ | _ | _ | _ | _ | _ | _ | _ | k <;> first | (cases hk; done) | (cases hk; exact absurd rfl (Ne.symm HD8_q6.out))))
        have hs26_3 := hs26_3.blk (hJ.block _ (hs26_3.lt) (fun k hk => by rcases k with _ | _ | _ | _ | _ | _ | _ | _ | k <;> first | (cases hk; done) | (cases hk; exact absurd rfl (Ne.symm HN7_8.out))))
        have hs23_3 := hs23_3.blk (hJ.block _ (hs23_3.lt) (fun k hk => by rcases k with _ | _ | _ | _ | _ | _ | _ | _ | k <;> first | (cases hk; done) | (cases hk; exact absurd rfl HN8_9.out)))
        have hs25_5 := hs25_5.blk (hJ.block _ (hs25_5.lt) (fun k hk => by rcases k with _ | _ | _ | _ | _ | _ | _ | _ | k <;> first | (cases hk; done) | (cases hk; exact absurd rfl HN8_10.out)))
        have hm14 := hm14.blk (hJ.block _ (hm14.lt) (fun k hk => by rcases k with _ | _ | _ | _ | _ | _ | _ | _ | k <;> first | (cases hk; done) | (cases hk; exact absurd rfl HD14_q8.out)))
        have hm15 := hm15.blk (hJ.block _ (hm15.lt) (fun k hk => by rcases k with _ | _ | _ | _ | _ | _ | _ | _ | k <;> first | (cases hk; done) | (cases hk; exact absurd rfl HD15_q8.out)))
        have hm16 := hm16.blk (hJ.block _ (hm16.lt) (fun k hk => by rcases k with _ | _ | _ | _ | _ | _ | _ | _ | k <;> first | (cases hk; done) | (cases hk; exact absurd rfl HD16_q8.out)))
        have hm17 := hm17.blk (hJ.block _ (hm17.lt) (fun k hk => by rcases k with _ | _ | _ | _ | _ | _ | _ | _ | k <;> first | (cases hk; done) | (cases hk; exact absurd rfl HD17_q8.out)))
        have hm18 := hm18.blk (hJ.block _ (hm18.lt) (fun k hk => by rcases k with _ | _ | _ | _ | _ | _ | _ | _ | k <;> first | (cases hk; done) | (cases hk; exact absurd rfl HD18_q8.out)))
        have hm19 := hm19.blk (hJ.block _ (hm19.lt) (fun k hk => by rcases k with _ | _ | _ | _ | _ | _ | _ | _ | k <;> first | (cases hk; done) | (cases hk; exact absurd rfl HD19_q8.out)))
        have hm20 := hm20.blk (hJ.block _ (hm20.lt) (fun k hk => by rcases k with _ | _ | _ | _ | _ | _ | _ | _ | k <;> first | (cases hk; done) | (cases hk; exact absurd rfl HD20_q8.out)))
        have hm21 := hm21.blk (hJ.block _ (hm21.lt) (fun k hk => by rcases k with _ | _ | _ | _ | _ | _ | _ | _ | k <;> first | (cases hk; done) | (cases hk; exact absurd rfl HD21_q8.out)))
        have hm22 := hm22.blk (hJ.block _ (hm22.lt) (fun k hk => by rcases k with _ | _ | _ | _ | _ | _ | _ | _ | k <;> first | (cases hk; done) | (cases hk; exact absurd rfl HD22_q8.out)))
        have ht6' := there_blk ht6' (hJ.block _ (there_lt ht6' (by omega)) (fun k hk => by rcases k with _ | _ | _ | _ | _ | _ | _ | _ | k <;> first | (cases hk; done) | (cases hk; exact absurd rfl (Ne.symm HD8_q6.out))))
        have hs26_3t := there_blk hs26_3t (hJ.block _ (there_lt hs26_3t (by omega)) (fun k hk => by rcases k with _ | _ | _ | _ | _ | _ | _ | _ | k <;> first | (cases hk; done) | (cases hk; exact absurd rfl (Ne.symm HN7_8.out))))
        have hs23_3t := there_blk hs23_3t (hJ.block _ (there_lt hs23_3t (by omega)) (fun k hk => by rcases k with _ | _ | _ | _ | _ | _ | _ | _ | k <;> first | (cases hk; done) | (cases hk; exact absurd rfl HN8_9.out)))
        have hs25_5t := there_blk hs25_5t (hJ.block _ (there_lt hs25_5t (by omega)) (fun k hk => by rcases k with _ | _ | _ | _ | _ | _ | _ | _ | k <;> first | (cases hk; done) | (cases hk; exact absurd rfl HN8_10.out)))
        have htk' := there_blk htk' (hJ.block _ (there_lt htk' (by omega)) (fun k hk => by rcases k with _ | _ | _ | _ | _ | _ | _ | _ | k <;> first | (cases hk; done) | (cases hk; exact absurd rfl (Ne.symm HD8_wheapsize.out))))
        have ht14 := there_blk ht14 (hJ.block _ (there_lt ht14 (by omega)) (fun k hk => by rcases k with _ | _ | _ | _ | _ | _ | _ | _ | k <;> first | (cases hk; done) | (cases hk; exact absurd rfl HD14_q8.out)))
        have ht15 := there_blk ht15 (hJ.block _ (there_lt ht15 (by omega)) (fun k hk => by rcases k with _ | _ | _ | _ | _ | _ | _ | _ | k <;> first | (cases hk; done) | (cases hk; exact absurd rfl HD15_q8.out)))
        have ht16 := there_blk ht16 (hJ.block _ (there_lt ht16 (by omega)) (fun k hk => by rcases k with _ | _ | _ | _ | _ | _ | _ | _ | k <;> first | (cases hk; done) | (cases hk; exact absurd rfl HD16_q8.out)))
        have ht17 := there_blk ht17 (hJ.block _ (there_lt ht17 (by omega)) (fun k hk => by rcases k with _ | _ | _ | _ | _ | _ | _ | _ | k <;> first | (cases hk; done) | (cases hk; exact absurd rfl HD17_q8.out)))
        have ht18 := there_blk ht18 (hJ.block _ (there_lt ht18 (by omega)) (fun k hk => by rcases k with _ | _ | _ | _ | _ | _ | _ | _ | k <;> first | (cases hk; done) | (cases hk; exact absurd rfl HD18_q8.out)))
        have ht19 := there_blk ht19 (hJ.block _ (there_lt ht19 (by omega)) (fun k hk => by rcases k with _ | _ | _ | _ | _ | _ | _ | _ | k <;> first | (cases hk; done) | (cases hk; exact absurd rfl HD19_q8.out)))
        have ht20 := there_blk ht20 (hJ.block _ (there_lt ht20 (by omega)) (fun k hk => by rcases k with _ | _ | _ | _ | _ | _ | _ | _ | k <;> first | (cases hk; done) | (cases hk; exact absurd rfl HD20_q8.out)))
        have ht21 := there_blk ht21 (hJ.block _ (there_lt ht21 (by omega)) (fun k hk => by rcases k with _ | _ | _ | _ | _ | _ | _ | _ | k <;> first | (cases hk; done) | (cases hk; exact absurd rfl HD21_q8.out)))
        have ht22 := there_blk ht22 (hJ.block _ (there_lt ht22 (by omega)) (fun k hk => by rcases k with _ | _ | _ | _ | _ | _ | _ | _ | k <;> first | (cases hk; done) | (cases hk; exact absurd rfl HD22_q8.out)))
        have hK' := Lib.hid (blk_keep hK'.out (hJ.block _ (hK'.out.lt) (fun k hk => by rcases k with _ | _ | _ | _ | _ | _ | _ | _ | k <;> first | (cases hk; done) | (cases hk; exact absurd rfl (Ne.symm HD8_wheapsize.out)))))
        obtain ⟨_, hs27_7t, hs27_7⟩ := (show _ ∧ W27n.there q8 0 16 ∧ HasFs rR W27n q8 0 [(((A.x + A.z) * (A.x + A.z)) - ((A.x - A.z) * (A.x - A.z))) * (((A.x + A.z) * (A.x + A.z)) + ((fn 121665) * (((A.x + A.z) * (A.x + A.z)) - ((A.x - A.z) * (A.x - A.z)))))] from hG 7 (by simp))
        have hbel0 := hbel
        clear hJ hG hall hb
        go_wp2_with fail
        go_roundw
        case rel => exact ⟨i, bt, ⟨_, _⟩, ⟨_, _⟩, by omega, HC11.out, by go_num, hm6', hs26_3, hs27_7, hs23_3, hs25_5, ht6', hs26_3t, hs27_7t, hs23_3t, hs25_5t, htk', hK'.out, hbel, by rw [← HST.out]; exact lstep_no HSW.out HBT.out⟩
        case measure => simp [intOf]
    · obtain rfl : j = 0 := by omega
      have hz : (((0 : Nat) : Int) - 1) = -1 := by omega
      simp only [hz]
      have hb1 := b2i_one was
      clear hz h0
      by_cases hw : was = true
      · rw [hw] at hb1
        have HW := Lib.hid hw; clear hw
        have hb1' : (b2i was == 1) = true := by rw [HW.out]; rfl
        clear hb1
        go_upto_region 29 with fail
        have hbel := hbel'
        have hbel0 := hbel'
        have hK' := Lib.hid hK'
        clear hb1'
        refine wp_region_mid (fun u => (.slice a n cap :: .slice b m cap' :: undef :: undef :: .slice none 0 0 :: .slice (some ⟨w.heap.size, 0, none⟩) 32 32 :: u2 2 :: u3 4 :: u3 5 :: u3 6 :: u3 7 :: .int .i64 (b2i was) :: .int .i64 (-1) :: u13 :: u14 :: u15 :: u16 :: u17 :: u18 :: u19 :: u20 :: u21 :: u22 :: .slice a n cap :: .slice (some ⟨w.heap.size, 0, none⟩) 32 32 :: u2 0 :: u2 1 :: u3 0 :: u3 1 :: u3 2 :: u3 3 :: .int .i64 (-1) :: .bool false :: u33 :: u34 :: u35 :: u36 :: u37 :: u38 :: u39 :: u40 :: u41 :: u42 :: u43 :: u44 :: u45 :: u46 :: u47 :: u48 :: u49 :: u50 :: u51 :: u52 :: u53 :: u54 :: u55 :: u56 :: u57 :: u58 :: u59 :: u60 :: u61 :: u62 :: u63 :: u64 :: u65 :: u66 :: u67 :: u68 :: u69 :: u70 :: u71 :: u72 :: u73 :: u74 :: u75 :: u76 :: u77 :: u78 :: u79 :: u80 :: u81 :: u82 :: u83 :: u84 :: u85 :: u86 :: u87 :: u88 :: u89 :: u90 :: u91 :: u92 :: u93 :: u94 :: u95 :: u96 :: u97 :: u98 :: u99 :: u100 :: u101 :: u102 :: u103 :: .int .i64 (b2i was) :: .bool true :: u 0 :: u 1 :: undef :: undef :: undef :: undef :: undef :: []).toArray) (Holds [.val rR [B.x], .val rR [B.z], .sto q7 rR [B.x], .sto q8 rR [B.z]] wr) (Keep [.val rR [B.x], .val rR [B.z], .sto q7 rR [B.x], .sto q8 rR [B.z]] wr) (fun _ => undef) (by kernel_rfl) (by kernel_rfl) ?_ (by rfl) Keep.drew (holds_soft (by kernel_rfl)) ?_ ?_
        · intro u i v h
          rcases i with _ | _ | _ | _ | i
          all_goals first | (simp [Act.put, putV]; done) | (exfalso; simp at h; omega)
        · intro hs
          refine ⟨?_, ?_, ?_, ?_, trivial⟩
          · exact step_load q9 0 hs (wants_none rfl) rfl rfl tyFe (fun _ => E9.out) hm9'.lt hm9' (fun k g hk => by rcases k with _ | _ | _ | _ | k <;> first | (cases hk; done) | (cases hk; exact .inr HN7_9.out) | (cases hk; exact .inr HN8_9.out))
          · exact step_load q10 0 hs (wants_none rfl) rfl rfl tyFe (fun _ => E10.out) hm10'.lt hm10' (fun k g hk => by rcases k with _ | _ | _ | _ | k <;> first | (cases hk; done) | (cases hk; exact .inr HN7_10.out) | (cases hk; exact .inr HN8_10.out))
          · refine step_storeO q7 16 hs (wants_none rfl) rfl rfl (by kernel_rfl) (fun k hk => ?_) (fun _ => E7.out) (there_lt ht7' (by omega)) ht7' (gives_op 0 rfl (by kernel_rfl) (fun _ => rfl)) tyFe rfl
            rcases k with _ | _ | _ | _ | k
            all_goals first | (exact absurd rfl hk) | (intro e; cases e; done) | (intro e; cases e; exact absurd rfl (Ne.symm HN7_8.out))
          · refine step_storeO q8 16 hs (wants_none rfl) rfl rfl (by kernel_rfl) (fun k hk => ?_) (fun _ => E8.out) (there_lt ht8' (by omega)) ht8' (gives_op 1 rfl (by kernel_rfl) (fun _ => rfl)) tyFe rfl
            rcases k with _ | _ | _ | _ | k
            all_goals first | (exact absurd rfl hk) | (intro e; cases e; done) | (intro e; cases e; exact absurd rfl HN7_8.out)
        intro L29 u29s W29s hall hJ hG
        have hb : Below w.heap.size wr W29s := hJ.below (by have := hbel.size; omega) (fun k b hf => by rcases k with _ | _ | _ | _ | k <;> first | (cases hf; done) | (cases hf; omega))
        have hbel := hbel.trans hb
        have hm6' := hm6'.blk (hJ.block _ (hm6'.lt) (fun k hk => by rcases k with _ | _ | _ | _ | k <;> first | (cases hk; done) | (cases hk; exact absurd rfl (Ne.symm HD7_q6.out)) | (cases hk; exact absurd rfl (Ne.symm HD8_q6.out))))
        have hm9' := hm9'.blk (hJ.block _ (hm9'.lt) (fun k hk => by rcases k with _ | _ | _ | _ | k <;> first | (cases hk; done) | (cases hk; exact absurd rfl HN7_9.out) | (cases hk; exact absurd rfl HN8_9.out)))
        have hm10' := hm10'.blk (hJ.block _ (hm10'.lt) (fun k hk => by rcases k with _ | _ | _ | _ | k <;> first | (cases hk; done) | (cases hk; exact absurd rfl HN7_10.out) | (cases hk; exact absurd rfl HN8_10.out)))
        have ht6' := there_blk ht6' (hJ.block _ (there_lt ht6' (by omega)) (fun k hk => by rcases k with _ | _ | _ | _ | k <;> first | (cases hk; done) | (cases hk; exact absurd rfl (Ne.symm HD7_q6.out)) | (cases hk; exact absurd rfl (Ne.symm HD8_q6.out))))
        have ht9' := there_blk ht9' (hJ.block _ (there_lt ht9' (by omega)) (fun k hk => by rcases k with _ | _ | _ | _ | k <;> first | (cases hk; done) | (cases hk; exact absurd rfl HN7_9.out) | (cases hk; exact absurd rfl HN8_9.out)))
        have ht10' := there_blk ht10' (hJ.block _ (there_lt ht10' (by omega)) (fun k hk => by rcases k with _ | _ | _ | _ | k <;> first | (cases hk; done) | (cases hk; exact absurd rfl HN7_10.out) | (cases hk; exact absurd rfl HN8_10.out)))
        have htk' := there_blk htk' (hJ.block _ (there_lt htk' (by omega)) (fun k hk => by rcases k with _ | _ | _ | _ | k <;> first | (cases hk; done) | (cases hk; exact absurd rfl (Ne.symm HD7_wheapsize.out)) | (cases hk; exact absurd rfl (Ne.symm HD8_wheapsize.out))))
        have hK' := Lib.hid (blk_keep hK'.out (hJ.block _ (hK'.out.lt) (fun k hk => by rcases k with _ | _ | _ | _ | k <;> first | (cases hk; done) | (cases hk; exact absurd rfl (Ne.symm HD7_wheapsize.out)) | (cases hk; exact absurd rfl (Ne.symm HD8_wheapsize.out)))))
        obtain ⟨_, hs29_2t, hs29_2⟩ := (show _ ∧ W29s.there q7 0 16 ∧ HasFs rR W29s q7 0 [B.x] from hG 2 (by simp))
        obtain ⟨_, hs29_3t, hs29_3⟩ := (show _ ∧ W29s.there q8 0 16 ∧ HasFs rR W29s q8 0 [B.z] from hG 3 (by simp))
        have hbel0 := hbel
        clear hJ hG hall hb
        go_upto_region 30 with fail
        refine wp_region_mid (fun u => (.slice a n cap :: .slice b m cap' :: undef :: undef :: u 5 :: .slice (some ⟨w.heap.size, 0, none⟩) 32 32 :: u2 2 :: u3 4 :: u3 5 :: u3 6 :: u3 7 :: .int .i64 (b2i was) :: .int .i64 (-1) :: u13 :: u14 :: u15 :: u16 :: u17 :: u18 :: u19 :: u20 :: u21 :: u22 :: .slice a n cap :: .slice (some ⟨w.heap.size, 0, none⟩) 32 32 :: u2 0 :: u2 1 :: u3 0 :: u3 1 :: u3 2 :: u3 3 :: .int .i64 (-1) :: .bool false :: u33 :: u34 :: u35 :: u36 :: u37 :: u38 :: u39 :: u40 :: u41 :: u42 :: u43 :: u44 :: u45 :: u46 :: u47 :: u48 :: u49 :: u50 :: u51 :: u52 :: u53 :: u54 :: u55 :: u56 :: u57 :: u58 :: u59 :: u60 :: u61 :: u62 :: u63 :: u64 :: u65 :: u66 :: u67 :: u68 :: u69 :: u70 :: u71 :: u72 :: u73 :: u74 :: u75 :: u76 :: u77 :: u78 :: u79 :: u80 :: u81 :: u82 :: u83 :: u84 :: u85 :: u86 :: u87 :: u88 :: u89 :: u90 :: u91 :: u92 :: u93 :: u94 :: u95 :: u96 :: u97 :: u98 :: u99 :: u100 :: u101 :: u102 :: u103 :: .int .i64 (b2i was) :: .bool true :: u29s 0 :: u29s 1 :: u 0 :: u 1 :: u 2 :: u 3 :: u 4 :: []).toArray) (Holds [.val rR [B.x], .val rR [B.z], .val rR [finv B.z], .val rR [B.x * (finv B.z)], .rd (leB 32 (B.x * (finv B.z)).val), .rd (leB 32 (B.x * (finv B.z)).val)] W29s) (Keep [.val rR [B.x], .val rR [B.z], .val rR [finv B.z], .val rR [B.x * (finv B.z)], .rd (leB 32 (B.x * (finv B.z)).val), .rd (leB 32 (B.x * (finv B.z)).val)] W29s) (fun k => ([undef, undef, undef, undef, undef, .slice none 0 0] : List Value).getD k undef) (by kernel_rfl) (by kernel_rfl) ?_ (by rfl) Keep.drew (holds_soft (by kernel_rfl)) ?_ ?_
        · intro u i v h
          rcases i with _ | _ | _ | _ | _ | _ | i
          all_goals first | (simp [Act.put, putV]; done) | (exfalso; simp at h; omega)
        · intro hs
          refine ⟨?_, ?_, ?_, ?_, ?_, ?_, trivial⟩
          · exact step_load q7 0 hs (wants_none rfl) rfl rfl tyFe (fun _ => E7.out) hs29_2.lt hs29_2 (noSto_apart (by kernel_rfl))
          · exact step_load q8 0 hs (wants_none rfl) rfl rfl tyFe (fun _ => E8.out) hs29_3.lt hs29_3 (noSto_apart (by kernel_rfl))
          · refine step_call hs (wants_none rfl) rfl fun L u W hJ hG hL hdep K hK => ?_
            have a0 := (show IsFs rR (u 1) [B.z] from hG 1 (hdep 1 (by kernel_rfl)))
            go_simp
            go_at_call 35
            (with_reducible refine (kInv a0 _).mono ?_); rintro e w1 ⟨r, rfl, hr, hb⟩
            have hk := hK.out _ _ hr hb
            exact hk
          · refine step_call hs (wants_none rfl) rfl fun L u W hJ hG hL hdep K hK => ?_
            have a0 := (show IsFs rR (u 0) [B.x] from hG 0 (hdep 0 (by kernel_rfl)))
            have a1 := (show IsFs rR (u 2) [finv B.z] from hG 2 (hdep 2 (by kernel_rfl)))
            go_simp
            go_at_call 33
            (with_reducible refine (kMul a0 a1 _).mono ?_); rintro e w1 ⟨r, rfl, hr, hb⟩
            have hk := hK.out _ _ hr hb
            exact hk
          · refine step_callB hs (wants_none rfl) rfl fun L u W hJ hG hdep K hK => ?_
            have a0 := (show IsFs rR (u 3) [B.x * (finv B.z)] from hG 3 (hdep 3 (by kernel_rfl)))
            go_simp
            go_at_call 36
            (with_reducible refine (kBytes a0 _).mono ?_); rintro e w1 ⟨g, n, cap, r, rfl, h1, h2, h3, h4, h5, hb⟩
            have hk := hK.out _ _ _ _ _ h1 h2 h3 h4 h5 hb
            exact hk
          · exact step_moveB 4 hs (wants_none rfl) rfl (by first | exact .inl rfl | exact .inr rfl) rfl (by kernel_rfl) (fun _ => rfl)
        intro L30 u30s W30s hall hJ hG
        obtain ⟨gB5, nB5, cB5, rB5, eB5, hgB5, hB5, hlB5, hcB5, hmB5⟩ := (show ∃ g n cap r, u30s 5 = .slice (some ⟨g, 0, none⟩) n cap ∧ W29s.heap.size ≤ g ∧ Blk W30s g ((leB 32 (B.x * (finv B.z)).val).map bV ++ r) 5 ∧ (leB 32 (B.x * (finv B.z)).val).length = n ∧ n ≤ cap ∧ cap ≤ maxLen from hG 5 (by simp))
        have hgB5 : w.heap.size ≤ gB5 := by have := hbel0.size; omega
        have EB5 := Lib.hid eB5; clear eB5
        have HB5 := Lib.hid hB5; clear hB5
        have HE5_q6 := Lib.hid (show q6 ≠ gB5 by have := there_lt ht6' (by omega); omega)
        have HE5_q7 := Lib.hid (show q7 ≠ gB5 by have := there_lt hs29_2t (by omega); omega)
        have HE5_q8 := Lib.hid (show q8 ≠ gB5 by have := there_lt hs29_3t (by omega); omega)
        have HE5_q9 := Lib.hid (show q9 ≠ gB5 by have := there_lt ht9' (by omega); omega)
        have HE5_q10 := Lib.hid (show q10 ≠ gB5 by have := there_lt ht10' (by omega); omega)
        have HE5_wheapsize := Lib.hid (show w.heap.size ≠ gB5 by have := there_lt htk' (by omega); omega)
        have hb := hJ.all rfl
        have hbel := Below.call hbel hb
        have hm6' := hm6'.later hb
        have hs29_2 := hs29_2.later hb
        have hs29_3 := hs29_3.later hb
        have hm9' := hm9'.later hb
        have hm10' := hm10'.later hb
        have ht6' := there_later ht6' hb
        have hs29_2t := there_later hs29_2t hb
        have hs29_3t := there_later hs29_3t hb
        have ht9' := there_later ht9' hb
        have ht10' := there_later ht10' hb
        have htk' := there_later htk' hb
        have hK' := Lib.hid (hK'.out.below' hb)
        have hbel0 := hbel
        clear hJ hG hall hb
        go_wp2
        go_ret
        rw [leB_len] at hlB5
        subst hlB5
        refine ⟨gB5, cB5, rB5, by rw [EB5.out]; rfl, hgB5, ?_, hcB5, hmB5, hbel⟩
        rw [HKB.out, HU.out]
        have e : ladder (leN kb) U = B.x * finv B.z := by
          unfold ladder
          rw [← HST.out, HW.out]
          rfl
        rw [e]
        exact HB5.out

      · rw [Bool.not_eq_true] at hw; rw [hw] at hb1
        have HW := Lib.hid hw; clear hw
        have hb1' : (b2i was == 1) = false := by rw [HW.out]; rfl
        clear hb1
        go_upto_region 30 with fail
        have hbel := hbel'
        have hbel0 := hbel'
        have hK' := Lib.hid hK'
        clear hb1'
        refine wp_region_mid (fun u => (.slice a n cap :: .slice b m cap' :: undef :: undef :: u 5 :: .slice (some ⟨w.heap.size, 0, none⟩) 32 32 :: u2 2 :: u3 4 :: u3 5 :: u3 6 :: u3 7 :: .int .i64 (b2i was) :: .int .i64 (-1) :: u13 :: u14 :: u15 :: u16 :: u17 :: u18 :: u19 :: u20 :: u21 :: u22 :: .slice a n cap :: .slice (some ⟨w.heap.size, 0, none⟩) 32 32 :: u2 0 :: u2 1 :: u3 0 :: u3 1 :: u3 2 :: u3 3 :: .int .i64 (-1) :: .bool false :: u33 :: u34 :: u35 :: u36 :: u37 :: u38 :: u39 :: u40 :: u41 :: u42 :: u43 :: u44 :: u45 :: u46 :: u47 :: u48 :: u49 :: u50 :: u51 :: u52 :: u53 :: u54 :: u55 :: u56 :: u57 :: u58 :: u59 :: u60 :: u61 :: u62 :: u63 :: u64 :: u65 :: u66 :: u67 :: u68 :: u69 :: u70 :: u71 :: u72 :: u73 :: u74 :: u75 :: u76 :: u77 :: u78 :: u79 :: u80 :: u81 :: u82 :: u83 :: u84 :: u85 :: u86 :: u87 :: u88 :: u89 :: u90 :: u91 :: u92 :: u93 :: u94 :: u95 :: u96 :: u97 :: u98 :: u99 :: u100 :: u101 :: u102 :: u103 :: .int .i64 (b2i was) :: .bool false :: undef :: undef :: u 0 :: u 1 :: u 2 :: u 3 :: u 4 :: []).toArray) (Holds [.val rR [A.x], .val rR [A.z], .val rR [finv A.z], .val rR [A.x * (finv A.z)], .rd (leB 32 (A.x * (finv A.z)).val), .rd (leB 32 (A.x * (finv A.z)).val)] wr) (Keep [.val rR [A.x], .val rR [A.z], .val rR [finv A.z], .val rR [A.x * (finv A.z)], .rd (leB 32 (A.x * (finv A.z)).val), .rd (leB 32 (A.x * (finv A.z)).val)] wr) (fun k => ([undef, undef, undef, undef, undef, .slice none 0 0] : List Value).getD k undef) (by kernel_rfl) (by kernel_rfl) ?_ (by rfl) Keep.drew (holds_soft (by kernel_rfl)) ?_ ?_
        · intro u i v h
          rcases i with _ | _ | _ | _ | _ | _ | i
          all_goals first | (simp [Act.put, putV]; done) | (exfalso; simp at h; omega)
        · intro hs
          refine ⟨?_, ?_, ?_, ?_, ?_, ?_, trivial⟩
          · exact step_load q7 0 hs (wants_none rfl) rfl rfl tyFe (fun _ => E7.out) hm7'.lt hm7' (noSto_apart (by kernel_rfl))
          · exact step_load q8 0 hs (wants_none rfl) rfl rfl tyFe (fun _ => E8.out) hm8'.lt hm8' (noSto_apart (by kernel_rfl))
          · refine step_call hs (wants_none rfl) rfl fun L u W hJ hG hL hdep K hK => ?_
            have a0 := (show IsFs rR (u 1) [A.z] from hG 1 (hdep 1 (by kernel_rfl)))
            go_simp
            go_at_call 35
            (with_reducible refine (kInv a0 _).mono ?_); rintro e w1 ⟨r, rfl, hr, hb⟩
            have hk := hK.out _ _ hr hb
            exact hk
          · refine step_call hs (wants_none rfl) rfl fun L u W hJ hG hL hdep K hK => ?_
            have a0 := (show IsFs rR (u 0) [A.x] from hG 0 (hdep 0 (by kernel_rfl)))
            have a1 := (show IsFs rR (u 2) [finv A.z] from hG 2 (hdep 2 (by kernel_rfl)))
            go_simp
            go_at_call 33
            (with_reducible refine (kMul a0 a1 _).mono ?_); rintro e w1 ⟨r, rfl, hr, hb⟩
            have hk := hK.out _ _ hr hb
            exact hk
          · refine step_callB hs (wants_none rfl) rfl fun L u W hJ hG hdep K hK => ?_
            have a0 := (show IsFs rR (u 3) [A.x * (finv A.z)] from hG 3 (hdep 3 (by kernel_rfl)))
            go_simp
            go_at_call 36
            (with_reducible refine (kBytes a0 _).mono ?_); rintro e w1 ⟨g, n, cap, r, rfl, h1, h2, h3, h4, h5, hb⟩
            have hk := hK.out _ _ _ _ _ h1 h2 h3 h4 h5 hb
            exact hk
          · exact step_moveB 4 hs (wants_none rfl) rfl (by first | exact .inl rfl | exact .inr rfl) rfl (by kernel_rfl) (fun _ => rfl)
        intro L30 u30n W30n hall hJ hG
        obtain ⟨gB5, nB5, cB5, rB5, eB5, hgB5, hB5, hlB5, hcB5, hmB5⟩ := (show ∃ g n cap r, u30n 5 = .slice (some ⟨g, 0, none⟩) n cap ∧ wr.heap.size ≤ g ∧ Blk W30n g ((leB 32 (A.x * (finv A.z)).val).map bV ++ r) 5 ∧ (leB 32 (A.x * (finv A.z)).val).length = n ∧ n ≤ cap ∧ cap ≤ maxLen from hG 5 (by simp))
        have hgB5 : w.heap.size ≤ gB5 := by have := hbel0.size; omega
        have EB5 := Lib.hid eB5; clear eB5
        have HB5 := Lib.hid hB5; clear hB5
        have HE5_q6 := Lib.hid (show q6 ≠ gB5 by have := there_lt ht6' (by omega); omega)
        have HE5_q7 := Lib.hid (show q7 ≠ gB5 by have := there_lt ht7' (by omega); omega)
        have HE5_q8 := Lib.hid (show q8 ≠ gB5 by have := there_lt ht8' (by omega); omega)
        have HE5_q9 := Lib.hid (show q9 ≠ gB5 by have := there_lt ht9' (by omega); omega)
        have HE5_q10 := Lib.hid (show q10 ≠ gB5 by have := there_lt ht10' (by omega); omega)
        have HE5_wheapsize := Lib.hid (show w.heap.size ≠ gB5 by have := there_lt htk' (by omega); omega)
        have hb := hJ.all rfl
        have hbel := Below.call hbel hb
        have hm6' := hm6'.later hb
        have hm7' := hm7'.later hb
        have hm8' := hm8'.later hb
        have hm9' := hm9'.later hb
        have hm10' := hm10'.later hb
        have ht6' := there_later ht6' hb
        have ht7' := there_later ht7' hb
        have ht8' := there_later ht8' hb
        have ht9' := there_later ht9' hb
        have ht10' := there_later ht10' hb
        have htk' := there_later htk' hb
        have hK' := Lib.hid (hK'.out.below' hb)
        have hbel0 := hbel
        clear hJ hG hall hb
        go_wp2
        go_ret
        rw [leB_len] at hlB5
        subst hlB5
        refine ⟨gB5, cB5, rB5, by rw [EB5.out]; rfl, hgB5, ?_, hcB5, hmB5, hbel⟩
        rw [HKB.out, HU.out]
        have e : ladder (leN kb) U = A.x * finv A.z := by
          unfold ladder
          rw [← HST.out, HW.out]
          rfl
        rw [e]
        exact HB5.out
end Go.Proofs.Ytmoggjbnlimepaa
