/- The walk of x25519.Mult. -/
import Derived.Test.YtmoggjbnlimepaaXmp
namespace Go.Proofs.Ytmoggjbnlimepaa
open Go Go.RowKit

set_option maxHeartbeats 4000000 in
theorem mult_any {a b : Option Addr} {n cap m cap' : Nat} {l p : List UInt8} (w : World) (hsec : RdB w a n cap l) (hpub : RdB w b m cap' p) :
    Calls Try.prog 13 #[.slice a n cap, .slice b m cap'] w fun e w' => ∃ g c r, e = .returned (.slice (some ⟨g, 0, none⟩) 32 c) ∧ w.heap.size ≤ g ∧ Blk w' g ((leB 32 (ladder (leN (clampB l)) (feF p)).val).map bV ++ r) 5 ∧ 32 ≤ c ∧ c ≤ maxLen ∧ Below w.heap.size w w' := by
  go_enter Try.func13, Try.ntmps13
  go_upto_region 2 with (first | (go_at_call 14; go_must (refine (clamp_any _ hsec).mono ?_; rintro e w1 ⟨rfl, hK0, hbel⟩)))
  have hpub := hpub.below hbel
  have hK := Lib.hid hK0
  clear hK0
  have htk : w1.there w.heap.size 0 32 := fun j hj => by
    rw [Nat.zero_add, hK.out.cell, hK.out.frozen, List.getElem?_eq_getElem (by simp [clampB_len]; omega)]
    exact ⟨rfl, rfl⟩
  have hbel0 := hbel
  refine wp_region_turn (fun u => (.slice a n cap :: .slice b m cap' :: undef :: undef :: .slice none 0 0 :: .slice (some ⟨w.heap.size, 0, none⟩) 32 32 :: u 2 :: undef :: undef :: undef :: undef :: undef :: .slice a n cap :: .slice (some ⟨w.heap.size, 0, none⟩) 32 32 :: u 0 :: u 1 :: undef :: undef :: undef :: undef :: undef :: undef :: undef :: undef :: undef :: undef :: undef :: undef :: undef :: undef :: undef :: undef :: undef :: undef :: undef :: undef :: undef :: undef :: undef :: undef :: undef :: undef :: undef :: undef :: undef :: undef :: undef :: undef :: undef :: undef :: undef :: undef :: undef :: undef :: undef :: undef :: undef :: undef :: undef :: undef :: undef :: undef :: undef :: undef :: undef :: undef :: undef :: []).toArray) (Holds [.oth (fun v => v = .slice b m cap'), .val rE [feF p], .new 5, .st 2 rE [feF p]] w1) (Keep [.oth (fun v => v = .slice b m cap'), .val rE [feF p], .new 5, .st 2 rE [feF p]] w1) (fun _ => undef) ?_ (by rfl) Keep.start (holds_soft (by kernel_rfl)) ?_ ?_
  · intro u i v h
    rcases i with _ | _ | _ | _ | i
    all_goals first | (simp [Act.put, putV]; done) | (exfalso; simp at h; omega)
  · intro hs
    refine ⟨?_, ?_, ?_, ?_, trivial⟩
    · exact step_pureO hs (wants_none rfl) rfl fun L u W hG hdep => ⟨_, run_move rfl, rfl⟩
    · refine step_call hs (wants_none rfl) rfl fun L u W hJ hG hL hdep K hK => ?_
      have x0 := (show u 0 = .slice b m cap' from hG 0 (hdep 0 (by kernel_rfl)))
      have hRB0 := hpub.below (hJ.all rfl)
      go_simp
      go_at_call 21
      (with_reducible refine (cOf' rfl hRB0).mono ?_); rintro e w1 ⟨r, rfl, hr, hb⟩
      have hk := hK.out _ _ hr hb
      simp only [x0] at hk
      exact hk
    · exact step_alloc hs (wants_none rfl) rfl rfl (by omega) rfl allocE
    · exact step_store 2 hs (by kernel_rfl) (wants_none rfl) rfl rfl rfl (by kernel_rfl) (by kernel_rfl) (by kernel_rfl) (by kernel_rfl) (fun _ => rfl) (gives_op 1 rfl (by kernel_rfl) (fun _ => rfl)) tyE rfl
  intro L2 u2 W2 hall hJ hG
  obtain ⟨q6, e6, hq6, _, ht6⟩ := (show ∃ g, u2 2 = .pointer (some ⟨g, 0, none⟩) ∧ w1.heap.size ≤ g ∧ 0 < 5 ∧ W2.there g 0 5 from hG 2 (by simp))
  have hm6 : HasFs rE W2 q6 0 [feF p] := by
    obtain ⟨g, e, _, h⟩ := (show ∃ g, u2 2 = .pointer (some ⟨g, 0, none⟩) ∧ w1.heap.size ≤ g ∧ HasFs rE W2 g 0 [feF p] from hG 3 (by simp))
    rw [e6] at e; cases e; exact h
  have HD6_wheapsize := Lib.hid (show w.heap.size ≠ q6 by have := there_lt htk (by omega); omega)
  have hq6 : w.heap.size ≤ q6 := by have := hbel0.size; omega
  have E6 := Lib.hid e6; clear e6
  have hb := hJ.all rfl
  have hbel := Below.call hbel hb
  have htk := there_later htk hb
  have hpub := hpub.below hb
  have hK := Lib.hid (hK.out.below' hb)
  have hbel0 := hbel
  clear hJ hG hall hb
  skip
  go_upto_region 3 with fail
  refine wp_region_mid (fun u => (.slice a n cap :: .slice b m cap' :: undef :: undef :: .slice none 0 0 :: .slice (some ⟨w.heap.size, 0, none⟩) 32 32 :: u2 2 :: u 6 :: u 7 :: undef :: undef :: undef :: .slice a n cap :: .slice (some ⟨w.heap.size, 0, none⟩) 32 32 :: u2 0 :: u2 1 :: u 0 :: u 1 :: u 2 :: u 3 :: u 4 :: u 5 :: undef :: undef :: undef :: undef :: undef :: undef :: undef :: undef :: undef :: undef :: undef :: undef :: undef :: undef :: undef :: undef :: undef :: undef :: undef :: undef :: undef :: undef :: undef :: undef :: undef :: undef :: undef :: undef :: undef :: undef :: undef :: undef :: undef :: undef :: undef :: undef :: undef :: undef :: undef :: undef :: undef :: undef :: undef :: undef :: undef :: []).toArray) (Holds [.val rE [fn 1], .val rE [0], .val rE [fn 1, 0], .val rE [feF p], .val rE [fn 1], .val rE [feF p, fn 1], .new 10, .new 10, .st 6 rE [fn 1, 0], .st 7 rE [feF p, fn 1]] W2) (Keep [.val rE [fn 1], .val rE [0], .val rE [fn 1, 0], .val rE [feF p], .val rE [fn 1], .val rE [feF p, fn 1], .new 10, .new 10, .st 6 rE [fn 1, 0], .st 7 rE [feF p, fn 1]] W2) (fun _ => undef) (by kernel_rfl) (by kernel_rfl) ?_ (by rfl) Keep.drew (holds_soft (by kernel_rfl)) ?_ ?_
  · intro u i v h
    rcases i with _ | _ | _ | _ | _ | _ | _ | _ | _ | _ | i
    all_goals first | (simp [Act.put, putV]; done) | (exfalso; simp at h; omega)
  · intro hs
    refine ⟨?_, ?_, ?_, ?_, ?_, ?_, ?_, ?_, ?_, ?_, trivial⟩
    · refine step_call hs (wants_none rfl) rfl fun L u W hJ hG hL hdep K hK => ?_
      go_simp
      go_at_call 22
      (with_reducible refine (cSmallI (n := 1) (z := 1) rfl (by omega) _).mono ?_); rintro e w1 ⟨r, rfl, hr, hb⟩
      have hk := hK.out _ _ hr hb
      exact hk
    · exact step_pure hs (wants_none rfl) rfl fun L u W hG hdep => run_build0 rfl (buildE0 W)
    · refine step_pure hs (wants_none rfl) rfl fun L u W hG hdep => ?_
      have a0 := (show IsFs rE (u 0) [fn 1] from hG 0 (hdep 0 (by kernel_rfl)))
      have a1 := (show IsFs rE (u 1) [0] from hG 1 (hdep 1 (by kernel_rfl)))
      obtain ⟨r, hr, hx⟩ := build_point a0 a1 W
      exact ⟨r, run_build2 rfl hr, hx⟩
    · exact step_load q6 0 hs (wants_none rfl) rfl rfl tyE (fun _ => E6.out) hm6.lt hm6 (noSto_apart (by kernel_rfl))
    · refine step_call hs (wants_none rfl) rfl fun L u W hJ hG hL hdep K hK => ?_
      go_simp
      go_at_call 22
      (with_reducible refine (cSmallI (n := 1) (z := 1) rfl (by omega) _).mono ?_); rintro e w1 ⟨r, rfl, hr, hb⟩
      have hk := hK.out _ _ hr hb
      exact hk
    · refine step_pure hs (wants_none rfl) rfl fun L u W hG hdep => ?_
      have a0 := (show IsFs rE (u 3) [feF p] from hG 3 (hdep 3 (by kernel_rfl)))
      have a1 := (show IsFs rE (u 4) [fn 1] from hG 4 (hdep 4 (by kernel_rfl)))
      obtain ⟨r, hr, hx⟩ := build_point a0 a1 W
      exact ⟨r, run_build2 rfl hr, hx⟩
    · exact step_alloc hs (wants_none rfl) rfl rfl (by omega) rfl allocpoint
    · exact step_alloc hs (wants_none rfl) rfl rfl (by omega) rfl allocpoint
    · exact step_store 6 hs (by kernel_rfl) (wants_none rfl) rfl rfl rfl (by kernel_rfl) (by kernel_rfl) (by kernel_rfl) (by kernel_rfl) (fun _ => rfl) (gives_op 2 rfl (by kernel_rfl) (fun _ => rfl)) typoint rfl
    · exact step_store 7 hs (by kernel_rfl) (wants_none rfl) rfl rfl rfl (by kernel_rfl) (by kernel_rfl) (by kernel_rfl) (by kernel_rfl) (fun _ => rfl) (gives_op 5 rfl (by kernel_rfl) (fun _ => rfl)) typoint rfl
  intro L3 u3 W3 hall hJ hG
  obtain ⟨q7, e7, hq7, _, ht7⟩ := (show ∃ g, u3 6 = .pointer (some ⟨g, 0, none⟩) ∧ W2.heap.size ≤ g ∧ 0 < 10 ∧ W3.there g 0 10 from hG 6 (by simp))
  have hm7 : HasFs rE W3 q7 0 [fn 1, 0] := by
    obtain ⟨g, e, _, h⟩ := (show ∃ g, u3 6 = .pointer (some ⟨g, 0, none⟩) ∧ W2.heap.size ≤ g ∧ HasFs rE W3 g 0 [fn 1, 0] from hG 8 (by simp))
    rw [e7] at e; cases e; exact h
  have HD7_wheapsize := Lib.hid (show w.heap.size ≠ q7 by have := there_lt htk (by omega); omega)
  have HD7_q6 := Lib.hid (show q6 ≠ q7 by have := there_lt ht6 (by omega); omega)
  have hq7 : w.heap.size ≤ q7 := by have := hbel0.size; omega
  have E7 := Lib.hid e7; clear e7
  obtain ⟨q8, e8, hq8, _, ht8⟩ := (show ∃ g, u3 7 = .pointer (some ⟨g, 0, none⟩) ∧ W2.heap.size ≤ g ∧ 0 < 10 ∧ W3.there g 0 10 from hG 7 (by simp))
  have hm8 : HasFs rE W3 q8 0 [feF p, fn 1] := by
    obtain ⟨g, e, _, h⟩ := (show ∃ g, u3 7 = .pointer (some ⟨g, 0, none⟩) ∧ W2.heap.size ≤ g ∧ HasFs rE W3 g 0 [feF p, fn 1] from hG 9 (by simp))
    rw [e8] at e; cases e; exact h
  have HD8_wheapsize := Lib.hid (show w.heap.size ≠ q8 by have := there_lt htk (by omega); omega)
  have HD8_q6 := Lib.hid (show q6 ≠ q8 by have := there_lt ht6 (by omega); omega)
  have hq8 : w.heap.size ≤ q8 := by have := hbel0.size; omega
  have E8 := Lib.hid e8; clear e8
  have hb := hJ.all rfl
  have hbel := Below.call hbel hb
  have hm6 := hm6.later hb
  have htk := there_later htk hb
  have ht6 := there_later ht6 hb
  have hpub := hpub.below hb
  have hK := Lib.hid (hK.out.below' hb)
  have HN7_8 := Lib.hid (show q7 ≠ q8 from fun e => hJ.apart 6 7 _ (by omega) (hall _ (by simp)) (hall _ (by simp)) rfl rfl (E7.out.trans (by rw [e])) E8.out)
  have hbel0 := hbel
  clear hJ hG hall hb
  generalize hk : clampB l = kb at *
  have HKL : Hid (kb.length = 32) := Lib.hid (by rw [← hk]; exact clampB_len l)
  have HKB := Lib.hid hk
  generalize hu : feF p = U at *
  have HU := Lib.hid hu
  clear hk hu
  clear hpub
  go_wp2_with fail
  go_loopw [9, 10] (fun s9 s10 wr => ∃ (j : Nat) (was : Bool) (A B : Pj), j ≤ 255 ∧ s9 = .bool was ∧ s10 = .int .i64 ((j : Int) - 1) ∧ HasFs rE wr q6 0 [U] ∧ HasFs rE wr q7 0 [A.x, A.z] ∧ HasFs rE wr q8 0 [B.x, B.z] ∧ wr.there q6 0 5 ∧ wr.there q7 0 10 ∧ wr.there q8 0 10 ∧ wr.there w.heap.size 0 32 ∧ Blk wr w.heap.size (kb.map bV) 5 ∧ Below w.heap.size w wr ∧ lstate (leN kb) U j (A, B, was) = lstate (leN kb) U 255 (⟨fn 1, 0⟩, ⟨U, fn 1⟩, false)) (fun _ t _ => (intOf t + 1).toNat)
  case atStart => exact ⟨255, false, ⟨fn 1, 0⟩, ⟨U, fn 1⟩, by omega, rfl, by simp, hm6, hm7, hm8, ht6, ht7, ht8, htk, hK.out, hbel, rfl⟩
  case round =>
    obtain ⟨j, was, A, B, hj, rfl, rfl, hm6', hm7', hm8', ht6', ht7', ht8', htk', hK', hbel', hst⟩ := hrel
    clear hm6 hm7 hm8 ht6 ht7 ht8 htk hK hbel hbel0
    have HST := Lib.hid hst
    clear hst
    by_cases h0 : 0 < j
    · obtain ⟨i, rfl⟩ : ∃ i, j = i + 1 := ⟨j - 1, by omega⟩
      have hz : (((i + 1 : Nat) : Int) - 1) = (i : Int) := by omega
      simp only [hz]
      have h1 : (0 : Int) ≤ (i : Int) := by omega
      have h2 : (i : Int) < 255 := by omega
      have h8 : i / 8 < kb.length := by have := HKL.out; omega
      have hc : wr.cell? ⟨w.heap.size, i / 8, none⟩ = some (bV kb[i / 8]) := by rw [hK'.cell]; simp [h8]
      have hkt := kbit_test (l := kb) (j := i) h8
      generalize kb[i / 8] = c at *
      have hcl := c.toNat_lt
      generalize hbt : kbit (leN kb) i = bt at *
      have HBT := Lib.hid hbt
      clear hbt hz h0 h8
      unfold bV at hc
      go_upto_region 9 with fail
      have hbel := hbel'
      have hbel0 := hbel'
      have hK' := Lib.hid hK'
      refine wp_region_turn (fun u => (Value.slice a n cap :: Value.slice b m cap' :: undef :: undef :: Value.slice none 0 0 :: Value.slice (some { block := w.heap.size, off := 0 }) 32 32 :: u2 2 :: u3 6 :: u3 7 :: Value.bool was :: Value.int IntKind.i64 ↑i :: Value.bool bt :: Value.slice a n cap :: Value.slice (some { block := w.heap.size, off := 0 }) 32 32 :: u2 0 :: u2 1 :: u3 0 :: u3 1 :: u3 2 :: u3 3 :: u3 4 :: u3 5 :: Value.int IntKind.i64 ↑i :: Value.bool true :: u24 :: u25 :: Value.slice (some { block := w.heap.size, off := 0 }) 32 32 :: Value.int IntKind.i64 ↑i :: Value.int IntKind.i64 (↑i / 8) :: Value.pointer (some { block := w.heap.size, off := i / 8 }) :: Value.int IntKind.u8 ↑c.toNat :: Value.int IntKind.i64 ↑i :: Value.int IntKind.i64 (↑i % 8) :: Value.int IntKind.u8 (↑c.toNat / 2 ^ (i % 8)) :: Value.int IntKind.u8 (bits BinOp.and IntKind.u8 (↑c.toNat / 2 ^ (i % 8)) 1) :: Value.bool bt :: u 6 :: u 0 :: u 1 :: u 2 :: u 3 :: u 4 :: u 5 :: u 7 :: u 8 :: u45 :: u46 :: u47 :: u48 :: u49 :: u50 :: u51 :: u52 :: undef :: undef :: undef :: undef :: undef :: undef :: undef :: undef :: undef :: undef :: undef :: undef :: undef :: undef :: []).toArray) (Holds [.oth (fun v => v = .bool bt), .oth (fun v => v = .bool was), .oth (fun v => v = (.bool (bt != was))), .val rE [A.x, A.z], .val rE [B.x, B.z], .oth (fun v => IsT2 rE v [(sw (bt != was) A B).1.x, (sw (bt != was) A B).1.z] [(sw (bt != was) A B).2.x, (sw (bt != was) A B).2.z]), .oth (fun v => IsT2 rE v [(sw (bt != was) A B).1.x, (sw (bt != was) A B).1.z] [(sw (bt != was) A B).2.x, (sw (bt != was) A B).2.z]), .val rE [(sw (bt != was) A B).1.x, (sw (bt != was) A B).1.z], .val rE [(sw (bt != was) A B).2.x, (sw (bt != was) A B).2.z], .sto q7 rE [(sw (bt != was) A B).1.x, (sw (bt != was) A B).1.z], .sto q8 rE [(sw (bt != was) A B).2.x, (sw (bt != was) A B).2.z]] wr) (Keep [.oth (fun v => v = .bool bt), .oth (fun v => v = .bool was), .oth (fun v => v = (.bool (bt != was))), .val rE [A.x, A.z], .val rE [B.x, B.z], .oth (fun v => IsT2 rE v [(sw (bt != was) A B).1.x, (sw (bt != was) A B).1.z] [(sw (bt != was) A B).2.x, (sw (bt != was) A B).2.z]), .oth (fun v => IsT2 rE v [(sw (bt != was) A B).1.x, (sw (bt != was) A B).1.z] [(sw (bt != was) A B).2.x, (sw (bt != was) A B).2.z]), .val rE [(sw (bt != was) A B).1.x, (sw (bt != was) A B).1.z], .val rE [(sw (bt != was) A B).2.x, (sw (bt != was) A B).2.z], .sto q7 rE [(sw (bt != was) A B).1.x, (sw (bt != was) A B).1.z], .sto q8 rE [(sw (bt != was) A B).2.x, (sw (bt != was) A B).2.z]] wr) (fun k => ([u37, u38, u39, u40, u41, u42, u36, u43, u44, undef, undef] : List Value).getD k undef) ?_ (by rfl) Keep.start (holds_soft (by kernel_rfl)) ?_ ?_
      · intro u i v h
        rcases i with _ | _ | _ | _ | _ | _ | _ | _ | _ | _ | _ | i
        all_goals first | (simp [Act.put, putV]; done) | (exfalso; simp at h; omega)
      · intro hs
        refine ⟨?_, ?_, ?_, ?_, ?_, ?_, ?_, ?_, ?_, ?_, ?_, trivial⟩
        · exact step_pureO hs (wants_none rfl) rfl fun L u W hG hdep => ⟨_, run_move rfl, rfl⟩
        · exact step_pureO hs (wants_none rfl) rfl fun L u W hG hdep => ⟨_, run_move rfl, rfl⟩
        · refine step_pureO hs (wants_none rfl) rfl fun L u W hG hdep => ⟨_, ?_, rfl⟩
          have e0 := (show u 0 = .bool bt from hG 0 (hdep 0 (by kernel_rfl)))
          have e1 := (show u 1 = .bool was from hG 1 (hdep 1 (by kernel_rfl)))
          go_simp
          try simp [bne]
        · exact step_load q7 0 hs (wants_none rfl) rfl rfl typoint (fun _ => E7.out) hm7'.lt hm7' (fun k g hk => by rcases k with _ | _ | _ | _ | _ | _ | _ | _ | _ | _ | _ | k <;> first | (cases hk; done) | (cases hk; exact .inr (Ne.symm HN7_8.out)) | (cases hk; exact .inl (by kernel_rfl)))
        · exact step_load q8 0 hs (wants_none rfl) rfl rfl typoint (fun _ => E8.out) hm8'.lt hm8' (fun k g hk => by rcases k with _ | _ | _ | _ | _ | _ | _ | _ | _ | _ | _ | k <;> first | (cases hk; done) | (cases hk; exact .inr HN7_8.out) | (cases hk; exact .inl (by kernel_rfl)))
        · refine step_callO hs (wants_none rfl) rfl fun L u W hJ hG hdep K hK => ?_
          have a0 := (show IsFs rE (u 3) [A.x, A.z] from hG 3 (hdep 3 (by kernel_rfl)))
          have a1 := (show IsFs rE (u 4) [B.x, B.z] from hG 4 (hdep 4 (by kernel_rfl)))
          have x0 := (show u 2 = (.bool (bt != was)) from hG 2 (hdep 2 (by kernel_rfl)))
          go_simp
          go_at_call 23
          (with_reducible refine (cSwap (a := A) (b := B) a0 a1 _).mono ?_); rintro e w1 ⟨r, rfl, hr, hb⟩
          have hk := hK.out _ _ hr hb
          simp only [x0] at hk
          exact hk
        · exact step_pureO hs (wants_none rfl) rfl fun L u W hG hdep => ⟨_, run_move rfl, (show IsT2 rE (u 5) [(sw (bt != was) A B).1.x, (sw (bt != was) A B).1.z] [(sw (bt != was) A B).2.x, (sw (bt != was) A B).2.z] from hG 5 (hdep 5 (by kernel_rfl)))⟩
        · exact step_pure hs (wants_none rfl) rfl fun L u W hG hdep => run_extract0 rfl (show IsT2 rE (u 6) [(sw (bt != was) A B).1.x, (sw (bt != was) A B).1.z] [(sw (bt != was) A B).2.x, (sw (bt != was) A B).2.z] from hG 6 (hdep 6 (by kernel_rfl)))
        · exact step_pure hs (wants_none rfl) rfl fun L u W hG hdep => run_extract1 rfl (show IsT2 rE (u 6) [(sw (bt != was) A B).1.x, (sw (bt != was) A B).1.z] [(sw (bt != was) A B).2.x, (sw (bt != was) A B).2.z] from hG 6 (hdep 6 (by kernel_rfl)))
        · refine step_storeO q7 10 hs (wants_none rfl) rfl rfl (by kernel_rfl) (fun k hk => ?_) (fun _ => E7.out) (there_lt ht7' (by omega)) ht7' (gives_op 7 rfl (by kernel_rfl) (fun _ => rfl)) typoint rfl
          rcases k with _ | _ | _ | _ | _ | _ | _ | _ | _ | _ | _ | k
          all_goals first | (exact absurd rfl hk) | (intro e; cases e; done) | (intro e; cases e; exact absurd rfl (Ne.symm HN7_8.out))
        · refine step_storeO q8 10 hs (wants_none rfl) rfl rfl (by kernel_rfl) (fun k hk => ?_) (fun _ => E8.out) (there_lt ht8' (by omega)) ht8' (gives_op 8 rfl (by kernel_rfl) (fun _ => rfl)) typoint rfl
          rcases k with _ | _ | _ | _ | _ | _ | _ | _ | _ | _ | _ | k
          all_goals first | (exact absurd rfl hk) | (intro e; cases e; done) | (intro e; cases e; exact absurd rfl HN7_8.out)
      intro L9 u9 W9 hall hJ hG
      have hb : Below w.heap.size wr W9 := hJ.below (by have := hbel.size; omega) (fun k b hf => by rcases k with _ | _ | _ | _ | _ | _ | _ | _ | _ | _ | _ | k <;> first | (cases hf; done) | (cases hf; omega))
      have hbel := hbel.trans hb
      have hm6' := hm6'.blk (hJ.block _ (hm6'.lt) (fun k hk => by rcases k with _ | _ | _ | _ | _ | _ | _ | _ | _ | _ | _ | k <;> first | (cases hk; done) | (cases hk; exact absurd rfl (Ne.symm HD7_q6.out)) | (cases hk; exact absurd rfl (Ne.symm HD8_q6.out))))
      have ht6' := there_blk ht6' (hJ.block _ (there_lt ht6' (by omega)) (fun k hk => by rcases k with _ | _ | _ | _ | _ | _ | _ | _ | _ | _ | _ | k <;> first | (cases hk; done) | (cases hk; exact absurd rfl (Ne.symm HD7_q6.out)) | (cases hk; exact absurd rfl (Ne.symm HD8_q6.out))))
      have htk' := there_blk htk' (hJ.block _ (there_lt htk' (by omega)) (fun k hk => by rcases k with _ | _ | _ | _ | _ | _ | _ | _ | _ | _ | _ | k <;> first | (cases hk; done) | (cases hk; exact absurd rfl (Ne.symm HD7_wheapsize.out)) | (cases hk; exact absurd rfl (Ne.symm HD8_wheapsize.out))))
      have hK' := Lib.hid (blk_keep hK'.out (hJ.block _ (hK'.out.lt) (fun k hk => by rcases k with _ | _ | _ | _ | _ | _ | _ | _ | _ | _ | _ | k <;> first | (cases hk; done) | (cases hk; exact absurd rfl (Ne.symm HD7_wheapsize.out)) | (cases hk; exact absurd rfl (Ne.symm HD8_wheapsize.out)))))
      obtain ⟨_, hs9_9t, hs9_9⟩ := (show _ ∧ W9.there q7 0 10 ∧ HasFs rE W9 q7 0 [(sw (bt != was) A B).1.x, (sw (bt != was) A B).1.z] from hG 9 (by simp))
      obtain ⟨_, hs9_10t, hs9_10⟩ := (show _ ∧ W9.there q8 0 10 ∧ HasFs rE W9 q8 0 [(sw (bt != was) A B).2.x, (sw (bt != was) A B).2.z] from hG 10 (by simp))
      have HC37 := Lib.hid (show u9 0 = .bool bt from hG 0 (by simp))
      have HC38 := Lib.hid (show u9 1 = .bool was from hG 1 (by simp))
      have hbel0 := hbel
      clear hJ hG hall hb
      go_upto_region 10 with fail
      refine wp_region_turn (fun u => (Value.slice a n cap :: Value.slice b m cap' :: undef :: undef :: Value.slice none 0 0 :: Value.slice (some { block := w.heap.size, off := 0 }) 32 32 :: u2 2 :: u3 6 :: u3 7 :: u 1 :: Value.int IntKind.i64 ↑i :: Value.bool bt :: Value.slice a n cap :: Value.slice (some { block := w.heap.size, off := 0 }) 32 32 :: u2 0 :: u2 1 :: u3 0 :: u3 1 :: u3 2 :: u3 3 :: u3 4 :: u3 5 :: Value.int IntKind.i64 ↑i :: Value.bool true :: u24 :: u25 :: Value.slice (some { block := w.heap.size, off := 0 }) 32 32 :: Value.int IntKind.i64 ↑i :: Value.int IntKind.i64 (↑i / 8) :: Value.pointer (some { block := w.heap.size, off := i / 8 }) :: Value.int IntKind.u8 ↑c.toNat :: Value.int IntKind.i64 ↑i :: Value.int IntKind.i64 (↑i % 8) :: Value.int IntKind.u8 (↑c.toNat / 2 ^ (i % 8)) :: Value.int IntKind.u8 (bits BinOp.and IntKind.u8 (↑c.toNat / 2 ^ (i % 8)) 1) :: Value.bool bt :: u9 6 :: u9 0 :: u9 1 :: u9 2 :: u9 3 :: u9 4 :: u9 5 :: u9 7 :: u9 8 :: u 0 :: u46 :: u47 :: u48 :: u49 :: u50 :: u51 :: u52 :: undef :: undef :: undef :: undef :: undef :: undef :: undef :: undef :: undef :: undef :: undef :: undef :: undef :: undef :: []).toArray) (Holds [.oth (fun v => v = .bool bt), .oth (fun v => v = .bool bt)] W9) (Keep [.oth (fun v => v = .bool bt), .oth (fun v => v = .bool bt)] W9) (fun k => ([u45, Value.bool was] : List Value).getD k undef) ?_ (by rfl) Keep.start (holds_soft (by kernel_rfl)) ?_ ?_
      · intro u i v h
        rcases i with _ | _ | i
        all_goals first | (simp [Act.put, putV]; done) | (exfalso; simp at h; omega)
      · intro hs
        refine ⟨?_, ?_, trivial⟩
        · exact step_pureO hs (wants_none rfl) rfl fun L u W hG hdep => ⟨_, run_move rfl, rfl⟩
        · exact step_pureO hs (wants_none rfl) rfl fun L u W hG hdep => ⟨_, run_assign rfl, (show u 0 = .bool bt from hG 0 (hdep 0 (by kernel_rfl)))⟩
      intro L10 u10 W10 hall hJ hG
      have hb := hJ.all rfl
      have hbel := Below.call hbel hb
      have hm6' := hm6'.later hb
      have hs9_9 := hs9_9.later hb
      have hs9_10 := hs9_10.later hb
      have ht6' := there_later ht6' hb
      have hs9_9t := there_later hs9_9t hb
      have hs9_10t := there_later hs9_10t hb
      have htk' := there_later htk' hb
      have hK' := Lib.hid (hK'.out.below' hb)
      have HC45 := Lib.hid (show u10 0 = .bool bt from hG 0 (by simp))
      have HC9 := Lib.hid (show u10 1 = .bool bt from hG 1 (by simp))
      have hbel0 := hbel
      clear hJ hG hall hb
      go_upto_region 11 with fail
      refine wp_region_turn (fun u => (Value.slice a n cap :: Value.slice b m cap' :: undef :: undef :: Value.slice none 0 0 :: Value.slice (some { block := w.heap.size, off := 0 }) 32 32 :: u2 2 :: u3 6 :: u3 7 :: u10 1 :: Value.int IntKind.i64 ↑i :: Value.bool bt :: Value.slice a n cap :: Value.slice (some { block := w.heap.size, off := 0 }) 32 32 :: u2 0 :: u2 1 :: u3 0 :: u3 1 :: u3 2 :: u3 3 :: u3 4 :: u3 5 :: Value.int IntKind.i64 ↑i :: Value.bool true :: u24 :: u25 :: Value.slice (some { block := w.heap.size, off := 0 }) 32 32 :: Value.int IntKind.i64 ↑i :: Value.int IntKind.i64 (↑i / 8) :: Value.pointer (some { block := w.heap.size, off := i / 8 }) :: Value.int IntKind.u8 ↑c.toNat :: Value.int IntKind.i64 ↑i :: Value.int IntKind.i64 (↑i % 8) :: Value.int IntKind.u8 (↑c.toNat / 2 ^ (i % 8)) :: Value.int IntKind.u8 (bits BinOp.and IntKind.u8 (↑c.toNat / 2 ^ (i % 8)) 1) :: Value.bool bt :: u9 6 :: u9 0 :: u9 1 :: u9 2 :: u9 3 :: u9 4 :: u9 5 :: u9 7 :: u9 8 :: u10 0 :: u 4 :: u 0 :: u 1 :: u 2 :: u 3 :: u 5 :: u 6 :: undef :: undef :: undef :: undef :: undef :: undef :: undef :: undef :: undef :: undef :: undef :: undef :: undef :: undef :: []).toArray) (Holds [.val rE [U], .val rE [(sw (bt != was) A B).1.x, (sw (bt != was) A B).1.z], .val rE [(sw (bt != was) A B).2.x, (sw (bt != was) A B).2.z], .oth (fun v => IsT2 rE v [(lstep U ((sw (bt != was) A B).1) ((sw (bt != was) A B).2)).1.x, (lstep U ((sw (bt != was) A B).1) ((sw (bt != was) A B).2)).1.z] [(lstep U ((sw (bt != was) A B).1) ((sw (bt != was) A B).2)).2.x, (lstep U ((sw (bt != was) A B).1) ((sw (bt != was) A B).2)).2.z]), .oth (fun v => IsT2 rE v [(lstep U ((sw (bt != was) A B).1) ((sw (bt != was) A B).2)).1.x, (lstep U ((sw (bt != was) A B).1) ((sw (bt != was) A B).2)).1.z] [(lstep U ((sw (bt != was) A B).1) ((sw (bt != was) A B).2)).2.x, (lstep U ((sw (bt != was) A B).1) ((sw (bt != was) A B).2)).2.z]), .val rE [(lstep U ((sw (bt != was) A B).1) ((sw (bt != was) A B).2)).1.x, (lstep U ((sw (bt != was) A B).1) ((sw (bt != was) A B).2)).1.z], .val rE [(lstep U ((sw (bt != was) A B).1) ((sw (bt != was) A B).2)).2.x, (lstep U ((sw (bt != was) A B).1) ((sw (bt != was) A B).2)).2.z], .sto q7 rE [(lstep U ((sw (bt != was) A B).1) ((sw (bt != was) A B).2)).1.x, (lstep U ((sw (bt != was) A B).1) ((sw (bt != was) A B).2)).1.z], .sto q8 rE [(lstep U ((sw (bt != was) A B).1) ((sw (bt != was) A B).2)).2.x, (lstep U ((sw (bt != was) A B).1) ((sw (bt != was) A B).2)).2.z]] W10) (Keep [.val rE [U], .val rE [(sw (bt != was) A B).1.x, (sw (bt != was) A B).1.z], .val rE [(sw (bt != was) A B).2.x, (sw (bt != was) A B).2.z], .oth (fun v => IsT2 rE v [(lstep U ((sw (bt != was) A B).1) ((sw (bt != was) A B).2)).1.x, (lstep U ((sw (bt != was) A B).1) ((sw (bt != was) A B).2)).1.z] [(lstep U ((sw (bt != was) A B).1) ((sw (bt != was) A B).2)).2.x, (lstep U ((sw (bt != was) A B).1) ((sw (bt != was) A B).2)).2.z]), .oth (fun v => IsT2 rE v [(lstep U ((sw (bt != was) A B).1) ((sw (bt != was) A B).2)).1.x, (lstep U ((sw (bt != was) A B).1) ((sw (bt != was) A B).2)).1.z] [(lstep U ((sw (bt != was) A B).1) ((sw (bt != was) A B).2)).2.x, (lstep U ((sw (bt != was) A B).1) ((sw (bt != was) A B).2)).2.z]), .val rE [(lstep U ((sw (bt != was) A B).1) ((sw (bt != was) A B).2)).1.x, (lstep U ((sw (bt != was) A B).1) ((sw (bt != was) A B).2)).1.z], .val rE [(lstep U ((sw (bt != was) A B).1) ((sw (bt != was) A B).2)).2.x, (lstep U ((sw (bt != was) A B).1) ((sw (bt != was) A B).2)).2.z], .sto q7 rE [(lstep U ((sw (bt != was) A B).1) ((sw (bt != was) A B).2)).1.x, (lstep U ((sw (bt != was) A B).1) ((sw (bt != was) A B).2)).1.z], .sto q8 rE [(lstep U ((sw (bt != was) A B).1) ((sw (bt != was) A B).2)).2.x, (lstep U ((sw (bt != was) A B).1) ((sw (bt != was) A B).2)).2.z]] W10) (fun k => ([u47, u48, u49, u50, u46, u51, u52, undef, undef] : List Value).getD k undef) ?_ (by rfl) Keep.start (holds_soft (by kernel_rfl)) ?_ ?_
      · intro u i v h
        rcases i with _ | _ | _ | _ | _ | _ | _ | _ | _ | i
        all_goals first | (simp [Act.put, putV]; done) | (exfalso; simp at h; omega)
      · intro hs
        refine ⟨?_, ?_, ?_, ?_, ?_, ?_, ?_, ?_, ?_, trivial⟩
        · exact step_load q6 0 hs (wants_none rfl) rfl rfl tyE (fun _ => E6.out) hm6'.lt hm6' (fun k g hk => by rcases k with _ | _ | _ | _ | _ | _ | _ | _ | _ | k <;> first | (cases hk; done) | (cases hk; exact .inr (Ne.symm HD7_q6.out)) | (cases hk; exact .inr (Ne.symm HD8_q6.out)))
        · exact step_load q7 0 hs (wants_none rfl) rfl rfl typoint (fun _ => E7.out) hs9_9.lt hs9_9 (fun k g hk => by rcases k with _ | _ | _ | _ | _ | _ | _ | _ | _ | k <;> first | (cases hk; done) | (cases hk; exact .inr (Ne.symm HN7_8.out)) | (cases hk; exact .inl (by kernel_rfl)))
        · exact step_load q8 0 hs (wants_none rfl) rfl rfl typoint (fun _ => E8.out) hs9_10.lt hs9_10 (fun k g hk => by rcases k with _ | _ | _ | _ | _ | _ | _ | _ | _ | k <;> first | (cases hk; done) | (cases hk; exact .inr HN7_8.out) | (cases hk; exact .inl (by kernel_rfl)))
        · refine step_callO hs (wants_none rfl) rfl fun L u W hJ hG hdep K hK => ?_
          have a0 := (show IsFs rE (u 0) [U] from hG 0 (hdep 0 (by kernel_rfl)))
          have a1 := (show IsFs rE (u 1) [(sw (bt != was) A B).1.x, (sw (bt != was) A B).1.z] from hG 1 (hdep 1 (by kernel_rfl)))
          have a2 := (show IsFs rE (u 2) [(sw (bt != was) A B).2.x, (sw (bt != was) A B).2.z] from hG 2 (hdep 2 (by kernel_rfl)))
          go_simp
          go_at_call 24
          (with_reducible refine (cStep (a := (sw (bt != was) A B).1) (b := (sw (bt != was) A B).2) a0 a1 a2 _).mono ?_); rintro e w1 ⟨r, rfl, hr, hb⟩
          have hk := hK.out _ _ hr hb
          exact hk
        · exact step_pureO hs (wants_none rfl) rfl fun L u W hG hdep => ⟨_, run_move rfl, (show IsT2 rE (u 3) [(lstep U ((sw (bt != was) A B).1) ((sw (bt != was) A B).2)).1.x, (lstep U ((sw (bt != was) A B).1) ((sw (bt != was) A B).2)).1.z] [(lstep U ((sw (bt != was) A B).1) ((sw (bt != was) A B).2)).2.x, (lstep U ((sw (bt != was) A B).1) ((sw (bt != was) A B).2)).2.z] from hG 3 (hdep 3 (by kernel_rfl)))⟩
        · exact step_pure hs (wants_none rfl) rfl fun L u W hG hdep => run_extract0 rfl (show IsT2 rE (u 4) [(lstep U ((sw (bt != was) A B).1) ((sw (bt != was) A B).2)).1.x, (lstep U ((sw (bt != was) A B).1) ((sw (bt != was) A B).2)).1.z] [(lstep U ((sw (bt != was) A B).1) ((sw (bt != was) A B).2)).2.x, (lstep U ((sw (bt != was) A B).1) ((sw (bt != was) A B).2)).2.z] from hG 4 (hdep 4 (by kernel_rfl)))
        · exact step_pure hs (wants_none rfl) rfl fun L u W hG hdep => run_extract1 rfl (show IsT2 rE (u 4) [(lstep U ((sw (bt != was) A B).1) ((sw (bt != was) A B).2)).1.x, (lstep U ((sw (bt != was) A B).1) ((sw (bt != was) A B).2)).1.z] [(lstep U ((sw (bt != was) A B).1) ((sw (bt != was) A B).2)).2.x, (lstep U ((sw (bt != was) A B).1) ((sw (bt != was) A B).2)).2.z] from hG 4 (hdep 4 (by kernel_rfl)))
        · refine step_storeO q7 10 hs (wants_none rfl) rfl rfl (by kernel_rfl) (fun k hk => ?_) (fun _ => E7.out) (there_lt hs9_9t (by omega)) hs9_9t (gives_op 5 rfl (by kernel_rfl) (fun _ => rfl)) typoint rfl
          rcases k with _ | _ | _ | _ | _ | _ | _ | _ | _ | k
          all_goals first | (exact absurd rfl hk) | (intro e; cases e; done) | (intro e; cases e; exact absurd rfl (Ne.symm HN7_8.out))
        · refine step_storeO q8 10 hs (wants_none rfl) rfl rfl (by kernel_rfl) (fun k hk => ?_) (fun _ => E8.out) (there_lt hs9_10t (by omega)) hs9_10t (gives_op 6 rfl (by kernel_rfl) (fun _ => rfl)) typoint rfl
          rcases k with _ | _ | _ | _ | _ | _ | _ | _ | _ | k
          all_goals first | (exact absurd rfl hk) | (intro e; cases e; done) | (intro e; cases e; exact absurd rfl HN7_8.out)
      intro L11 u11 W11 hall hJ hG
      have hb : Below w.heap.size W10 W11 := hJ.below (by have := hbel.size; omega) (fun k b hf => by rcases k with _ | _ | _ | _ | _ | _ | _ | _ | _ | k <;> first | (cases hf; done) | (cases hf; omega))
      have hbel := hbel.trans hb
      have hm6' := hm6'.blk (hJ.block _ (hm6'.lt) (fun k hk => by rcases k with _ | _ | _ | _ | _ | _ | _ | _ | _ | k <;> first | (cases hk; done) | (cases hk; exact absurd rfl (Ne.symm HD7_q6.out)) | (cases hk; exact absurd rfl (Ne.symm HD8_q6.out))))
      have ht6' := there_blk ht6' (hJ.block _ (there_lt ht6' (by omega)) (fun k hk => by rcases k with _ | _ | _ | _ | _ | _ | _ | _ | _ | k <;> first | (cases hk; done) | (cases hk; exact absurd rfl (Ne.symm HD7_q6.out)) | (cases hk; exact absurd rfl (Ne.symm HD8_q6.out))))
      have htk' := there_blk htk' (hJ.block _ (there_lt htk' (by omega)) (fun k hk => by rcases k with _ | _ | _ | _ | _ | _ | _ | _ | _ | k <;> first | (cases hk; done) | (cases hk; exact absurd rfl (Ne.symm HD7_wheapsize.out)) | (cases hk; exact absurd rfl (Ne.symm HD8_wheapsize.out))))
      have hK' := Lib.hid (blk_keep hK'.out (hJ.block _ (hK'.out.lt) (fun k hk => by rcases k with _ | _ | _ | _ | _ | _ | _ | _ | _ | k <;> first | (cases hk; done) | (cases hk; exact absurd rfl (Ne.symm HD7_wheapsize.out)) | (cases hk; exact absurd rfl (Ne.symm HD8_wheapsize.out)))))
      obtain ⟨_, hs11_7t, hs11_7⟩ := (show _ ∧ W11.there q7 0 10 ∧ HasFs rE W11 q7 0 [(lstep U ((sw (bt != was) A B).1) ((sw (bt != was) A B).2)).1.x, (lstep U ((sw (bt != was) A B).1) ((sw (bt != was) A B).2)).1.z] from hG 7 (by simp))
      obtain ⟨_, hs11_8t, hs11_8⟩ := (show _ ∧ W11.there q8 0 10 ∧ HasFs rE W11 q8 0 [(lstep U ((sw (bt != was) A B).1) ((sw (bt != was) A B).2)).2.x, (lstep U ((sw (bt != was) A B).1) ((sw (bt != was) A B).2)).2.z] from hG 8 (by simp))
      have hbel0 := hbel
      clear hJ hG hall hb
      go_wp2_with fail
      go_roundw
      case rel => exact ⟨i, bt, _, _, by omega, HC9.out, by go_num, hm6', hs11_7, hs11_8, ht6', hs11_7t, hs11_8t, htk', hK'.out, hbel, by rw [← HST.out, ← HBT.out]; rfl⟩
      case measure => simp [intOf]
    · obtain rfl : j = 0 := by omega
      have hz : (((0 : Nat) : Int) - 1) = -1 := by omega
      simp only [hz]
      clear hz h0
      go_upto_region 12 with fail
      have hbel := hbel'
      have hbel0 := hbel'
      have hK' := Lib.hid hK'
      refine wp_region_turn (fun u => (Value.slice a n cap :: Value.slice b m cap' :: undef :: undef :: Value.slice none 0 0 :: Value.slice (some { block := w.heap.size, off := 0 }) 32 32 :: u2 2 :: u3 6 :: u3 7 :: Value.bool was :: Value.int IntKind.i64 (-1) :: u11 :: Value.slice a n cap :: Value.slice (some { block := w.heap.size, off := 0 }) 32 32 :: u2 0 :: u2 1 :: u3 0 :: u3 1 :: u3 2 :: u3 3 :: u3 4 :: u3 5 :: Value.int IntKind.i64 (-1) :: Value.bool false :: u24 :: u25 :: u26 :: u27 :: u28 :: u29 :: u30 :: u31 :: u32 :: u33 :: u34 :: u35 :: u36 :: u37 :: u38 :: u39 :: u40 :: u41 :: u42 :: u43 :: u44 :: u45 :: u46 :: u47 :: u48 :: u49 :: u50 :: u51 :: u52 :: u 4 :: u 0 :: u 1 :: u 2 :: u 3 :: u 5 :: u 6 :: undef :: undef :: undef :: undef :: undef :: undef :: undef :: []).toArray) (Holds [.oth (fun v => v = .bool was), .val rE [A.x, A.z], .val rE [B.x, B.z], .oth (fun v => IsT2 rE v [(sw was A B).1.x, (sw was A B).1.z] [(sw was A B).2.x, (sw was A B).2.z]), .oth (fun v => IsT2 rE v [(sw was A B).1.x, (sw was A B).1.z] [(sw was A B).2.x, (sw was A B).2.z]), .val rE [(sw was A B).1.x, (sw was A B).1.z], .val rE [(sw was A B).2.x, (sw was A B).2.z], .sto q7 rE [(sw was A B).1.x, (sw was A B).1.z]] wr) (Keep [.oth (fun v => v = .bool was), .val rE [A.x, A.z], .val rE [B.x, B.z], .oth (fun v => IsT2 rE v [(sw was A B).1.x, (sw was A B).1.z] [(sw was A B).2.x, (sw was A B).2.z]), .oth (fun v => IsT2 rE v [(sw was A B).1.x, (sw was A B).1.z] [(sw was A B).2.x, (sw was A B).2.z]), .val rE [(sw was A B).1.x, (sw was A B).1.z], .val rE [(sw was A B).2.x, (sw was A B).2.z], .sto q7 rE [(sw was A B).1.x, (sw was A B).1.z]] wr) (fun _ => undef) ?_ (by rfl) Keep.start (holds_soft (by kernel_rfl)) ?_ ?_
      · intro u i v h
        rcases i with _ | _ | _ | _ | _ | _ | _ | _ | i
        all_goals first | (simp [Act.put, putV]; done) | (exfalso; simp at h; omega)
      · intro hs
        refine ⟨?_, ?_, ?_, ?_, ?_, ?_, ?_, ?_, trivial⟩
        · exact step_pureO hs (wants_none rfl) rfl fun L u W hG hdep => ⟨_, run_move rfl, rfl⟩
        · exact step_load q7 0 hs (wants_none rfl) rfl rfl typoint (fun _ => E7.out) hm7'.lt hm7' (fun k g hk => by rcases k with _ | _ | _ | _ | _ | _ | _ | _ | k <;> first | (cases hk; done) | (cases hk; exact .inl (by kernel_rfl)))
        · exact step_load q8 0 hs (wants_none rfl) rfl rfl typoint (fun _ => E8.out) hm8'.lt hm8' (fun k g hk => by rcases k with _ | _ | _ | _ | _ | _ | _ | _ | k <;> first | (cases hk; done) | (cases hk; exact .inr HN7_8.out))
        · refine step_callO hs (wants_none rfl) rfl fun L u W hJ hG hdep K hK => ?_
          have a0 := (show IsFs rE (u 1) [A.x, A.z] from hG 1 (hdep 1 (by kernel_rfl)))
          have a1 := (show IsFs rE (u 2) [B.x, B.z] from hG 2 (hdep 2 (by kernel_rfl)))
          have x0 := (show u 0 = .bool was from hG 0 (hdep 0 (by kernel_rfl)))
          go_simp
          go_at_call 23
          (with_reducible refine (cSwap (a := A) (b := B) a0 a1 _).mono ?_); rintro e w1 ⟨r, rfl, hr, hb⟩
          have hk := hK.out _ _ hr hb
          simp only [x0] at hk
          exact hk
        · exact step_pureO hs (wants_none rfl) rfl fun L u W hG hdep => ⟨_, run_move rfl, (show IsT2 rE (u 3) [(sw was A B).1.x, (sw was A B).1.z] [(sw was A B).2.x, (sw was A B).2.z] from hG 3 (hdep 3 (by kernel_rfl)))⟩
        · exact step_pure hs (wants_none rfl) rfl fun L u W hG hdep => run_extract0 rfl (show IsT2 rE (u 4) [(sw was A B).1.x, (sw was A B).1.z] [(sw was A B).2.x, (sw was A B).2.z] from hG 4 (hdep 4 (by kernel_rfl)))
        · exact step_pure hs (wants_none rfl) rfl fun L u W hG hdep => run_extract1 rfl (show IsT2 rE (u 4) [(sw was A B).1.x, (sw was A B).1.z] [(sw was A B).2.x, (sw was A B).2.z] from hG 4 (hdep 4 (by kernel_rfl)))
        · refine step_storeO q7 10 hs (wants_none rfl) rfl rfl (by kernel_rfl) (fun k hk => ?_) (fun _ => E7.out) (there_lt ht7' (by omega)) ht7' (gives_op 5 rfl (by kernel_rfl) (fun _ => rfl)) typoint rfl
          rcases k with _ | _ | _ | _ | _ | _ | _ | _ | k
          all_goals first | (exact absurd rfl hk) | (intro e; cases e; done)
      intro L12 u12 W12 hall hJ hG
      have hb : Below w.heap.size wr W12 := hJ.below (by have := hbel.size; omega) (fun k b hf => by rcases k with _ | _ | _ | _ | _ | _ | _ | _ | k <;> first | (cases hf; done) | (cases hf; omega))
      have hbel := hbel.trans hb
      have hm6' := hm6'.blk (hJ.block _ (hm6'.lt) (fun k hk => by rcases k with _ | _ | _ | _ | _ | _ | _ | _ | k <;> first | (cases hk; done) | (cases hk; exact absurd rfl (Ne.symm HD7_q6.out))))
      have hm8' := hm8'.blk (hJ.block _ (hm8'.lt) (fun k hk => by rcases k with _ | _ | _ | _ | _ | _ | _ | _ | k <;> first | (cases hk; done) | (cases hk; exact absurd rfl HN7_8.out)))
      have ht6' := there_blk ht6' (hJ.block _ (there_lt ht6' (by omega)) (fun k hk => by rcases k with _ | _ | _ | _ | _ | _ | _ | _ | k <;> first | (cases hk; done) | (cases hk; exact absurd rfl (Ne.symm HD7_q6.out))))
      have ht8' := there_blk ht8' (hJ.block _ (there_lt ht8' (by omega)) (fun k hk => by rcases k with _ | _ | _ | _ | _ | _ | _ | _ | k <;> first | (cases hk; done) | (cases hk; exact absurd rfl HN7_8.out)))
      have htk' := there_blk htk' (hJ.block _ (there_lt htk' (by omega)) (fun k hk => by rcases k with _ | _ | _ | _ | _ | _ | _ | _ | k <;> first | (cases hk; done) | (cases hk; exact absurd rfl (Ne.symm HD7_wheapsize.out))))
      have hK' := Lib.hid (blk_keep hK'.out (hJ.block _ (hK'.out.lt) (fun k hk => by rcases k with _ | _ | _ | _ | _ | _ | _ | _ | k <;> first | (cases hk; done) | (cases hk; exact absurd rfl (Ne.symm HD7_wheapsize.out)))))
      obtain ⟨_, hs12_7t, hs12_7⟩ := (show _ ∧ W12.there q7 0 10 ∧ HasFs rE W12 q7 0 [(sw was A B).1.x, (sw was A B).1.z] from hG 7 (by simp))
      have HC54 := Lib.hid (show u12 0 = .bool was from hG 0 (by simp))
      have hbel0 := hbel
      clear hJ hG hall hb
      go_upto_region 13 with fail
      refine wp_region_mid (fun u => (Value.slice a n cap :: Value.slice b m cap' :: undef :: undef :: u 7 :: Value.slice (some { block := w.heap.size, off := 0 }) 32 32 :: u2 2 :: u3 6 :: u3 7 :: Value.bool was :: Value.int IntKind.i64 (-1) :: u11 :: Value.slice a n cap :: Value.slice (some { block := w.heap.size, off := 0 }) 32 32 :: u2 0 :: u2 1 :: u3 0 :: u3 1 :: u3 2 :: u3 3 :: u3 4 :: u3 5 :: Value.int IntKind.i64 (-1) :: Value.bool false :: u24 :: u25 :: u26 :: u27 :: u28 :: u29 :: u30 :: u31 :: u32 :: u33 :: u34 :: u35 :: u36 :: u37 :: u38 :: u39 :: u40 :: u41 :: u42 :: u43 :: u44 :: u45 :: u46 :: u47 :: u48 :: u49 :: u50 :: u51 :: u52 :: u12 4 :: u12 0 :: u12 1 :: u12 2 :: u12 3 :: u12 5 :: u12 6 :: u 0 :: u 1 :: u 2 :: u 3 :: u 4 :: u 5 :: u 6 :: []).toArray) (Holds [.ptr q7 0, .val rE [(sw was A B).1.x], .ptr q7 5, .val rE [(sw was A B).1.z], .val rE [finv ((sw was A B).1.z)], .val rE [((sw was A B).1.x) * (finv ((sw was A B).1.z))], .rd (leB 32 (((sw was A B).1.x) * (finv ((sw was A B).1.z))).val), .rd (leB 32 (((sw was A B).1.x) * (finv ((sw was A B).1.z))).val)] W12) (Keep [.ptr q7 0, .val rE [(sw was A B).1.x], .ptr q7 5, .val rE [(sw was A B).1.z], .val rE [finv ((sw was A B).1.z)], .val rE [((sw was A B).1.x) * (finv ((sw was A B).1.z))], .rd (leB 32 (((sw was A B).1.x) * (finv ((sw was A B).1.z))).val), .rd (leB 32 (((sw was A B).1.x) * (finv ((sw was A B).1.z))).val)] W12) (fun k => ([undef, undef, undef, undef, undef, undef, undef, Value.slice none 0 0] : List Value).getD k undef) (by kernel_rfl) (by kernel_rfl) ?_ (by rfl) Keep.drew (holds_soft (by kernel_rfl)) ?_ ?_
      · intro u i v h
        rcases i with _ | _ | _ | _ | _ | _ | _ | _ | i
        all_goals first | (simp [Act.put, putV]; done) | (exfalso; simp at h; omega)
      · intro hs
        refine ⟨?_, ?_, ?_, ?_, ?_, ?_, ?_, ?_, trivial⟩
        · exact step_field hs (wants_none rfl) rfl rfl (fun _ => E7.out) (field_point0 _)
        · exact step_loadF 0 q7 0 hs (wants_none rfl) rfl rfl tyE (fun _ => rfl) rfl (by kernel_rfl) hs12_7.lt (hs12_7.fld 0 1) (noSto_apart (by kernel_rfl))
        · exact step_field hs (wants_none rfl) rfl rfl (fun _ => E7.out) (field_point1 _)
        · exact step_loadF 2 q7 5 hs (wants_none rfl) rfl rfl tyE (fun _ => rfl) rfl (by kernel_rfl) hs12_7.lt (hs12_7.fld 1 1) (noSto_apart (by kernel_rfl))
        · refine step_call hs (wants_none rfl) rfl fun L u W hJ hG hL hdep K hK => ?_
          have a0 := (show IsFs rE (u 3) [(sw was A B).1.z] from hG 3 (hdep 3 (by kernel_rfl)))
          go_simp
          go_at_call 26
          (with_reducible refine (cInv a0 _).mono ?_); rintro e w1 ⟨r, rfl, hr, hb⟩
          have hk := hK.out _ _ hr hb
          exact hk
        · refine step_call hs (wants_none rfl) rfl fun L u W hJ hG hL hdep K hK => ?_
          have a0 := (show IsFs rE (u 1) [(sw was A B).1.x] from hG 1 (hdep 1 (by kernel_rfl)))
          have a1 := (show IsFs rE (u 4) [finv ((sw was A B).1.z)] from hG 4 (hdep 4 (by kernel_rfl)))
          go_simp
          go_at_call 25
          (with_reducible refine (cMul a0 a1 _).mono ?_); rintro e w1 ⟨r, rfl, hr, hb⟩
          have hk := hK.out _ _ hr hb
          exact hk
        · refine step_callB hs (wants_none rfl) rfl fun L u W hJ hG hdep K hK => ?_
          have a0 := (show IsFs rE (u 5) [((sw was A B).1.x) * (finv ((sw was A B).1.z))] from hG 5 (hdep 5 (by kernel_rfl)))
          go_simp
          go_at_call 27
          (with_reducible refine (cBytes a0 _).mono ?_); rintro e w1 ⟨g, n, cap, r, rfl, h1, h2, h3, h4, h5, hb⟩
          have hk := hK.out _ _ _ _ _ h1 h2 h3 h4 h5 hb
          exact hk
        · exact step_moveB 6 hs (wants_none rfl) rfl (by first | exact .inl rfl | exact .inr rfl) rfl (by kernel_rfl) (fun _ => rfl)
      intro L13 u13 W13 hall hJ hG
      obtain ⟨gB7, nB7, cB7, rB7, eB7, hgB7, hB7, hlB7, hcB7, hmB7⟩ := (show ∃ g n cap r, u13 7 = .slice (some ⟨g, 0, none⟩) n cap ∧ W12.heap.size ≤ g ∧ Blk W13 g ((leB 32 (((sw was A B).1.x) * (finv ((sw was A B).1.z))).val).map bV ++ r) 5 ∧ (leB 32 (((sw was A B).1.x) * (finv ((sw was A B).1.z))).val).length = n ∧ n ≤ cap ∧ cap ≤ maxLen from hG 7 (by simp))
      have hgB7 : w.heap.size ≤ gB7 := by have := hbel0.size; omega
      have EB7 := Lib.hid eB7; clear eB7
      have HB7 := Lib.hid hB7; clear hB7
      have HE7_q6 := Lib.hid (show q6 ≠ gB7 by have := there_lt ht6' (by omega); omega)
      have HE7_q7 := Lib.hid (show q7 ≠ gB7 by have := there_lt hs12_7t (by omega); omega)
      have HE7_q8 := Lib.hid (show q8 ≠ gB7 by have := there_lt ht8' (by omega); omega)
      have HE7_wheapsize := Lib.hid (show w.heap.size ≠ gB7 by have := there_lt htk' (by omega); omega)
      have hb := hJ.all rfl
      have hbel := Below.call hbel hb
      have hm6' := hm6'.later hb
      have hs12_7 := hs12_7.later hb
      have hm8' := hm8'.later hb
      have ht6' := there_later ht6' hb
      have hs12_7t := there_later hs12_7t hb
      have ht8' := there_later ht8' hb
      have htk' := there_later htk' hb
      have hK' := Lib.hid (hK'.out.below' hb)
      have hbel0 := hbel
      clear hJ hG hall hb
      go_wp2
      go_ret
      rw [leB_len] at hlB7
      subst hlB7
      refine ⟨gB7, cB7, rB7, by rw [EB7.out]; rfl, hgB7, ?_, hcB7, hmB7, hbel⟩
      rw [HKB.out, HU.out]
      have e : ladder (leN kb) U = (sw was A B).1.x * finv (sw was A B).1.z := by
        unfold ladder
        rw [← HST.out]
        cases was <;> rfl
      rw [e]
      exact HB7.out
end Go.Proofs.Ytmoggjbnlimepaa
