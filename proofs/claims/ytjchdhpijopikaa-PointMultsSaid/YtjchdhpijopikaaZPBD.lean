/- What PB rests on, part 4 of 6: my own texts, put together (merge.py). -/
import Derived.Test.YtjchdhpijopikaaRows
import Derived.WalkKit
import Derived.ProofKit
import Derived.Lib.Hide
import Derived.OpenShut
import Derived.WalkSpells
import Derived.StillTactics
import Derived.Laws.Pointers
import Derived.Laws.CopyOwn
import Derived.Laws.AppendOwnNone
import Derived.Deep.RegionHeld3
import Derived.RowKit3
import Derived.BigQuiet
import Derived.Deep.QuietTactic
import Derived.Deep.LoopGhost
import Derived.Deep.DeepFit
import Derived.WalkLawsBesides
import Derived.Shelf.Spec.BitsCarry
import Derived.Deep.MidRow
import Derived.Laws.IdiomStrings
import Derived.Deep.DeepCutAuto
import Derived.Deep.WholeRow
import Derived.Laws.Rows
import Derived.Lib.AppendZerosOnto
import Derived.Lib.SliceRun
import Derived.Deep.AppendLies
import Derived.ShutString
import Derived.ChangeOld
import Derived.Test.YtjchdhpijopikaaZPBC
namespace Go.Proofs.Ytjchdhpijopikaa
open Go Go.RowKit
theorem sc_253 {x : F} (h : x.val < Lq) : x.val / 2 ^ 253 = 0 := Nat.div_eq_of_lt (Nat.lt_trans h (by decide +kernel))
theorem bit_1 {s : F} {i : Nat} (hi : i ≤ 255) (h : s.val / 2 ^ i % 2 = 1) : bitI s (i : Nat) = 1 := by
  unfold bitI; rw [if_pos ⟨by omega, by omega⟩, show (i : Int).toNat = i from rfl, h]; rfl
theorem bit_0 {s : F} {i : Nat} (hi : i ≤ 255) (h : ¬ s.val / 2 ^ i % 2 = 1) : bitI s (i : Nat) = 0 := by
  unfold bitI; rw [if_pos ⟨by omega, by omega⟩, show (i : Int).toNat = i from rfl, show s.val / 2 ^ i % 2 = 0 by omega]; rfl
theorem mul_dig1 {P : EP} {s : F} {i : Nat} (h : s.val / 2 ^ i % 2 = 1) : Cp.add (Cp.add (Cp.mul (s.val / 2 ^ (i + 1)) P) (Cp.mul (s.val / 2 ^ (i + 1)) P)) P = Cp.mul (s.val / 2 ^ i) P := by rw [mul_digit P s.val i, if_pos h]
theorem mul_dig0 {P : EP} {s : F} {i : Nat} (h : ¬ s.val / 2 ^ i % 2 = 1) : Cp.add (Cp.mul (s.val / 2 ^ (i + 1)) P) (Cp.mul (s.val / 2 ^ (i + 1)) P) = Cp.mul (s.val / 2 ^ i) P := by rw [mul_digit P s.val i, if_neg h]
set_option maxRecDepth 100000 in
set_option maxHeartbeats 4000000 in
theorem cMult {v0 v1 : Value} {P Q : EP} {s : F} (hq : Cp.mul s.val P = Q) (h0 : IsFs rP v0 [P]) (h1 : IsFs rS v1 [s]) (w : World) :
    Calls Try.prog 17 #[v0, v1] w fun e w' => ∃ r, e = .returned r ∧ IsFs rP r [Q] ∧ Below w.heap.size w w' := by
  have HL := Lib.hid (of_isS h1).1
  subst hq
  go_enter Try.func17, Try.ntmps17
  have hbel : Below w.heap.size w w := Below.refl _ _
  have hbel0 := hbel
  go_upto_region 0 with fail
  refine wp_region_turn (fun u => #[v0, v1, u 0, u 1, u 2, undef, undef, undef, undef, undef, undef, undef, undef, undef, undef, undef, undef, undef, undef, undef, undef, undef, undef, undef, undef, undef, undef, undef, undef, undef]) (Holds [.box rP [P], .box rS [s], .new 20] w) (Keep [.box rP [P], .box rS [s], .new 20] w) (fun _ => undef) ?_ (by rfl) Keep.start (holds_soft (by kernel_rfl)) ?_ ?_
  · intro u i v h
    rcases i with _ | _ | _ | i
    all_goals first | (simp [Act.put, putV]; done) | (exfalso; simp at h; omega)
  · intro hs
    refine ⟨?_, ?_, ?_, trivial⟩
    · exact step_box hs (wants_none rfl) rfl rfl (gives_c h0 (fun _ => rfl))
    · exact step_box hs (wants_none rfl) rfl rfl (gives_c h1 (fun _ => rfl))
    · exact step_alloc hs (wants_none rfl) rfl rfl (by omega) rfl allocP
  intro L0 u0 W0 hall hJ hG
  obtain ⟨q2, e2, ⟨hq2, _⟩, ht2, hm2⟩ := (show ∃ g, u0 0 = .pointer (some ⟨g, 0, none⟩) ∧ (w.heap.size ≤ g ∧ g < W0.heap.size) ∧ W0.there g 0 20 ∧ HasFs rP W0 g 0 [P] from hG 0 (by simp))
  have hq2 : w.heap.size ≤ q2 := by have := hbel0.size; omega
  have E2 := Lib.hid e2; clear e2
  obtain ⟨q3, e3, ⟨hq3, _⟩, ht3, hm3⟩ := (show ∃ g, u0 1 = .pointer (some ⟨g, 0, none⟩) ∧ (w.heap.size ≤ g ∧ g < W0.heap.size) ∧ W0.there g 0 4 ∧ HasFs rS W0 g 0 [s] from hG 1 (by simp))
  have hq3 : w.heap.size ≤ q3 := by have := hbel0.size; omega
  have E3 := Lib.hid e3; clear e3
  obtain ⟨q4, e4, hq4, _, ht4⟩ := (show ∃ g, u0 2 = .pointer (some ⟨g, 0, none⟩) ∧ w.heap.size ≤ g ∧ 0 < 20 ∧ W0.there g 0 20 from hG 2 (by simp))
  have hq4 : w.heap.size ≤ q4 := by have := hbel0.size; omega
  have E4 := Lib.hid e4; clear e4
  have hb := hJ.all rfl
  have hbel := Below.call hbel hb
  have HN2_3 := Lib.hid (show q2 ≠ q3 from fun e => hJ.apart 0 1 _ (by omega) (hall _ (by simp)) (hall _ (by simp)) rfl rfl (E2.out.trans (by rw [e])) E3.out)
  have HN2_4 := Lib.hid (show q2 ≠ q4 from fun e => hJ.apart 0 2 _ (by omega) (hall _ (by simp)) (hall _ (by simp)) rfl rfl (E2.out.trans (by rw [e])) E4.out)
  have HN3_4 := Lib.hid (show q3 ≠ q4 from fun e => hJ.apart 1 2 _ (by omega) (hall _ (by simp)) (hall _ (by simp)) rfl rfl (E3.out.trans (by rw [e])) E4.out)
  have hbel0 := hbel
  clear hJ hG hall hb
  go_upto_region 1 with fail
  refine wp_region_turn (fun u => #[v0, v1, u0 0, u0 1, u0 2, undef, undef, undef, u 0, u 1, undef, undef, undef, undef, undef, undef, undef, undef, undef, undef, undef, undef, undef, undef, undef, undef, undef, undef, undef, undef]) (Holds [.val rP [P], .val rPr [P], .sto q2 rPr [P]] W0) (Keep [.val rP [P], .val rPr [P], .sto q2 rPr [P]] W0) (fun _ => undef) ?_ (by rfl) Keep.start (holds_soft (by kernel_rfl)) ?_ ?_
  · intro u i v h
    rcases i with _ | _ | _ | i
    all_goals first | (simp [Act.put, putV]; done) | (exfalso; simp at h; omega)
  · intro hs
    refine ⟨?_, ?_, ?_, trivial⟩
    · exact step_load q2 0 hs (wants_none rfl) rfl rfl tyP (fun _ => E2.out) hm2.lt hm2 (fun k g hk => by rcases k with _ | _ | _ | k <;> first | (cases hk; done) | (cases hk; exact .inl (by kernel_rfl)))
    · refine step_call hs (wants_none rfl) rfl fun L u W hJ hG hL hdep K hK => ?_
      have a0 := (show IsFs rP (u 0) [P] from hG 0 (hdep 0 (by kernel_rfl)))
      go_simp
      go_at_call 59
      (with_reducible refine (cReady a0 _).mono ?_); rintro e w1 ⟨r, rfl, hr, hb⟩
      have hk := hK.out _ _ hr hb
      exact hk
    · refine step_storeO q2 20 hs (wants_none rfl) rfl rfl (by kernel_rfl) (fun k hk => ?_) (fun _ => E2.out) (there_lt ht2 (by omega)) ht2 (gives_op 1 rfl (by kernel_rfl) (fun _ => rfl)) tyPr rfl
      rcases k with _ | _ | _ | k
      all_goals first | (exact absurd rfl hk) | (intro e; cases e; done)
  intro L1 u1 W1 hall hJ hG
  have hb : Below w.heap.size W0 W1 := hJ.below (by have := hbel.size; omega) (fun k b hf => by rcases k with _ | _ | _ | k <;> first | (cases hf; done) | (cases hf; omega))
  have hbel := hbel.trans hb
  have hm3 := hm3.blk (hJ.block _ (hm3.lt) (fun k hk => by rcases k with _ | _ | _ | k <;> first | (cases hk; done) | (cases hk; exact absurd rfl HN2_3.out)))
  have ht3 := there_blk ht3 (hJ.block _ (there_lt ht3 (by omega)) (fun k hk => by rcases k with _ | _ | _ | k <;> first | (cases hk; done) | (cases hk; exact absurd rfl HN2_3.out)))
  have ht4 := there_blk ht4 (hJ.block _ (there_lt ht4 (by omega)) (fun k hk => by rcases k with _ | _ | _ | k <;> first | (cases hk; done) | (cases hk; exact absurd rfl HN2_4.out)))
  obtain ⟨_, hs1_2t, hs1_2⟩ := (show _ ∧ W1.there q2 0 20 ∧ HasFs rPr W1 q2 0 [P] from hG 2 (by simp))
  have hbel0 := hbel
  clear hJ hG hall hb
  go_upto_region 2 with fail
  refine wp_region_turn (fun u => #[v0, v1, u0 0, u0 1, u0 2, u 1, undef, undef, u1 0, u1 1, u 0, undef, undef, undef, undef, undef, undef, undef, undef, undef, undef, undef, undef, undef, undef, undef, undef, undef, undef, undef]) (Holds [.val rE [dE2], .new 5, .st 1 rE [dE2]] W1) (Keep [.val rE [dE2], .new 5, .st 1 rE [dE2]] W1) (fun _ => undef) ?_ (by rfl) Keep.start (holds_soft (by kernel_rfl)) ?_ ?_
  · intro u i v h
    rcases i with _ | _ | _ | i
    all_goals first | (simp [Act.put, putV]; done) | (exfalso; simp at h; omega)
  · intro hs
    refine ⟨?_, ?_, ?_, trivial⟩
    · refine step_call hs (wants_none rfl) rfl fun L u W hJ hG hL hdep K hK => ?_
      go_simp
      go_at_call 64
      (with_reducible refine (cTwice _).mono ?_); rintro e w1 ⟨r, rfl, hr, hb⟩
      have hk := hK.out _ _ hr hb
      exact hk
    · exact step_alloc hs (wants_none rfl) rfl rfl (by omega) rfl allocE
    · exact step_store 1 hs (by kernel_rfl) (wants_none rfl) rfl rfl rfl (by kernel_rfl) (by kernel_rfl) (by kernel_rfl) (by kernel_rfl) (fun _ => rfl) (gives_op 0 rfl (by kernel_rfl) (fun _ => rfl)) tyE rfl
  intro L2 u2 W2 hall hJ hG
  obtain ⟨q5, e5, hq5, _, ht5⟩ := (show ∃ g, u2 1 = .pointer (some ⟨g, 0, none⟩) ∧ W1.heap.size ≤ g ∧ 0 < 5 ∧ W2.there g 0 5 from hG 1 (by simp))
  have hm5 : HasFs rE W2 q5 0 [dE2] := by
    obtain ⟨g, e, _, h⟩ := (show ∃ g, u2 1 = .pointer (some ⟨g, 0, none⟩) ∧ W1.heap.size ≤ g ∧ HasFs rE W2 g 0 [dE2] from hG 2 (by simp))
    rw [e5] at e; cases e; exact h
  have HD5_q2 := Lib.hid (show q2 ≠ q5 by have := there_lt hs1_2t (by omega); omega)
  have HD5_q3 := Lib.hid (show q3 ≠ q5 by have := there_lt ht3 (by omega); omega)
  have HD5_q4 := Lib.hid (show q4 ≠ q5 by have := there_lt ht4 (by omega); omega)
  have hq5 : w.heap.size ≤ q5 := by have := hbel0.size; omega
  have E5 := Lib.hid e5; clear e5
  have hb := hJ.all rfl
  have hbel := Below.call hbel hb
  have hs1_2 := hs1_2.later hb
  have hm3 := hm3.later hb
  have hs1_2t := there_later hs1_2t hb
  have ht3 := there_later ht3 hb
  have ht4 := there_later ht4 hb
  have hbel0 := hbel
  clear hJ hG hall hb
  go_upto_region 3 with fail
  refine wp_region_turn (fun u => #[v0, v1, u0 0, u0 1, u0 2, u2 1, u 2, undef, u1 0, u1 1, u2 0, u 0, u 1, undef, undef, undef, undef, undef, undef, undef, undef, undef, undef, undef, undef, undef, undef, undef, undef, undef]) (Holds [.val rP [Cp.zero], .val rPr [Cp.zero], .new 20, .st 2 rPr [Cp.zero]] W2) (Keep [.val rP [Cp.zero], .val rPr [Cp.zero], .new 20, .st 2 rPr [Cp.zero]] W2) (fun _ => undef) ?_ (by rfl) Keep.start (holds_soft (by kernel_rfl)) ?_ ?_
  · intro u i v h
    rcases i with _ | _ | _ | _ | i
    all_goals first | (simp [Act.put, putV]; done) | (exfalso; simp at h; omega)
  · intro hs
    refine ⟨?_, ?_, ?_, ?_, trivial⟩
    · exact step_pure hs (wants_none rfl) rfl fun L u W hG hdep => run_build0 rfl (build_P0 W)
    · refine step_call hs (wants_none rfl) rfl fun L u W hJ hG hL hdep K hK => ?_
      have a0 := (show IsFs rP (u 0) [Cp.zero] from hG 0 (hdep 0 (by kernel_rfl)))
      go_simp
      go_at_call 59
      (with_reducible refine (cReady a0 _).mono ?_); rintro e w1 ⟨r, rfl, hr, hb⟩
      have hk := hK.out _ _ hr hb
      exact hk
    · exact step_alloc hs (wants_none rfl) rfl rfl (by omega) rfl allocP
    · exact step_store 2 hs (by kernel_rfl) (wants_none rfl) rfl rfl rfl (by kernel_rfl) (by kernel_rfl) (by kernel_rfl) (by kernel_rfl) (fun _ => rfl) (gives_op 1 rfl (by kernel_rfl) (fun _ => rfl)) tyPr rfl
  intro L3 u3 W3 hall hJ hG
  obtain ⟨q6, e6, hq6, _, ht6⟩ := (show ∃ g, u3 2 = .pointer (some ⟨g, 0, none⟩) ∧ W2.heap.size ≤ g ∧ 0 < 20 ∧ W3.there g 0 20 from hG 2 (by simp))
  have hm6 : HasFs rPr W3 q6 0 [Cp.zero] := by
    obtain ⟨g, e, _, h⟩ := (show ∃ g, u3 2 = .pointer (some ⟨g, 0, none⟩) ∧ W2.heap.size ≤ g ∧ HasFs rPr W3 g 0 [Cp.zero] from hG 3 (by simp))
    rw [e6] at e; cases e; exact h
  have HD6_q2 := Lib.hid (show q2 ≠ q6 by have := there_lt hs1_2t (by omega); omega)
  have HD6_q3 := Lib.hid (show q3 ≠ q6 by have := there_lt ht3 (by omega); omega)
  have HD6_q4 := Lib.hid (show q4 ≠ q6 by have := there_lt ht4 (by omega); omega)
  have HD6_q5 := Lib.hid (show q5 ≠ q6 by have := there_lt ht5 (by omega); omega)
  have hq6 : w.heap.size ≤ q6 := by have := hbel0.size; omega
  have E6 := Lib.hid e6; clear e6
  have hb := hJ.all rfl
  have hbel := Below.call hbel hb
  have hs1_2 := hs1_2.later hb
  have hm3 := hm3.later hb
  have hm5 := hm5.later hb
  have hs1_2t := there_later hs1_2t hb
  have ht3 := there_later ht3 hb
  have ht4 := there_later ht4 hb
  have ht5 := there_later ht5 hb
  have hbel0 := hbel
  clear hJ hG hall hb
  go_wp2_with fail
  go_loopw [7] (fun sk wr => ∃ j : Nat, j ≤ 253 ∧ sk = .int .i64 ((j : Int) - 1) ∧ HasFs rPr wr q2 0 [P] ∧ HasFs rS wr q3 0 [s] ∧ HasFs rE wr q5 0 [dE2] ∧ HasFs rPr wr q6 0 [Cp.mul (s.val / 2 ^ j) P] ∧ wr.there q2 0 20 ∧ wr.there q3 0 4 ∧ wr.there q5 0 5 ∧ wr.there q6 0 20 ∧ wr.there q4 0 20 ∧ Below w.heap.size w wr) (fun t _ => (intOf t + 1).toNat)
  case atStart => exact ⟨253, by omega, by simp, hs1_2, hm3, hm5, (by rw [sc_253 HL.out]; exact hm6), hs1_2t, ht3, ht5, ht6, ht4, hbel⟩
  case round =>
    obtain ⟨j, hj, rfl, hmP, hmS, hmD, hmO, ht2', ht3', ht5', ht6', ht4', hbel'⟩ := hrel
    clear hm3 hm5 hm6 hs1_2 hs1_2t ht3 ht4 ht5 ht6 hbel hbel0 h0 h1
    have hbel := hbel'
    have hbel0 := hbel'
    by_cases h0 : 0 < j
    · obtain ⟨i, rfl⟩ : ∃ i, j = i + 1 := ⟨j - 1, by omega⟩
      have hz : (((i + 1 : Nat) : Int) - 1) = (i : Int) := by omega
      simp only [hz]
      have h1 : (0 : Int) ≤ (i : Int) := by omega
      have h2 : (i : Int) < 256 := by omega
      have HI : Hid (i + 1 ≤ 253) := Lib.hid (by omega)
      clear hz h0 hj
      go_upto_region 7 with fail
      refine wp_region_turn (fun u => #[v0, v1, u0 0, u0 1, u0 2, u2 1, u3 2, .int .i64 (i : Int), u1 0, u1 1, u2 0, u3 0, u3 1, .int .i64 (i : Int), .bool true, u15, u16, u 0, u 1, u 2, u 3, u21, u22, u23, u24, u25, u26, u27, u28, undef]) (Holds [.val rPr [Cp.mul (s.val / 2 ^ (i + 1)) P], .val rPr [Cp.mul (s.val / 2 ^ (i + 1)) P], .val rE [dE2], .val rPr [Cp.add (Cp.mul (s.val / 2 ^ (i + 1)) P) (Cp.mul (s.val / 2 ^ (i + 1)) P)], .sto q6 rPr [Cp.add (Cp.mul (s.val / 2 ^ (i + 1)) P) (Cp.mul (s.val / 2 ^ (i + 1)) P)]] wr) (Keep [.val rPr [Cp.mul (s.val / 2 ^ (i + 1)) P], .val rPr [Cp.mul (s.val / 2 ^ (i + 1)) P], .val rE [dE2], .val rPr [Cp.add (Cp.mul (s.val / 2 ^ (i + 1)) P) (Cp.mul (s.val / 2 ^ (i + 1)) P)], .sto q6 rPr [Cp.add (Cp.mul (s.val / 2 ^ (i + 1)) P) (Cp.mul (s.val / 2 ^ (i + 1)) P)]] wr) (fun k => ((u17 :: u18 :: u19 :: u20 :: undef :: []) : List Value).getD k undef) ?_ (by rfl) Keep.start (holds_soft (by kernel_rfl)) ?_ ?_
      · intro u i v h
        rcases i with _ | _ | _ | _ | _ | i
        all_goals first | (simp [Act.put, putV]; done) | (exfalso; simp at h; omega)
      · intro hs
        refine ⟨?_, ?_, ?_, ?_, ?_, trivial⟩
        · exact step_load q6 0 hs (wants_none rfl) rfl rfl tyPr (fun _ => E6.out) hmO.lt hmO (fun k g hk => by rcases k with _ | _ | _ | _ | _ | k <;> first | (cases hk; done) | (cases hk; exact .inl (by kernel_rfl)))
        · exact step_load q6 0 hs (wants_none rfl) rfl rfl tyPr (fun _ => E6.out) hmO.lt hmO (fun k g hk => by rcases k with _ | _ | _ | _ | _ | k <;> first | (cases hk; done) | (cases hk; exact .inl (by kernel_rfl)))
        · exact step_load q5 0 hs (wants_none rfl) rfl rfl tyE (fun _ => E5.out) hmD.lt hmD (fun k g hk => by rcases k with _ | _ | _ | _ | _ | k <;> first | (cases hk; done) | (cases hk; exact .inr (Ne.symm HD6_q5.out)))
        · refine step_call hs (wants_none rfl) rfl fun L u W hJ hG hL hdep K hK => ?_
          have a0 := (show IsFs rPr (u 0) [Cp.mul (s.val / 2 ^ (i + 1)) P] from hG 0 (hdep 0 (by kernel_rfl)))
          have a1 := (show IsFs rPr (u 1) [Cp.mul (s.val / 2 ^ (i + 1)) P] from hG 1 (hdep 1 (by kernel_rfl)))
          have a2 := (show IsFs rE (u 2) [dE2] from hG 2 (hdep 2 (by kernel_rfl)))
          go_simp
          go_at_call 65
          (with_reducible refine (cSum a0 a1 a2 _).mono ?_); rintro e w1 ⟨r, rfl, hr, hb⟩
          have hk := hK.out _ _ hr hb
          exact hk
        · refine step_storeO q6 20 hs (wants_none rfl) rfl rfl (by kernel_rfl) (fun k hk => ?_) (fun _ => E6.out) (there_lt ht6' (by omega)) ht6' (gives_op 3 rfl (by kernel_rfl) (fun _ => rfl)) tyPr rfl
          rcases k with _ | _ | _ | _ | _ | k
          all_goals first | (exact absurd rfl hk) | (intro e; cases e; done)
      intro L7 u7 W7 hall hJ hG
      have hb : Below w.heap.size wr W7 := hJ.below (by have := hbel.size; omega) (fun k b hf => by rcases k with _ | _ | _ | _ | _ | k <;> first | (cases hf; done) | (cases hf; omega))
      have hbel := hbel.trans hb
      have hmP := hmP.blk (hJ.block _ (hmP.lt) (fun k hk => by rcases k with _ | _ | _ | _ | _ | k <;> first | (cases hk; done) | (cases hk; exact absurd rfl (Ne.symm HD6_q2.out))))
      have hmS := hmS.blk (hJ.block _ (hmS.lt) (fun k hk => by rcases k with _ | _ | _ | _ | _ | k <;> first | (cases hk; done) | (cases hk; exact absurd rfl (Ne.symm HD6_q3.out))))
      have hmD := hmD.blk (hJ.block _ (hmD.lt) (fun k hk => by rcases k with _ | _ | _ | _ | _ | k <;> first | (cases hk; done) | (cases hk; exact absurd rfl (Ne.symm HD6_q5.out))))
      have ht2' := there_blk ht2' (hJ.block _ (there_lt ht2' (by omega)) (fun k hk => by rcases k with _ | _ | _ | _ | _ | k <;> first | (cases hk; done) | (cases hk; exact absurd rfl (Ne.symm HD6_q2.out))))
      have ht3' := there_blk ht3' (hJ.block _ (there_lt ht3' (by omega)) (fun k hk => by rcases k with _ | _ | _ | _ | _ | k <;> first | (cases hk; done) | (cases hk; exact absurd rfl (Ne.symm HD6_q3.out))))
      have ht5' := there_blk ht5' (hJ.block _ (there_lt ht5' (by omega)) (fun k hk => by rcases k with _ | _ | _ | _ | _ | k <;> first | (cases hk; done) | (cases hk; exact absurd rfl (Ne.symm HD6_q5.out))))
      have ht4' := there_blk ht4' (hJ.block _ (there_lt ht4' (by omega)) (fun k hk => by rcases k with _ | _ | _ | _ | _ | k <;> first | (cases hk; done) | (cases hk; exact absurd rfl (Ne.symm HD6_q4.out))))
      obtain ⟨_, hs7_4t, hs7_4⟩ := (show _ ∧ W7.there q6 0 20 ∧ HasFs rPr W7 q6 0 [Cp.add (Cp.mul (s.val / 2 ^ (i + 1)) P) (Cp.mul (s.val / 2 ^ (i + 1)) P)] from hG 4 (by simp))
      have hbel0 := hbel
      clear hJ hG hall hb
      by_cases hb1 : s.val / 2 ^ i % 2 = 1
      · have HB := Lib.hid hb1; clear hb1
        go_upto_region 8 with fail
        refine wp_region_turn (fun u => #[v0, v1, u0 0, u0 1, u0 2, u2 1, u3 2, .int .i64 (i : Int), u1 0, u1 1, u2 0, u3 0, u3 1, .int .i64 (i : Int), .bool true, u15, u16, u7 0, u7 1, u7 2, u7 3, u 0, u 1, u 2, u 3, u25, u26, u27, u28, undef]) (Holds [.val rS [s], .oth (fun v => v = .int .i64 (i : Int)), .oth (fun v => v = .int .i64 1), .oth (fun v => v = .bool true)] W7) (Keep [.val rS [s], .oth (fun v => v = .int .i64 (i : Int)), .oth (fun v => v = .int .i64 1), .oth (fun v => v = .bool true)] W7) (fun k => ((u21 :: u22 :: u23 :: u24 :: []) : List Value).getD k undef) ?_ (by rfl) Keep.start (holds_soft (by kernel_rfl)) ?_ ?_
        · intro u i v h
          rcases i with _ | _ | _ | _ | i
          all_goals first | (simp [Act.put, putV]; done) | (exfalso; simp at h; omega)
        · intro hs
          refine ⟨?_, ?_, ?_, ?_, trivial⟩
          · exact step_load q3 0 hs (wants_none rfl) rfl rfl tyS (fun _ => E3.out) hmS.lt hmS (noSto_apart (by kernel_rfl))
          · exact step_pureO hs (wants_none rfl) rfl fun L u W hG hdep => ⟨_, run_move rfl, rfl⟩
          · refine step_callO hs (wants_none rfl) rfl fun L u W hJ hG hL hdep K hK => ?_
            have a0 := (show IsFs rS (u 0) [s] from hG 0 (hdep 0 (by kernel_rfl)))
            have x0 := (show u 1 = .int .i64 (i : Int) from hG 1 (hdep 1 (by kernel_rfl)))
            go_simp
            go_at_call 66
            (with_reducible refine (cScBit (z := 1) (bit_1 (by have := HI.out; omega) HB.out) a0 _).mono ?_); rintro e w1 ⟨rfl, hb⟩
            have hk := hK.out _ _ rfl hb
            simp only [x0] at hk
            exact hk
          · refine step_pureO hs (wants_none rfl) rfl fun L u W hG hdep => ⟨_, ?_, rfl⟩
            have e0 := (show u 2 = .int .i64 1 from hG 2 (hdep 2 (by kernel_rfl)))
            go_simp
            try simp [bne]
        intro L8 u8y W8y hall hJ hG
        have hb := hJ.all rfl
        have hbel := Below.call hbel hb
        have hmP := hmP.later hb
        have hmS := hmS.later hb
        have hmD := hmD.later hb
        have hs7_4 := hs7_4.later hb
        have ht2' := there_later ht2' hb
        have ht3' := there_later ht3' hb
        have ht5' := there_later ht5' hb
        have hs7_4t := there_later hs7_4t hb
        have ht4' := there_later ht4' hb
        have HC24 := Lib.hid (show u8y 3 = .bool true from hG 3 (by simp))
        have hbel0 := hbel
        clear hJ hG hall hb
        have hx : u8y 3 = .bool true := HC24.out
        go_wp2_with fail
        rw [hx]
        clear hx
        go_upto_region 9 with fail
        refine wp_region_turn (fun u => #[v0, v1, u0 0, u0 1, u0 2, u2 1, u3 2, .int .i64 (i : Int), u1 0, u1 1, u2 0, u3 0, u3 1, .int .i64 (i : Int), .bool true, u15, u16, u7 0, u7 1, u7 2, u7 3, u8y 0, u8y 1, u8y 2, .bool true, u 0, u 1, u 2, u 3, undef]) (Holds [.val rPr [Cp.add (Cp.mul (s.val / 2 ^ (i + 1)) P) (Cp.mul (s.val / 2 ^ (i + 1)) P)], .val rPr [P], .val rE [dE2], .val rPr [Cp.add (Cp.add (Cp.mul (s.val / 2 ^ (i + 1)) P) (Cp.mul (s.val / 2 ^ (i + 1)) P)) P], .sto q6 rPr [Cp.add (Cp.add (Cp.mul (s.val / 2 ^ (i + 1)) P) (Cp.mul (s.val / 2 ^ (i + 1)) P)) P]] W8y) (Keep [.val rPr [Cp.add (Cp.mul (s.val / 2 ^ (i + 1)) P) (Cp.mul (s.val / 2 ^ (i + 1)) P)], .val rPr [P], .val rE [dE2], .val rPr [Cp.add (Cp.add (Cp.mul (s.val / 2 ^ (i + 1)) P) (Cp.mul (s.val / 2 ^ (i + 1)) P)) P], .sto q6 rPr [Cp.add (Cp.add (Cp.mul (s.val / 2 ^ (i + 1)) P) (Cp.mul (s.val / 2 ^ (i + 1)) P)) P]] W8y) (fun k => ((u25 :: u26 :: u27 :: u28 :: undef :: []) : List Value).getD k undef) ?_ (by rfl) Keep.start (holds_soft (by kernel_rfl)) ?_ ?_
        · intro u i v h
          rcases i with _ | _ | _ | _ | _ | i
          all_goals first | (simp [Act.put, putV]; done) | (exfalso; simp at h; omega)
        · intro hs
          refine ⟨?_, ?_, ?_, ?_, ?_, trivial⟩
          · exact step_load q6 0 hs (wants_none rfl) rfl rfl tyPr (fun _ => E6.out) hs7_4.lt hs7_4 (fun k g hk => by rcases k with _ | _ | _ | _ | _ | k <;> first | (cases hk; done) | (cases hk; exact .inl (by kernel_rfl)))
          · exact step_load q2 0 hs (wants_none rfl) rfl rfl tyPr (fun _ => E2.out) hmP.lt hmP (fun k g hk => by rcases k with _ | _ | _ | _ | _ | k <;> first | (cases hk; done) | (cases hk; exact .inr (Ne.symm HD6_q2.out)))
          · exact step_load q5 0 hs (wants_none rfl) rfl rfl tyE (fun _ => E5.out) hmD.lt hmD (fun k g hk => by rcases k with _ | _ | _ | _ | _ | k <;> first | (cases hk; done) | (cases hk; exact .inr (Ne.symm HD6_q5.out)))
          · refine step_call hs (wants_none rfl) rfl fun L u W hJ hG hL hdep K hK => ?_
            have a0 := (show IsFs rPr (u 0) [Cp.add (Cp.mul (s.val / 2 ^ (i + 1)) P) (Cp.mul (s.val / 2 ^ (i + 1)) P)] from hG 0 (hdep 0 (by kernel_rfl)))
            have a1 := (show IsFs rPr (u 1) [P] from hG 1 (hdep 1 (by kernel_rfl)))
            have a2 := (show IsFs rE (u 2) [dE2] from hG 2 (hdep 2 (by kernel_rfl)))
            go_simp
            go_at_call 65
            (with_reducible refine (cSum a0 a1 a2 _).mono ?_); rintro e w1 ⟨r, rfl, hr, hb⟩
            have hk := hK.out _ _ hr hb
            exact hk
          · refine step_storeO q6 20 hs (wants_none rfl) rfl rfl (by kernel_rfl) (fun k hk => ?_) (fun _ => E6.out) (there_lt hs7_4t (by omega)) hs7_4t (gives_op 3 rfl (by kernel_rfl) (fun _ => rfl)) tyPr rfl
            rcases k with _ | _ | _ | _ | _ | k
            all_goals first | (exact absurd rfl hk) | (intro e; cases e; done)
        intro L9 u9y W9y hall hJ hG
        have hb : Below w.heap.size W8y W9y := hJ.below (by have := hbel.size; omega) (fun k b hf => by rcases k with _ | _ | _ | _ | _ | k <;> first | (cases hf; done) | (cases hf; omega))
        have hbel := hbel.trans hb
        have hmP := hmP.blk (hJ.block _ (hmP.lt) (fun k hk => by rcases k with _ | _ | _ | _ | _ | k <;> first | (cases hk; done) | (cases hk; exact absurd rfl (Ne.symm HD6_q2.out))))
        have hmS := hmS.blk (hJ.block _ (hmS.lt) (fun k hk => by rcases k with _ | _ | _ | _ | _ | k <;> first | (cases hk; done) | (cases hk; exact absurd rfl (Ne.symm HD6_q3.out))))
        have hmD := hmD.blk (hJ.block _ (hmD.lt) (fun k hk => by rcases k with _ | _ | _ | _ | _ | k <;> first | (cases hk; done) | (cases hk; exact absurd rfl (Ne.symm HD6_q5.out))))
        have ht2' := there_blk ht2' (hJ.block _ (there_lt ht2' (by omega)) (fun k hk => by rcases k with _ | _ | _ | _ | _ | k <;> first | (cases hk; done) | (cases hk; exact absurd rfl (Ne.symm HD6_q2.out))))
        have ht3' := there_blk ht3' (hJ.block _ (there_lt ht3' (by omega)) (fun k hk => by rcases k with _ | _ | _ | _ | _ | k <;> first | (cases hk; done) | (cases hk; exact absurd rfl (Ne.symm HD6_q3.out))))
        have ht5' := there_blk ht5' (hJ.block _ (there_lt ht5' (by omega)) (fun k hk => by rcases k with _ | _ | _ | _ | _ | k <;> first | (cases hk; done) | (cases hk; exact absurd rfl (Ne.symm HD6_q5.out))))
        have ht4' := there_blk ht4' (hJ.block _ (there_lt ht4' (by omega)) (fun k hk => by rcases k with _ | _ | _ | _ | _ | k <;> first | (cases hk; done) | (cases hk; exact absurd rfl (Ne.symm HD6_q4.out))))
        obtain ⟨_, hs9_4t, hs9_4⟩ := (show _ ∧ W9y.there q6 0 20 ∧ HasFs rPr W9y q6 0 [Cp.add (Cp.add (Cp.mul (s.val / 2 ^ (i + 1)) P) (Cp.mul (s.val / 2 ^ (i + 1)) P)) P] from hG 4 (by simp))
        have hbel0 := hbel
        clear hJ hG hall hb
        go_wp2_with fail
        go_roundw
        case rel => exact ⟨i, by have := HI.out; omega, by go_num, hmP, hmS, hmD, (by rw [← mul_dig1 HB.out]; exact hs9_4), ht2', ht3', ht5', hs9_4t, ht4', hbel⟩
        case measure => simp [intOf]
      · have HB := Lib.hid hb1; clear hb1
        go_upto_region 8 with fail
        refine wp_region_turn (fun u => #[v0, v1, u0 0, u0 1, u0 2, u2 1, u3 2, .int .i64 (i : Int), u1 0, u1 1, u2 0, u3 0, u3 1, .int .i64 (i : Int), .bool true, u15, u16, u7 0, u7 1, u7 2, u7 3, u 0, u 1, u 2, u 3, u25, u26, u27, u28, undef]) (Holds [.val rS [s], .oth (fun v => v = .int .i64 (i : Int)), .oth (fun v => v = .int .i64 0), .oth (fun v => v = .bool false)] W7) (Keep [.val rS [s], .oth (fun v => v = .int .i64 (i : Int)), .oth (fun v => v = .int .i64 0), .oth (fun v => v = .bool false)] W7) (fun k => ((u21 :: u22 :: u23 :: u24 :: []) : List Value).getD k undef) ?_ (by rfl) Keep.start (holds_soft (by kernel_rfl)) ?_ ?_
        · intro u i v h
          rcases i with _ | _ | _ | _ | i
          all_goals first | (simp [Act.put, putV]; done) | (exfalso; simp at h; omega)
        · intro hs
          refine ⟨?_, ?_, ?_, ?_, trivial⟩
          · exact step_load q3 0 hs (wants_none rfl) rfl rfl tyS (fun _ => E3.out) hmS.lt hmS (noSto_apart (by kernel_rfl))
          · exact step_pureO hs (wants_none rfl) rfl fun L u W hG hdep => ⟨_, run_move rfl, rfl⟩
          · refine step_callO hs (wants_none rfl) rfl fun L u W hJ hG hL hdep K hK => ?_
            have a0 := (show IsFs rS (u 0) [s] from hG 0 (hdep 0 (by kernel_rfl)))
            have x0 := (show u 1 = .int .i64 (i : Int) from hG 1 (hdep 1 (by kernel_rfl)))
            go_simp
            go_at_call 66
            (with_reducible refine (cScBit (z := 0) (bit_0 (by have := HI.out; omega) HB.out) a0 _).mono ?_); rintro e w1 ⟨rfl, hb⟩
            have hk := hK.out _ _ rfl hb
            simp only [x0] at hk
            exact hk
          · refine step_pureO hs (wants_none rfl) rfl fun L u W hG hdep => ⟨_, ?_, rfl⟩
            have e0 := (show u 2 = .int .i64 0 from hG 2 (hdep 2 (by kernel_rfl)))
            go_simp
            try simp [bne]
        intro L8 u8n W8n hall hJ hG
        have hb := hJ.all rfl
        have hbel := Below.call hbel hb
        have hmP := hmP.later hb
        have hmS := hmS.later hb
        have hmD := hmD.later hb
        have hs7_4 := hs7_4.later hb
        have ht2' := there_later ht2' hb
        have ht3' := there_later ht3' hb
        have ht5' := there_later ht5' hb
        have hs7_4t := there_later hs7_4t hb
        have ht4' := there_later ht4' hb
        have HC24 := Lib.hid (show u8n 3 = .bool false from hG 3 (by simp))
        have hbel0 := hbel
        clear hJ hG hall hb
        have hx : u8n 3 = .bool false := HC24.out
        go_wp2_with fail
        rw [hx]
        clear hx
        go_wp2_with fail
        go_roundw
        case rel => exact ⟨i, by have := HI.out; omega, by go_num, hmP, hmS, hmD, (by rw [← mul_dig0 HB.out]; exact hs7_4), ht2', ht3', ht5', hs7_4t, ht4', hbel⟩
        case measure => simp [intOf]
    · obtain rfl : j = 0 := by omega
      have hz : (((0 : Nat) : Int) - 1) = -1 := by omega
      simp only [hz]
      clear hz h0 hj
      go_upto_region 10 with fail
      refine wp_region_turn (fun u => #[v0, v1, u0 0, u0 1, u0 2, u2 1, u3 2, .int .i64 (-1), u1 0, u1 1, u2 0, u3 0, u3 1, .int .i64 (-1), .bool false, u15, u16, u17, u18, u19, u20, u21, u22, u23, u24, u25, u26, u27, u28, u 0]) (Holds [.val rPr [Cp.mul (s.val / 2 ^ 0) P], .sto q4 rPr [Cp.mul (s.val / 2 ^ 0) P]] wr) (Keep [.val rPr [Cp.mul (s.val / 2 ^ 0) P], .sto q4 rPr [Cp.mul (s.val / 2 ^ 0) P]] wr) (fun _ => undef) ?_ (by rfl) Keep.start (holds_soft (by kernel_rfl)) ?_ ?_
      · intro u i v h
        rcases i with _ | _ | i
        all_goals first | (simp [Act.put, putV]; done) | (exfalso; simp at h; omega)
      · intro hs
        refine ⟨?_, ?_, trivial⟩
        · exact step_load q6 0 hs (wants_none rfl) rfl rfl tyPr (fun _ => E6.out) hmO.lt hmO (fun k g hk => by rcases k with _ | _ | k <;> first | (cases hk; done) | (cases hk; exact .inr HD6_q4.out))
        · refine step_storeO q4 20 hs (wants_none rfl) rfl rfl (by kernel_rfl) (fun k hk => ?_) (fun _ => E4.out) (there_lt ht4' (by omega)) ht4' (gives_op 0 rfl (by kernel_rfl) (fun _ => rfl)) tyPr rfl
          rcases k with _ | _ | k
          all_goals first | (exact absurd rfl hk) | (intro e; cases e; done)
      intro L10 u10 W10 hall hJ hG
      have hb : Below w.heap.size wr W10 := hJ.below (by have := hbel.size; omega) (fun k b hf => by rcases k with _ | _ | k <;> first | (cases hf; done) | (cases hf; omega))
      have hbel := hbel.trans hb
      have hmP := hmP.blk (hJ.block _ (hmP.lt) (fun k hk => by rcases k with _ | _ | k <;> first | (cases hk; done) | (cases hk; exact absurd rfl (Ne.symm HN2_4.out))))
      have hmS := hmS.blk (hJ.block _ (hmS.lt) (fun k hk => by rcases k with _ | _ | k <;> first | (cases hk; done) | (cases hk; exact absurd rfl (Ne.symm HN3_4.out))))
      have hmD := hmD.blk (hJ.block _ (hmD.lt) (fun k hk => by rcases k with _ | _ | k <;> first | (cases hk; done) | (cases hk; exact absurd rfl HD5_q4.out)))
      have hmO := hmO.blk (hJ.block _ (hmO.lt) (fun k hk => by rcases k with _ | _ | k <;> first | (cases hk; done) | (cases hk; exact absurd rfl HD6_q4.out)))
      have ht2' := there_blk ht2' (hJ.block _ (there_lt ht2' (by omega)) (fun k hk => by rcases k with _ | _ | k <;> first | (cases hk; done) | (cases hk; exact absurd rfl (Ne.symm HN2_4.out))))
      have ht3' := there_blk ht3' (hJ.block _ (there_lt ht3' (by omega)) (fun k hk => by rcases k with _ | _ | k <;> first | (cases hk; done) | (cases hk; exact absurd rfl (Ne.symm HN3_4.out))))
      have ht5' := there_blk ht5' (hJ.block _ (there_lt ht5' (by omega)) (fun k hk => by rcases k with _ | _ | k <;> first | (cases hk; done) | (cases hk; exact absurd rfl HD5_q4.out)))
      have ht6' := there_blk ht6' (hJ.block _ (there_lt ht6' (by omega)) (fun k hk => by rcases k with _ | _ | k <;> first | (cases hk; done) | (cases hk; exact absurd rfl HD6_q4.out)))
      obtain ⟨_, hs10_1t, hs10_1⟩ := (show _ ∧ W10.there q4 0 20 ∧ HasFs rPr W10 q4 0 [Cp.mul (s.val / 2 ^ 0) P] from hG 1 (by simp))
      have hbel0 := hbel
      clear hJ hG hall hb
      go_wp2
      exact ret_cell1 (R := rPr) Try.results17 (by exact E4.out) hs10_1 tyPr rfl (fun r hr => ⟨r, rfl, by rw [Nat.pow_zero, Nat.div_one] at hr; exact toP hr, hbel⟩)
theorem cLittle64 {n : Nat} (hn : n < 18446744073709551616) (w : World) :
    Calls Try.prog 74 #[.int .u64 n] w fun e w' => ∃ g m cap r, e = .returned (.slice (some ⟨g, 0, none⟩) m cap) ∧ w.heap.size ≤ g ∧ Blk w' g ((leB 8 n).map bV ++ r) 5 ∧ (leB 8 n).length = m ∧ m ≤ cap ∧ cap ≤ maxLen ∧ Below w.heap.size w w' :=
  (little_any hn w).mono fun _ _ ⟨he, hB, hb⟩ => ⟨w.heap.size, 8, 8, [], he, Nat.le_refl _, by rw [List.append_nil]; exact hB, leB_len _ _, Nat.le_refl _, by unfold maxLen; omega, hb⟩
def timesP (k : Int) (P : EP) : EP := if 0 ≤ k ∧ k ≤ 2147483648 then Cp.mul k.toNat P else Cp.zero
theorem wide_small {k : Nat} (h : k ≤ 2147483648) : wS (leB 8 k) = fn k := by
  unfold wS
  rw [leN_first]
  have e : leN ((leB 8 k).take 64) = k := by
    rw [List.take_of_length_le (by rw [leB_len]; omega), leN_leB]
    exact Nat.mod_eq_of_lt (by omega)
  rw [e, Nat.mod_eq_of_lt (by unfold Lq; omega)]
theorem fn_31 {k : Nat} (h : k ≤ 2147483648) : (fn k).val = k := Nat.mod_eq_of_lt (by unfold Pq; omega)
set_option maxRecDepth 100000 in
set_option maxHeartbeats 4000000 in
theorem times_lo {v0 : Value} {P : EP} (h0 : IsFs rP v0 [P]) {k : Int} (hk : k < 0) (w : World) :
    Calls Try.prog 29 #[v0, .int .i64 k] w fun e w' => ∃ r, e = .returned r ∧ IsFs rP r [Cp.zero] ∧ Below w.heap.size w w' := by
  have d1 : decide (k < 0) = true := decide_eq_true hk
  clear hk
  go_enter Try.func29, Try.ntmps29
  have hbel : Below w.heap.size w w := Below.refl _ _
  have hbel0 := hbel
  go_upto_region 0 with fail
  refine wp_region_turn (fun u => #[v0, .int .i64 k, u 0, undef, u 1, undef, undef, undef, undef, undef, undef, undef, undef, undef, undef, undef, undef, undef]) (Holds [.box rP [P], .new 20] w) (Keep [.box rP [P], .new 20] w) (fun _ => undef) ?_ (by rfl) Keep.start (holds_soft (by kernel_rfl)) ?_ ?_
  · intro u i v h
    rcases i with _ | _ | i
    all_goals first | (simp [Act.put, putV]; done) | (exfalso; simp at h; omega)
  · intro hs
    refine ⟨?_, ?_, trivial⟩
    · exact step_box hs (wants_none rfl) rfl rfl (gives_c h0 (fun _ => rfl))
    · exact step_alloc hs (wants_none rfl) rfl rfl (by omega) rfl allocP
  intro L0 u0 W0 hall hJ hG
  obtain ⟨q2, e2, ⟨hq2, _⟩, ht2, hm2⟩ := (show ∃ g, u0 0 = .pointer (some ⟨g, 0, none⟩) ∧ (w.heap.size ≤ g ∧ g < W0.heap.size) ∧ W0.there g 0 20 ∧ HasFs rP W0 g 0 [P] from hG 0 (by simp))
  have hq2 : w.heap.size ≤ q2 := by have := hbel0.size; omega
  have E2 := Lib.hid e2; clear e2
  obtain ⟨q4, e4, hq4, _, ht4⟩ := (show ∃ g, u0 1 = .pointer (some ⟨g, 0, none⟩) ∧ w.heap.size ≤ g ∧ 0 < 20 ∧ W0.there g 0 20 from hG 1 (by simp))
  have hq4 : w.heap.size ≤ q4 := by have := hbel0.size; omega
  have E4 := Lib.hid e4; clear e4
  have hb := hJ.all rfl
  have hbel := Below.call hbel hb
  have HN2_4 := Lib.hid (show q2 ≠ q4 from fun e => hJ.apart 0 1 _ (by omega) (hall _ (by simp)) (hall _ (by simp)) rfl rfl (E2.out.trans (by rw [e])) E4.out)
  have hbel0 := hbel
  clear hJ hG hall hb
  go_upto_region 1 with fail
  refine wp_region_turn (fun u => #[v0, .int .i64 k, u0 0, undef, u0 1, u 0, u 1, u 2, u 3, u 4, u 5, undef, undef, undef, undef, undef, undef, undef]) (Holds [.oth (fun v => v = .int .i64 k), .oth (fun v => v = .bool true), .oth (fun v => v = .bool true), .oth (fun v => v = undef), .oth (fun v => v = undef), .oth (fun v => v = .bool true)] W0) (Keep [.oth (fun v => v = .int .i64 k), .oth (fun v => v = .bool true), .oth (fun v => v = .bool true), .oth (fun v => v = undef), .oth (fun v => v = undef), .oth (fun v => v = .bool true)] W0) (fun _ => undef) ?_ (by rfl) Keep.start (holds_soft (by kernel_rfl)) ?_ ?_
  · intro u i v h
    rcases i with _ | _ | _ | _ | _ | _ | i
    all_goals first | (simp [Act.put, putV]; done) | (exfalso; simp at h; omega)
  · intro hs
    refine ⟨?_, ?_, ?_, ?_, ?_, ?_, trivial⟩
    · exact step_pureO hs (wants_none rfl) rfl fun L u W hG hdep => ⟨_, run_move rfl, rfl⟩
    · refine step_pureO hs (wants_none rfl) rfl fun L u W hG hdep => ⟨_, ?_, rfl⟩
      have e0 := (show u 0 = .int .i64 k from hG 0 (hdep 0 (by kernel_rfl)))
      go_simp
    · exact step_pureO hs (wants_none rfl) rfl fun L u W hG hdep => ⟨_, run_move rfl, (show u 1 = .bool true from hG 1 (hdep 1 (by kernel_rfl)))⟩
    · exact step_outU hs (wants_off 2 rfl rfl rfl (by kernel_rfl) (fun _ => rfl)) rfl
    · exact step_outU hs (wants_off 2 rfl rfl rfl (by kernel_rfl) (fun _ => rfl)) rfl
    · exact step_pick true hs (wants_none rfl) rfl rfl (fun L u W hG hdep => (show u 2 = .bool true from hG 2 (hdep 2 (by kernel_rfl)))) (fun L u W hG hdep => rfl)
  intro L1 u1 W1 hall hJ hG
  have hb := hJ.all rfl
  have hbel := Below.call hbel hb
  have hm2 := hm2.later hb
  have ht2 := there_later ht2 hb
  have ht4 := there_later ht4 hb
  have HC6 := Lib.hid (show u1 1 = .bool true from hG 1 (by simp))
  have HC7 := Lib.hid (show u1 2 = .bool true from hG 2 (by simp))
  have HC10 := Lib.hid (show u1 5 = .bool true from hG 5 (by simp))
  have hbel0 := hbel
  clear hJ hG hall hb
  have hx : u1 5 = .bool true := HC10.out
  go_wp2_with fail
  rw [hx]
  clear hx
  go_upto_region 2 with fail
  refine wp_region_turn (fun u => #[v0, .int .i64 k, u0 0, undef, u0 1, u1 0, u1 1, u1 2, u1 3, u1 4, .bool true, u 0, undef, undef, undef, undef, undef, undef]) (Holds [.val rP [Cp.zero], .sto q4 rP [Cp.zero]] W1) (Keep [.val rP [Cp.zero], .sto q4 rP [Cp.zero]] W1) (fun _ => undef) ?_ (by rfl) Keep.start (holds_soft (by kernel_rfl)) ?_ ?_
  · intro u i v h
    rcases i with _ | _ | i
    all_goals first | (simp [Act.put, putV]; done) | (exfalso; simp at h; omega)
  · intro hs
    refine ⟨?_, ?_, trivial⟩
    · exact step_pure hs (wants_none rfl) rfl fun L u W hG hdep => run_build0 rfl (build_P0 W)
    · refine step_storeO q4 20 hs (wants_none rfl) rfl rfl (by kernel_rfl) (fun k hk => ?_) (fun _ => E4.out) (there_lt ht4 (by omega)) ht4 (gives_op 0 rfl (by kernel_rfl) (fun _ => rfl)) tyP rfl
      rcases k with _ | _ | k
      all_goals first | (exact absurd rfl hk) | (intro e; cases e; done)
  intro L2 u2 W2 hall hJ hG
  have hb : Below w.heap.size W1 W2 := hJ.below (by have := hbel.size; omega) (fun k b hf => by rcases k with _ | _ | k <;> first | (cases hf; done) | (cases hf; omega))
  have hbel := hbel.trans hb
  have hm2 := hm2.blk (hJ.block _ (hm2.lt) (fun k hk => by rcases k with _ | _ | k <;> first | (cases hk; done) | (cases hk; exact absurd rfl (Ne.symm HN2_4.out))))
  have ht2 := there_blk ht2 (hJ.block _ (there_lt ht2 (by omega)) (fun k hk => by rcases k with _ | _ | k <;> first | (cases hk; done) | (cases hk; exact absurd rfl (Ne.symm HN2_4.out))))
  obtain ⟨_, hs2_1t, hs2_1⟩ := (show _ ∧ W2.there q4 0 20 ∧ HasFs rP W2 q4 0 [Cp.zero] from hG 1 (by simp))
  have hbel0 := hbel
  clear hJ hG hall hb
  go_wp2
  exact ret_cell1 (R := rP) Try.results29 (by exact E4.out) hs2_1 tyP rfl (fun r hr => ⟨r, rfl, hr, hbel⟩)
set_option maxRecDepth 100000 in
set_option maxHeartbeats 4000000 in
theorem times_hi {v0 : Value} {P : EP} (h0 : IsFs rP v0 [P]) {k : Int} (hk : 2147483648 < k) (w : World) :
    Calls Try.prog 29 #[v0, .int .i64 k] w fun e w' => ∃ r, e = .returned r ∧ IsFs rP r [Cp.zero] ∧ Below w.heap.size w w' := by
  have d1 : decide (k < 0) = false := decide_eq_false (by omega)
  have d2 : decide (2147483648 < k) = true := decide_eq_true hk
  clear hk
  go_enter Try.func29, Try.ntmps29
  have hbel : Below w.heap.size w w := Below.refl _ _
  have hbel0 := hbel
  go_upto_region 0 with fail
  refine wp_region_turn (fun u => #[v0, .int .i64 k, u 0, undef, u 1, undef, undef, undef, undef, undef, undef, undef, undef, undef, undef, undef, undef, undef]) (Holds [.box rP [P], .new 20] w) (Keep [.box rP [P], .new 20] w) (fun _ => undef) ?_ (by rfl) Keep.start (holds_soft (by kernel_rfl)) ?_ ?_
  · intro u i v h
    rcases i with _ | _ | i
    all_goals first | (simp [Act.put, putV]; done) | (exfalso; simp at h; omega)
  · intro hs
    refine ⟨?_, ?_, trivial⟩
    · exact step_box hs (wants_none rfl) rfl rfl (gives_c h0 (fun _ => rfl))
    · exact step_alloc hs (wants_none rfl) rfl rfl (by omega) rfl allocP
  intro L0 u0 W0 hall hJ hG
  obtain ⟨q2, e2, ⟨hq2, _⟩, ht2, hm2⟩ := (show ∃ g, u0 0 = .pointer (some ⟨g, 0, none⟩) ∧ (w.heap.size ≤ g ∧ g < W0.heap.size) ∧ W0.there g 0 20 ∧ HasFs rP W0 g 0 [P] from hG 0 (by simp))
  have hq2 : w.heap.size ≤ q2 := by have := hbel0.size; omega
  have E2 := Lib.hid e2; clear e2
  obtain ⟨q4, e4, hq4, _, ht4⟩ := (show ∃ g, u0 1 = .pointer (some ⟨g, 0, none⟩) ∧ w.heap.size ≤ g ∧ 0 < 20 ∧ W0.there g 0 20 from hG 1 (by simp))
  have hq4 : w.heap.size ≤ q4 := by have := hbel0.size; omega
  have E4 := Lib.hid e4; clear e4
  have hb := hJ.all rfl
  have hbel := Below.call hbel hb
  have HN2_4 := Lib.hid (show q2 ≠ q4 from fun e => hJ.apart 0 1 _ (by omega) (hall _ (by simp)) (hall _ (by simp)) rfl rfl (E2.out.trans (by rw [e])) E4.out)
  have hbel0 := hbel
  clear hJ hG hall hb
  go_upto_region 1 with fail
  refine wp_region_turn (fun u => #[v0, .int .i64 k, u0 0, undef, u0 1, u 0, u 1, u 2, u 3, u 4, u 5, undef, undef, undef, undef, undef, undef, undef]) (Holds [.oth (fun v => v = .int .i64 k), .oth (fun v => v = .bool false), .oth (fun v => v = .bool false), .oth (fun v => v = .int .i64 k), .oth (fun v => v = .bool true), .oth (fun v => v = .bool true)] W0) (Keep [.oth (fun v => v = .int .i64 k), .oth (fun v => v = .bool false), .oth (fun v => v = .bool false), .oth (fun v => v = .int .i64 k), .oth (fun v => v = .bool true), .oth (fun v => v = .bool true)] W0) (fun _ => undef) ?_ (by rfl) Keep.start (holds_soft (by kernel_rfl)) ?_ ?_
  · intro u i v h
    rcases i with _ | _ | _ | _ | _ | _ | i
    all_goals first | (simp [Act.put, putV]; done) | (exfalso; simp at h; omega)
  · intro hs
    refine ⟨?_, ?_, ?_, ?_, ?_, ?_, trivial⟩
    · exact step_pureO hs (wants_none rfl) rfl fun L u W hG hdep => ⟨_, run_move rfl, rfl⟩
    · refine step_pureO hs (wants_none rfl) rfl fun L u W hG hdep => ⟨_, ?_, rfl⟩
      have e0 := (show u 0 = .int .i64 k from hG 0 (hdep 0 (by kernel_rfl)))
      go_simp
    · exact step_pureO hs (wants_none rfl) rfl fun L u W hG hdep => ⟨_, run_move rfl, (show u 1 = .bool false from hG 1 (hdep 1 (by kernel_rfl)))⟩
    · exact step_pureO hs (wants_on 2 rfl rfl (by kernel_rfl) (fun _ => rfl)) rfl fun L u W hG hdep => ⟨_, run_move rfl, rfl⟩
    · refine step_pureO hs (wants_on 2 rfl rfl (by kernel_rfl) (fun _ => rfl)) rfl fun L u W hG hdep => ⟨_, ?_, rfl⟩
      have e0 := (show u 3 = .int .i64 k from hG 3 (hdep 3 (by kernel_rfl)))
      go_simp
    · exact step_pick false hs (wants_none rfl) rfl rfl (fun L u W hG hdep => (show u 2 = .bool false from hG 2 (hdep 2 (by kernel_rfl)))) (fun L u W hG hdep => (show u 4 = .bool true from hG 4 (hdep 4 (by kernel_rfl))))
  intro L1 u1 W1 hall hJ hG
  have hb := hJ.all rfl
  have hbel := Below.call hbel hb
  have hm2 := hm2.later hb
  have ht2 := there_later ht2 hb
  have ht4 := there_later ht4 hb
  have HC6 := Lib.hid (show u1 1 = .bool false from hG 1 (by simp))
  have HC7 := Lib.hid (show u1 2 = .bool false from hG 2 (by simp))
  have HC9 := Lib.hid (show u1 4 = .bool true from hG 4 (by simp))
  have HC10 := Lib.hid (show u1 5 = .bool true from hG 5 (by simp))
  have hbel0 := hbel
  clear hJ hG hall hb
  have hx : u1 5 = .bool true := HC10.out
  go_wp2_with fail
  rw [hx]
  clear hx
  go_upto_region 2 with fail
  refine wp_region_turn (fun u => #[v0, .int .i64 k, u0 0, undef, u0 1, u1 0, u1 1, u1 2, u1 3, u1 4, .bool true, u 0, undef, undef, undef, undef, undef, undef]) (Holds [.val rP [Cp.zero], .sto q4 rP [Cp.zero]] W1) (Keep [.val rP [Cp.zero], .sto q4 rP [Cp.zero]] W1) (fun _ => undef) ?_ (by rfl) Keep.start (holds_soft (by kernel_rfl)) ?_ ?_
  · intro u i v h
    rcases i with _ | _ | i
    all_goals first | (simp [Act.put, putV]; done) | (exfalso; simp at h; omega)
  · intro hs
    refine ⟨?_, ?_, trivial⟩
    · exact step_pure hs (wants_none rfl) rfl fun L u W hG hdep => run_build0 rfl (build_P0 W)
    · refine step_storeO q4 20 hs (wants_none rfl) rfl rfl (by kernel_rfl) (fun k hk => ?_) (fun _ => E4.out) (there_lt ht4 (by omega)) ht4 (gives_op 0 rfl (by kernel_rfl) (fun _ => rfl)) tyP rfl
      rcases k with _ | _ | k
      all_goals first | (exact absurd rfl hk) | (intro e; cases e; done)
  intro L2 u2 W2 hall hJ hG
  have hb : Below w.heap.size W1 W2 := hJ.below (by have := hbel.size; omega) (fun k b hf => by rcases k with _ | _ | k <;> first | (cases hf; done) | (cases hf; omega))
  have hbel := hbel.trans hb
  have hm2 := hm2.blk (hJ.block _ (hm2.lt) (fun k hk => by rcases k with _ | _ | k <;> first | (cases hk; done) | (cases hk; exact absurd rfl (Ne.symm HN2_4.out))))
  have ht2 := there_blk ht2 (hJ.block _ (there_lt ht2 (by omega)) (fun k hk => by rcases k with _ | _ | k <;> first | (cases hk; done) | (cases hk; exact absurd rfl (Ne.symm HN2_4.out))))
  obtain ⟨_, hs2_1t, hs2_1⟩ := (show _ ∧ W2.there q4 0 20 ∧ HasFs rP W2 q4 0 [Cp.zero] from hG 1 (by simp))
  have hbel0 := hbel
  clear hJ hG hall hb
  go_wp2
  exact ret_cell1 (R := rP) Try.results29 (by exact E4.out) hs2_1 tyP rfl (fun r hr => ⟨r, rfl, hr, hbel⟩)
set_option maxRecDepth 100000 in
set_option maxHeartbeats 4000000 in
theorem times_in {v0 : Value} {P : EP} (h0 : IsFs rP v0 [P]) {kn : Nat} (hk : kn ≤ 2147483648) (w : World) :
    Calls Try.prog 29 #[v0, .int .i64 (kn : Nat)] w fun e w' => ∃ r, e = .returned r ∧ IsFs rP r [Cp.mul kn P] ∧ Below w.heap.size w w' := by
  have d1 : decide ((kn : Int) < 0) = false := decide_eq_false (by omega)
  have d2 : decide (2147483648 < (kn : Int)) = false := decide_eq_false (by omega)
  have HK := Lib.hid hk
  have HC : Hid (IntKind.u64.wrap (kn : Int) = (kn : Nat)) := Lib.hid (by rw [wrapU]; omega)
  clear hk
  go_enter Try.func29, Try.ntmps29
  have hbel : Below w.heap.size w w := Below.refl _ _
  have hbel0 := hbel
  go_upto_region 0 with fail
  refine wp_region_turn (fun u => #[v0, .int .i64 (kn : Nat), u 0, undef, u 1, undef, undef, undef, undef, undef, undef, undef, undef, undef, undef, undef, undef, undef]) (Holds [.box rP [P], .new 20] w) (Keep [.box rP [P], .new 20] w) (fun _ => undef) ?_ (by rfl) Keep.start (holds_soft (by kernel_rfl)) ?_ ?_
  · intro u i v h
    rcases i with _ | _ | i
    all_goals first | (simp [Act.put, putV]; done) | (exfalso; simp at h; omega)
  · intro hs
    refine ⟨?_, ?_, trivial⟩
    · exact step_box hs (wants_none rfl) rfl rfl (gives_c h0 (fun _ => rfl))
    · exact step_alloc hs (wants_none rfl) rfl rfl (by omega) rfl allocP
  intro L0 u0 W0 hall hJ hG
  obtain ⟨q2, e2, ⟨hq2, _⟩, ht2, hm2⟩ := (show ∃ g, u0 0 = .pointer (some ⟨g, 0, none⟩) ∧ (w.heap.size ≤ g ∧ g < W0.heap.size) ∧ W0.there g 0 20 ∧ HasFs rP W0 g 0 [P] from hG 0 (by simp))
  have hq2 : w.heap.size ≤ q2 := by have := hbel0.size; omega
  have E2 := Lib.hid e2; clear e2
  obtain ⟨q4, e4, hq4, _, ht4⟩ := (show ∃ g, u0 1 = .pointer (some ⟨g, 0, none⟩) ∧ w.heap.size ≤ g ∧ 0 < 20 ∧ W0.there g 0 20 from hG 1 (by simp))
  have hq4 : w.heap.size ≤ q4 := by have := hbel0.size; omega
  have E4 := Lib.hid e4; clear e4
  have hb := hJ.all rfl
  have hbel := Below.call hbel hb
  have HN2_4 := Lib.hid (show q2 ≠ q4 from fun e => hJ.apart 0 1 _ (by omega) (hall _ (by simp)) (hall _ (by simp)) rfl rfl (E2.out.trans (by rw [e])) E4.out)
  have hbel0 := hbel
  clear hJ hG hall hb
  go_upto_region 1 with fail
  refine wp_region_turn (fun u => #[v0, .int .i64 (kn : Nat), u0 0, undef, u0 1, u 0, u 1, u 2, u 3, u 4, u 5, undef, undef, undef, undef, undef, undef, undef]) (Holds [.oth (fun v => v = .int .i64 (kn : Nat)), .oth (fun v => v = .bool false), .oth (fun v => v = .bool false), .oth (fun v => v = .int .i64 (kn : Nat)), .oth (fun v => v = .bool false), .oth (fun v => v = .bool false)] W0) (Keep [.oth (fun v => v = .int .i64 (kn : Nat)), .oth (fun v => v = .bool false), .oth (fun v => v = .bool false), .oth (fun v => v = .int .i64 (kn : Nat)), .oth (fun v => v = .bool false), .oth (fun v => v = .bool false)] W0) (fun _ => undef) ?_ (by rfl) Keep.start (holds_soft (by kernel_rfl)) ?_ ?_
  · intro u i v h
    rcases i with _ | _ | _ | _ | _ | _ | i
    all_goals first | (simp [Act.put, putV]; done) | (exfalso; simp at h; omega)
  · intro hs
    refine ⟨?_, ?_, ?_, ?_, ?_, ?_, trivial⟩
    · exact step_pureO hs (wants_none rfl) rfl fun L u W hG hdep => ⟨_, run_move rfl, rfl⟩
    · refine step_pureO hs (wants_none rfl) rfl fun L u W hG hdep => ⟨_, ?_, rfl⟩
      have e0 := (show u 0 = .int .i64 (kn : Nat) from hG 0 (hdep 0 (by kernel_rfl)))
      go_simp
    · exact step_pureO hs (wants_none rfl) rfl fun L u W hG hdep => ⟨_, run_move rfl, (show u 1 = .bool false from hG 1 (hdep 1 (by kernel_rfl)))⟩
    · exact step_pureO hs (wants_on 2 rfl rfl (by kernel_rfl) (fun _ => rfl)) rfl fun L u W hG hdep => ⟨_, run_move rfl, rfl⟩
    · refine step_pureO hs (wants_on 2 rfl rfl (by kernel_rfl) (fun _ => rfl)) rfl fun L u W hG hdep => ⟨_, ?_, rfl⟩
      have e0 := (show u 3 = .int .i64 (kn : Nat) from hG 3 (hdep 3 (by kernel_rfl)))
      go_simp
    · exact step_pick false hs (wants_none rfl) rfl rfl (fun L u W hG hdep => (show u 2 = .bool false from hG 2 (hdep 2 (by kernel_rfl)))) (fun L u W hG hdep => (show u 4 = .bool false from hG 4 (hdep 4 (by kernel_rfl))))
  intro L1 u1 W1 hall hJ hG
  have hb := hJ.all rfl
  have hbel := Below.call hbel hb
  have hm2 := hm2.later hb
  have ht2 := there_later ht2 hb
  have ht4 := there_later ht4 hb
  have HC6 := Lib.hid (show u1 1 = .bool false from hG 1 (by simp))
  have HC7 := Lib.hid (show u1 2 = .bool false from hG 2 (by simp))
  have HC9 := Lib.hid (show u1 4 = .bool false from hG 4 (by simp))
  have HC10 := Lib.hid (show u1 5 = .bool false from hG 5 (by simp))
  have hbel0 := hbel
  clear hJ hG hall hb
  have hx : u1 5 = .bool false := HC10.out
  go_wp2_with fail
  rw [hx]
  clear hx
  go_upto_region 3 with fail
  refine wp_region_mid (fun u => #[v0, .int .i64 (kn : Nat), u0 0, undef, u0 1, u1 0, u1 1, u1 2, u1 3, u1 4, .bool false, undef, u 0, u 1, u 2, u 3, u 4, u 5]) (Holds [.val rP [P], .oth (fun v => v = .int .i64 (kn : Nat)), .oth (fun v => v = .int .u64 (kn : Nat)), .rd (leB 8 kn), .val rS [fn kn], .val rP [Cp.mul kn P], .sto q4 rP [Cp.mul kn P]] W1) (Keep [.val rP [P], .oth (fun v => v = .int .i64 (kn : Nat)), .oth (fun v => v = .int .u64 (kn : Nat)), .rd (leB 8 kn), .val rS [fn kn], .val rP [Cp.mul kn P], .sto q4 rP [Cp.mul kn P]] W1) (fun _ => undef) (by kernel_rfl) (by kernel_rfl) ?_ (by rfl) Keep.drew (holds_soft (by kernel_rfl)) ?_ ?_
  · intro u i v h
    rcases i with _ | _ | _ | _ | _ | _ | _ | i
    all_goals first | (simp [Act.put, putV]; done) | (exfalso; simp at h; omega)
  · intro hs
    refine ⟨?_, ?_, ?_, ?_, ?_, ?_, ?_, trivial⟩
    · exact step_load q2 0 hs (wants_none rfl) rfl rfl tyP (fun _ => E2.out) hm2.lt hm2 (fun k g hk => by rcases k with _ | _ | _ | _ | _ | _ | _ | k <;> first | (cases hk; done) | (cases hk; exact .inr (Ne.symm HN2_4.out)))
    · exact step_pureO hs (wants_none rfl) rfl fun L u W hG hdep => ⟨_, run_move rfl, rfl⟩
    · refine step_pureO hs (wants_none rfl) rfl fun L u W hG hdep => ⟨_, ?_, rfl⟩
      have e0 := (show u 1 = .int .i64 (kn : Nat) from hG 1 (hdep 1 (by kernel_rfl)))
      go_simp
      exact HC.out
    · refine step_callB hs (wants_none rfl) rfl fun L u W hJ hG hL hdep K hK => ?_
      have x0 := (show u 2 = .int .u64 (kn : Nat) from hG 2 (hdep 2 (by kernel_rfl)))
      go_simp
      go_at_call 74
      (with_reducible refine (cLittle64 (n := kn) (by first | (have := HK.out; omega) | omega) _).mono ?_); rintro e w1 ⟨g, n, cap, r, rfl, h1, h2, h3, h4, h5, hb⟩
      have hk := hK.out _ _ _ _ _ h1 h2 h3 h4 h5 hb
      simp only [x0] at hk
      exact hk
    · refine step_call hs (wants_none rfl) rfl fun L u W hJ hG hL hdep K hK => ?_
      obtain ⟨gR0, nR0, cR0, rR0, x0, _, hR0, hRn0, hRc0, hRm0⟩ := (show ∃ g n cap r, u 3 = .slice (some ⟨g, 0, none⟩) n cap ∧ W1.heap.size ≤ g ∧ Blk W g ((leB 8 kn).map bV ++ r) 5 ∧ (leB 8 kn).length = n ∧ n ≤ cap ∧ cap ≤ maxLen from hG 3 (hdep 3 (by kernel_rfl)))
      have hB0 := RdB.blk rR0 hR0 hRn0 hRc0 hRm0
      go_simp
      go_at_call 18
      (with_reducible refine (cWide (wide_small HK.out) hB0).mono ?_); rintro e w1 ⟨r, rfl, hr, hb⟩
      have hk := hK.out _ _ hr hb
      simp only [x0] at hk
      exact hk
    · refine step_call hs (wants_none rfl) rfl fun L u W hJ hG hL hdep K hK => ?_
      have a0 := (show IsFs rP (u 0) [P] from hG 0 (hdep 0 (by kernel_rfl)))
      have a1 := (show IsFs rS (u 4) [fn kn] from hG 4 (hdep 4 (by kernel_rfl)))
      go_simp
      go_at_call 17
      (with_reducible refine (cMult (by rw [fn_31 HK.out]) a0 a1 _).mono ?_); rintro e w1 ⟨r, rfl, hr, hb⟩
      have hk := hK.out _ _ hr hb
      exact hk
    · refine step_storeO q4 20 hs (wants_none rfl) rfl rfl (by kernel_rfl) (fun k hk => ?_) (fun _ => E4.out) (there_lt ht4 (by omega)) ht4 (gives_op 5 rfl (by kernel_rfl) (fun _ => rfl)) tyP rfl
      rcases k with _ | _ | _ | _ | _ | _ | _ | k
      all_goals first | (exact absurd rfl hk) | (intro e; cases e; done)
  intro L3 u3 W3 hall hJ hG
  have hb : Below w.heap.size W1 W3 := hJ.below (by have := hbel.size; omega) (fun k b hf => by rcases k with _ | _ | _ | _ | _ | _ | _ | k <;> first | (cases hf; done) | (cases hf; omega))
  have hbel := hbel.trans hb
  have hm2 := hm2.blk (hJ.block _ (hm2.lt) (fun k hk => by rcases k with _ | _ | _ | _ | _ | _ | _ | k <;> first | (cases hk; done) | (cases hk; exact absurd rfl (Ne.symm HN2_4.out))))
  have ht2 := there_blk ht2 (hJ.block _ (there_lt ht2 (by omega)) (fun k hk => by rcases k with _ | _ | _ | _ | _ | _ | _ | k <;> first | (cases hk; done) | (cases hk; exact absurd rfl (Ne.symm HN2_4.out))))
  obtain ⟨_, hs3_6t, hs3_6⟩ := (show _ ∧ W3.there q4 0 20 ∧ HasFs rP W3 q4 0 [Cp.mul kn P] from hG 6 (by simp))
  have hbel0 := hbel
  clear hJ hG hall hb
  go_wp2
  exact ret_cell1 (R := rP) Try.results29 (by exact E4.out) hs3_6 tyP rfl (fun r hr => ⟨r, rfl, hr, hbel⟩)
theorem cTimes {v0 : Value} {P Q : EP} {k : Int} (hq : timesP k P = Q) (h0 : IsFs rP v0 [P]) (w : World) :
    Calls Try.prog 29 #[v0, .int .i64 k] w fun e w' => ∃ r, e = .returned r ∧ IsFs rP r [Q] ∧ Below w.heap.size w w' := by
  subst hq
  unfold timesP
  by_cases h1 : k < 0
  · rw [if_neg (by omega)]; exact times_lo h0 h1 w
  · by_cases h2 : 2147483648 < k
    · rw [if_neg (by omega)]; exact times_hi h0 h2 w
    · rw [if_pos (by omega)]
      obtain ⟨n, rfl⟩ : ∃ n : Nat, k = n := ⟨k.toNat, by omega⟩
      exact times_in h0 (by omega) w
set_option maxRecDepth 100000 in
set_option maxHeartbeats 4000000 in
theorem cPSmall {v0 : Value} {P : EP} {b : Bool} (hq : decide (Cp.mul 8 P = Cp.zero) = b) (h0 : IsFs rP v0 [P]) (w : World) :
    Calls Try.prog 14 #[v0] w fun e w' => e = .returned (.bool b) ∧ Below w.heap.size w w' := by
  have HQ := Lib.hid hq; clear hq
  go_enter Try.func14, Try.ntmps14
  have hbel : Below w.heap.size w w := Below.refl _ _
  have hbel0 := hbel
  go_upto_region 0 with fail
  refine wp_region_turn (fun u => #[v0, u 0, u 1, undef, undef, undef, undef]) (Holds [.box rP [P], .oth (fun v => v = .bool false)] w) (Keep [.box rP [P], .oth (fun v => v = .bool false)] w) (fun _ => undef) ?_ (by rfl) Keep.start (holds_soft (by kernel_rfl)) ?_ ?_
  · intro u i v h
    rcases i with _ | _ | i
    all_goals first | (simp [Act.put, putV]; done) | (exfalso; simp at h; omega)
  · intro hs
    refine ⟨?_, ?_, trivial⟩
    · exact step_box hs (wants_none rfl) rfl rfl (gives_c h0 (fun _ => rfl))
    · exact step_pureO hs (wants_none rfl) rfl fun L u W hG hdep => ⟨_, run_assign rfl, rfl⟩
  intro L0 u0 W0 hall hJ hG
  obtain ⟨q1, e1, ⟨hq1, _⟩, ht1, hm1⟩ := (show ∃ g, u0 0 = .pointer (some ⟨g, 0, none⟩) ∧ (w.heap.size ≤ g ∧ g < W0.heap.size) ∧ W0.there g 0 20 ∧ HasFs rP W0 g 0 [P] from hG 0 (by simp))
  have hq1 : w.heap.size ≤ q1 := by have := hbel0.size; omega
  have E1 := Lib.hid e1; clear e1
  have hb := hJ.all rfl
  have hbel := Below.call hbel hb
  have HC2 := Lib.hid (show u0 1 = .bool false from hG 1 (by simp))
  have hbel0 := hbel
  clear hJ hG hall hb
  go_upto_region 1 with fail
  refine wp_region_turn (fun u => #[v0, u0 0, u 4, u 0, u 1, u 2, u 3]) (Holds [.val rP [P], .val rP [Cp.mul 8 P], .val rP [Cp.zero], .oth (fun v => v = .bool b), .oth (fun v => v = .bool b)] W0) (Keep [.val rP [P], .val rP [Cp.mul 8 P], .val rP [Cp.zero], .oth (fun v => v = .bool b), .oth (fun v => v = .bool b)] W0) (fun k => ((undef :: undef :: undef :: undef :: u0 1 :: []) : List Value).getD k undef) ?_ (by rfl) Keep.start (holds_soft (by kernel_rfl)) ?_ ?_
  · intro u i v h
    rcases i with _ | _ | _ | _ | _ | i
    all_goals first | (simp [Act.put, putV]; done) | (exfalso; simp at h; omega)
  · intro hs
    refine ⟨?_, ?_, ?_, ?_, ?_, trivial⟩
    · exact step_load q1 0 hs (wants_none rfl) rfl rfl tyP (fun _ => E1.out) hm1.lt hm1 (noSto_apart (by kernel_rfl))
    · refine step_call hs (wants_none rfl) rfl fun L u W hJ hG hL hdep K hK => ?_
      have a0 := (show IsFs rP (u 0) [P] from hG 0 (hdep 0 (by kernel_rfl)))
      go_simp
      go_at_call 29
      (with_reducible refine (cTimes rfl a0 _).mono ?_); rintro e w1 ⟨r, rfl, hr, hb⟩
      have hk := hK.out _ _ hr hb
      exact hk
    · exact step_pure hs (wants_none rfl) rfl fun L u W hG hdep => run_build0 rfl (build_P0 W)
    · refine step_callO hs (wants_none rfl) rfl fun L u W hJ hG hL hdep K hK => ?_
      have a0 := (show IsFs rP (u 1) [Cp.mul 8 P] from hG 1 (hdep 1 (by kernel_rfl)))
      have a1 := (show IsFs rP (u 2) [Cp.zero] from hG 2 (hdep 2 (by kernel_rfl)))
      go_simp
      go_at_call 19
      (with_reducible refine (cPSame (b := b) (HQ.out) a0 a1 _).mono ?_); rintro e w1 ⟨rfl, hb⟩
      have hk := hK.out _ _ rfl hb
      exact hk
    · exact step_pureO hs (wants_none rfl) rfl fun L u W hG hdep => ⟨_, run_assign rfl, (show u 3 = .bool b from hG 3 (hdep 3 (by kernel_rfl)))⟩
  intro L1 u1 W1 hall hJ hG
  have hb := hJ.all rfl
  have hbel := Below.call hbel hb
  have hm1 := hm1.later hb
  have ht1 := there_later ht1 hb
  have HC6 := Lib.hid (show u1 3 = .bool b from hG 3 (by simp))
  have HC2 := Lib.hid (show u1 4 = .bool b from hG 4 (by simp))
  have hbel0 := hbel
  clear hJ hG hall hb
  rw [HC2.out]
  go_wp2
  go_ret
  exact ⟨rfl, hbel⟩
end Go.Proofs.Ytjchdhpijopikaa
namespace Go.Proofs.Ytjchdhpijopikaa
open Go Go.RowKit
theorem hi_bit {x : Nat} (hx : x < Pq) : (leB 32 x).set 31 ((leB 32 x).getD 31 0 ||| 128) = leB 32 (x + 57896044618658097711785492504343953926634992332820282019728792003956564819968) := by
  have h31 : (leB 32 x).getD 31 0 = UInt8.ofNat (x / 2 ^ 248) := by
    simp [leB]
  have hd : x / 2 ^ 248 < 128 := by unfold Pq at hx; simp only [Nat.reducePow]; omega
  apply List.ext_getElem
  · simp [leB_len]
  · intro i h1 h2
    have hi : i < 32 := by simpa [leB_len] using h2
    rw [leB_get, List.getElem_set]
    by_cases h : 31 = i
    · subst h
      rw [if_pos rfl, h31]
      apply UInt8.toNat_inj.1
      have e1 : (x + 57896044618658097711785492504343953926634992332820282019728792003956564819968) / 2 ^ (8 * 31) = x / 2 ^ 248 + 128 := by simp only [Nat.reduceMul, Nat.reducePow]; omega
      rw [e1]
      generalize x / 2 ^ 248 = y at *
      have h4 := Nat.shiftLeft_add_eq_or_of_lt (show y < 2 ^ 7 by omega) 1
      rw [show (1 : Nat) <<< 7 = 128 from rfl] at h4
      simp
      rw [Nat.mod_eq_of_lt (show y < 256 by omega), Nat.mod_eq_of_lt (show y + 128 < 256 by omega), Nat.or_comm]
      omega
    · rw [if_neg h, leB_get, ← ofNat_mod, ← ofNat_mod (_ / _)]
      congr 1
      have hi' : i < 31 := by omega
      have : i = 0 ∨ i = 1 ∨ i = 2 ∨ i = 3 ∨ i = 4 ∨ i = 5 ∨ i = 6 ∨ i = 7 ∨ i = 8 ∨ i = 9 ∨ i = 10 ∨ i = 11 ∨ i = 12 ∨ i = 13 ∨ i = 14 ∨ i = 15 ∨ i = 16 ∨ i = 17 ∨ i = 18 ∨ i = 19 ∨ i = 20 ∨ i = 21 ∨ i = 22 ∨ i = 23 ∨ i = 24 ∨ i = 25 ∨ i = 26 ∨ i = 27 ∨ i = 28 ∨ i = 29 ∨ i = 30 := by omega
      rcases this with rfl | rfl | rfl | rfl | rfl | rfl | rfl | rfl | rfl | rfl | rfl | rfl | rfl | rfl | rfl | rfl | rfl | rfl | rfl | rfl | rfl | rfl | rfl | rfl | rfl | rfl | rfl | rfl | rfl | rfl | rfl <;> simp only [Nat.reduceMul, Nat.reducePow] <;> omega
theorem T255 : 2 ^ 255 = 57896044618658097711785492504343953926634992332820282019728792003956564819968 := by decide +kernel
theorem enc_odd {P : EP} (h : P.x.val % 2 = 1) : (leB 32 P.y.val).set 31 ((leB 32 P.y.val).getD 31 0 ||| 128) = encP P := by
  rw [hi_bit P.y.isLt]
  unfold encP
  rw [h, Nat.mul_one, T255]
theorem enc_even {P : EP} (h : ¬ P.x.val % 2 = 1) : leB 32 P.y.val = encP P := by
  unfold encP
  rw [show P.x.val % 2 = 0 by omega, Nat.mul_zero, Nat.add_zero]
theorem clr_byte : ∀ c : Nat, c < 256 → (UInt8.ofNat c &&& 127).toNat = c % 128 := by decide +kernel
theorem clr_byte2 : ∀ c : Nat, c < 256 → bits BinOp.andNot IntKind.u8 (c : Int) 128 = ((UInt8.ofNat c &&& 127).toNat : Nat) := by decide +kernel
theorem clr_byte3 : ∀ c : Nat, c < 256 → bits BinOp.and IntKind.u8 (c : Int) 127 = ((UInt8.ofNat c &&& 127).toNat : Nat) := by decide +kernel
theorem odd_byte : ∀ c : Nat, c < 256 → (bits BinOp.and IntKind.u8 (c : Int) 128 != 0) = (c / 128 % 2 == 1) := by decide +kernel
theorem odd_byte2 : ∀ c : Nat, c < 256 → ((c : Int) / 128 == 1) = (c / 128 % 2 == 1) := by decide +kernel
/-- The bytes with the highest bit cleared. -/
def clr (b : List UInt8) : List UInt8 := b.set 31 (b.getD 31 0 &&& 127)
theorem clr_len (b : List UInt8) : (clr b).length = b.length := by simp [clr]
theorem leN_last {b : List UInt8} (h : b.length = 32) : leN b = leN (b.take 31) + 256 ^ 31 * (b.getD 31 0).toNat := by
  have e := leN_take b 31 (by omega)
  rw [List.take_of_length_le (by omega)] at e
  rw [e, Nat.mul_comm]
  congr 3
  rw [List.getD_eq_getElem?_getD, List.getElem?_eq_getElem (by omega)]
  rfl
theorem p31 : (256 : Nat) ^ 31 * 128 = 2 ^ 255 := by decide +kernel
theorem leN_clr {b : List UInt8} (h : b.length = 32) : leN (clr b) = lowN b := by
  have e := leN_last h
  have e2 := leN_last (b := clr b) (by rw [clr_len, h])
  have e3 : (clr b).take 31 = b.take 31 := by unfold clr; rw [List.take_set_of_le (by omega)]
  have e4 : (clr b).getD 31 0 = b.getD 31 0 &&& 127 := by unfold clr; rw [List.getD_eq_getElem?_getD, List.getElem?_set_self (by omega)]; rfl
  rw [e3, e4] at e2
  have h5 := clr_byte (b.getD 31 0).toNat (b.getD 31 0).toNat_lt
  rw [UInt8.ofNat_toNat] at h5
  rw [h5] at e2
  have h6 := leN_take_lt b 31
  unfold lowN
  rw [e2, e, ← p31]
  generalize (b.getD 31 0).toNat = c at *
  generalize leN (b.take 31) = r at *
  generalize 256 ^ 31 = T at *
  clear e e2 e3 e4 h5
  have hc := Nat.div_add_mod c 128
  have hm : c % 128 < 128 := Nat.mod_lt _ (by omega)
  generalize c / 128 = q at *
  generalize c % 128 = m at *
  subst hc
  have : r + T * (128 * q + m) = (r + T * m) + T * 128 * q := by rw [Nat.mul_add, Nat.mul_assoc]; omega
  rw [this, Nat.add_mul_mod_self_left, Nat.mod_eq_of_lt]
  have : T * m ≤ T * 127 := Nat.mul_le_mul_left _ (by omega)
  omega
theorem sgn_byte {b : List UInt8} (h : b.length = 32) : sgn b = ((b.getD 31 0).toNat / 128 % 2 == 1) := by
  have e := leN_last h
  have h6 := leN_take_lt b 31
  unfold sgn
  rw [e, ← p31, ← Nat.div_div_eq_div_mul]
  generalize leN (b.take 31) = r at *
  generalize (b.getD 31 0).toNat = c at *
  have : (r + 256 ^ 31 * c) / 256 ^ 31 = c := by rw [Nat.add_mul_div_left _ _ (Nat.pos_of_ne_zero (by decide +kernel)), Nat.div_eq_of_lt h6, Nat.zero_add]
  rw [this]
def decV (l : List UInt8) : EP := (decP l).getD Cp.zero
def decC (l : List UInt8) : Int := if (decP l).isSome then 0 else 12
theorem feOk_clr {b : List UInt8} (h : b.length = 32) : feOk (clr b) = decide (lowN b < Pq) := by
  unfold feOk
  rw [clr_len, h, leN_clr h]; simp
theorem stC_clr {b : List UInt8} (h : b.length = 32) (h2 : lowN b < Pq) : stC (clr b) = 0 := by unfold stC; rw [feOk_clr h, if_pos (by simpa using h2)]
theorem stC_no {b : List UInt8} (h : b.length = 32) (h2 : ¬ lowN b < Pq) : stC (clr b) = 2 := by unfold stC; rw [feOk_clr h, if_neg (by simpa using h2)]
theorem stV_clr {b : List UInt8} (h : b.length = 32) (h2 : lowN b < Pq) : stV (clr b) = fn (lowN b) := by
  have hok : feOk (clr b) = true := by rw [feOk_clr h]; simpa using h2
  unfold stV
  rw [if_pos hok]
  apply F.ext'
  rw [feF_ok hok, leN_clr h]
  exact (Nat.mod_eq_of_lt h2).symm
theorem dec_len {b : List UInt8} (h : b.length ≠ 32) : decV b = Cp.zero ∧ decC b = 12 := by
  have : decP b = none := by unfold decP; rw [if_neg (fun k => h k.1)]
  unfold decV decC; rw [this]; exact ⟨rfl, rfl⟩
theorem dec_big {b : List UInt8} (h : ¬ lowN b < Pq) : decV b = Cp.zero ∧ decC b = 12 := by
  have : decP b = none := by unfold decP; rw [if_neg (fun k => h k.2)]
  unfold decV decC; rw [this]; exact ⟨rfl, rfl⟩
theorem dec_root {b : List UInt8} {y : F} (h1 : b.length = 32) (h2 : lowN b < Pq) (hy : fn (lowN b) = y) (hr : ¬ rootC (xx y) = 0) : decV b = Cp.zero ∧ decC b = 12 := by
  subst hy
  have : decP b = none := by unfold decP; rw [if_pos ⟨h1, h2⟩, dif_neg hr]
  unfold decV decC; rw [this]; exact ⟨rfl, rfl⟩
theorem dec_sgn {b : List UInt8} {y : F} (h1 : b.length = 32) (h2 : lowN b < Pq) (hy : fn (lowN b) = y) (hr : rootC (xx y) = 0) (hs : sgn b = true) (hx : rootV (xx y) = 0) : decV b = Cp.zero ∧ decC b = 12 := by
  subst hy
  have : decP b = none := by unfold decP; rw [if_pos ⟨h1, h2⟩, dif_pos hr, if_pos ⟨hs, hx⟩]
  unfold decV decC; rw [this]; exact ⟨rfl, rfl⟩
theorem dec_yes {b : List UInt8} {y : F} {o : Bool} (h1 : b.length = 32) (h2 : lowN b < Pq) (hy : fn (lowN b) = y) (hr : rootC (xx y) = 0) (hs : sgn b = o) (hx : ¬ (o = true ∧ rootV (xx y) = 0)) :
    decC b = 0 ∧ (decV b).x = (if o then -rootV (xx y) else rootV (xx y)) ∧ (decV b).y = y := by
  have := decP_some h1 h2 hy hs hr hx
  unfold decV decC
  rw [this]
  exact ⟨rfl, rfl, rfl⟩
end Go.Proofs.Ytjchdhpijopikaa
namespace Go.Proofs.Ytjchdhpijopikaa
open Go Go.RowKit
theorem Prep.xv {P : EP} {X Y Z : F} (h : Prep P X Y Z) : X * finv Z = P.x := by
  obtain ⟨hz, rfl, rfl⟩ := h
  have := finv_mul hz
  generalize finv Z = u at *
  generalize P.x = x
  clear hz
  grind
theorem Prep.yv {P : EP} {X Y Z : F} (h : Prep P X Y Z) : Y * finv Z = P.y := by
  obtain ⟨hz, rfl, rfl⟩ := h
  have := finv_mul hz
  generalize finv Z = u at *
  generalize P.y = x
  clear hz
  grind
theorem set31 {LB : List UInt8} {r : List Value} {d : UInt8} (h : LB.length = 32) : (LB.map bV ++ r).set 31 (bV d) = (LB.set 31 d).map bV ++ r := by
  rw [List.set_append_left _ _ (by simp [h]), List.map_set]
theorem at31 {W : World} {g E : Nat} {LB : List UInt8} {r : List Value} (h : LB.length = 32) (hB : Blk W g (LB.map bV ++ r) E) : W.cell? ⟨g, 31, none⟩ = some (.int .u8 ((LB.getD 31 0).toNat : Int)) := by
  rw [hB.cell, List.getElem?_append_left (by simp [h]), List.getElem?_map, List.getElem?_eq_getElem (by omega), List.getD_eq_getElem?_getD, List.getElem?_eq_getElem (by omega)]
  rfl
theorem or128 (c d : UInt8) (h : c ||| 128 = d) : bits BinOp.or IntKind.u8 (c.toNat : Int) 128 = (d.toNat : Int) := by
  rw [← h, show (128 : Int) = ((128 : UInt8).toNat : Int) from rfl, u8_or_nat _ _ c.toNat_lt (by decide)]; simp
set_option maxRecDepth 100000 in
set_option maxHeartbeats 4000000 in
theorem enc_o {v0 : Value} {P : EP} (hp : P.x.val % 2 = 1) (h0 : IsFs rP v0 [P]) (w : World) :
    Calls Try.prog 13 #[v0] w fun e w' => ∃ g n cap r, e = .returned (.slice (some ⟨g, 0, none⟩) n cap) ∧ w.heap.size ≤ g ∧ Blk w' g ((encP P).map bV ++ r) 5 ∧ (encP P).length = n ∧ n ≤ cap ∧ cap ≤ maxLen ∧ Below w.heap.size w w' := by
  have HP := Lib.hid hp; clear hp
  go_enter Try.func13, Try.ntmps13
  have hbel : Below w.heap.size w w := Below.refl _ _
  have hbel0 := hbel
  go_upto_region 0 with fail
  refine wp_region_turn (fun u => #[v0, u 0, u 1, undef, undef, undef, undef, undef, undef, undef, undef, undef, undef, undef, undef, undef, undef, undef, undef, undef, undef, undef, undef, undef, undef, undef]) (Holds [.box rP [P], .oth (fun v => v = .slice none 0 0)] w) (Keep [.box rP [P], .oth (fun v => v = .slice none 0 0)] w) (fun _ => undef) ?_ (by rfl) Keep.start (holds_soft (by kernel_rfl)) ?_ ?_
  · intro u i v h
    rcases i with _ | _ | i
    all_goals first | (simp [Act.put, putV]; done) | (exfalso; simp at h; omega)
  · intro hs
    refine ⟨?_, ?_, trivial⟩
    · exact step_box hs (wants_none rfl) rfl rfl (gives_c h0 (fun _ => rfl))
    · exact step_pureO hs (wants_none rfl) rfl fun L u W hG hdep => ⟨_, run_assign rfl, rfl⟩
  intro L0 u0 W0 hall hJ hG
  obtain ⟨q1, e1, ⟨hq1, _⟩, ht1, hm1⟩ := (show ∃ g, u0 0 = .pointer (some ⟨g, 0, none⟩) ∧ (w.heap.size ≤ g ∧ g < W0.heap.size) ∧ W0.there g 0 20 ∧ HasFs rP W0 g 0 [P] from hG 0 (by simp))
  have hq1 : w.heap.size ≤ q1 := by have := hbel0.size; omega
  have E1 := Lib.hid e1; clear e1
  have hb := hJ.all rfl
  have hbel := Below.call hbel hb
  have HC2 := Lib.hid (show u0 1 = .slice none 0 0 from hG 1 (by simp))
  have hbel0 := hbel
  clear hJ hG hall hb
  go_upto_region 1 with fail
  refine wp_region_turn (fun u => #[v0, u0 0, u0 1, undef, undef, u 0, u 1, undef, undef, undef, undef, undef, undef, undef, undef, undef, undef, undef, undef, undef, undef, undef, undef, undef, undef, undef]) (Holds [.val rP [P], .val rPr [P], .sto q1 rPr [P]] W0) (Keep [.val rP [P], .val rPr [P], .sto q1 rPr [P]] W0) (fun _ => undef) ?_ (by rfl) Keep.start (holds_soft (by kernel_rfl)) ?_ ?_
  · intro u i v h
    rcases i with _ | _ | _ | i
    all_goals first | (simp [Act.put, putV]; done) | (exfalso; simp at h; omega)
  · intro hs
    refine ⟨?_, ?_, ?_, trivial⟩
    · exact step_load q1 0 hs (wants_none rfl) rfl rfl tyP (fun _ => E1.out) hm1.lt hm1 (fun k g hk => by rcases k with _ | _ | _ | k <;> first | (cases hk; done) | (cases hk; exact .inl (by kernel_rfl)))
    · refine step_call hs (wants_none rfl) rfl fun L u W hJ hG hL hdep K hK => ?_
      have a0 := (show IsFs rP (u 0) [P] from hG 0 (hdep 0 (by kernel_rfl)))
      go_simp
      go_at_call 59
      (with_reducible refine (cReady a0 _).mono ?_); rintro e w1 ⟨r, rfl, hr, hb⟩
      have hk := hK.out _ _ hr hb
      exact hk
    · refine step_storeO q1 20 hs (wants_none rfl) rfl rfl (by kernel_rfl) (fun k hk => ?_) (fun _ => E1.out) (there_lt ht1 (by omega)) ht1 (gives_op 1 rfl (by kernel_rfl) (fun _ => rfl)) tyPr rfl
      rcases k with _ | _ | _ | k
      all_goals first | (exact absurd rfl hk) | (intro e; cases e; done)
  intro L1 u1 W1 hall hJ hG
  have hb : Below w.heap.size W0 W1 := hJ.below (by have := hbel.size; omega) (fun k b hf => by rcases k with _ | _ | _ | k <;> first | (cases hf; done) | (cases hf; omega))
  have hbel := hbel.trans hb
  obtain ⟨_, hs1_2t, hs1_2⟩ := (show _ ∧ W1.there q1 0 20 ∧ HasFs rPr W1 q1 0 [P] from hG 2 (by simp))
  have hbel0 := hbel
  clear hJ hG hall hb
  obtain ⟨pax, pay, paz, pat, hmpa, hppa⟩ := of_hasPr hs1_2
  go_upto_region 2 with fail
  refine wp_region_turn (fun u => #[v0, u0 0, u0 1, u 3, undef, u1 0, u1 1, u 0, u 1, u 2, undef, undef, undef, undef, undef, undef, undef, undef, undef, undef, undef, undef, undef, undef, undef, undef]) (Holds [.ptr q1 10, .val rE [paz], .val rE [finv paz], .new 5, .st 3 rE [finv paz]] W1) (Keep [.ptr q1 10, .val rE [paz], .val rE [finv paz], .new 5, .st 3 rE [finv paz]] W1) (fun _ => undef) ?_ (by rfl) Keep.start (holds_soft (by kernel_rfl)) ?_ ?_
  · intro u i v h
    rcases i with _ | _ | _ | _ | _ | i
    all_goals first | (simp [Act.put, putV]; done) | (exfalso; simp at h; omega)
  · intro hs
    refine ⟨?_, ?_, ?_, ?_, ?_, trivial⟩
    · exact step_field hs (wants_none rfl) rfl rfl (fun _ => E1.out) (field_P2 _)
    · exact step_loadF 0 q1 10 hs (wants_none rfl) rfl rfl tyE (fun _ => rfl) rfl (by kernel_rfl) hmpa.lt (hmpa.fld 2 1) (noSto_apart (by kernel_rfl))
    · refine step_call hs (wants_none rfl) rfl fun L u W hJ hG hL hdep K hK => ?_
      have a0 := (show IsFs rE (u 1) [paz] from hG 1 (hdep 1 (by kernel_rfl)))
      go_simp
      go_at_call 42
      (with_reducible refine (cInv a0 _).mono ?_); rintro e w1 ⟨r, rfl, hr, hb⟩
      have hk := hK.out _ _ hr hb
      exact hk
    · exact step_alloc hs (wants_none rfl) rfl rfl (by omega) rfl allocE
    · exact step_store 3 hs (by kernel_rfl) (wants_none rfl) rfl rfl rfl (by kernel_rfl) (by kernel_rfl) (by kernel_rfl) (by kernel_rfl) (fun _ => rfl) (gives_op 2 rfl (by kernel_rfl) (fun _ => rfl)) tyE rfl
  intro L2 u2 W2 hall hJ hG
  obtain ⟨q3, e3, hq3, _, ht3⟩ := (show ∃ g, u2 3 = .pointer (some ⟨g, 0, none⟩) ∧ W1.heap.size ≤ g ∧ 0 < 5 ∧ W2.there g 0 5 from hG 3 (by simp))
  have hm3 : HasFs rE W2 q3 0 [finv paz] := by
    obtain ⟨g, e, _, h⟩ := (show ∃ g, u2 3 = .pointer (some ⟨g, 0, none⟩) ∧ W1.heap.size ≤ g ∧ HasFs rE W2 g 0 [finv paz] from hG 4 (by simp))
    rw [e3] at e; cases e; exact h
  have HD3_q1 := Lib.hid (show q1 ≠ q3 by have := there_lt hs1_2t (by omega); omega)
  have hq3 : w.heap.size ≤ q3 := by have := hbel0.size; omega
  have E3 := Lib.hid e3; clear e3
  have hb := hJ.all rfl
  have hbel := Below.call hbel hb
  have hmpa := hmpa.later hb
  have hs1_2t := there_later hs1_2t hb
  have hbel0 := hbel
  clear hJ hG hall hb
  go_upto_region 3 with fail
  refine wp_region_turn (fun u => #[v0, u0 0, u0 1, u2 3, u 5, u1 0, u1 1, u2 0, u2 1, u2 2, u 0, u 1, u 2, u 3, u 4, undef, undef, undef, undef, undef, undef, undef, undef, undef, undef, undef]) (Holds [.ptr q1 5, .val rE [pay], .val rE [finv paz], .val rE [pay * (finv paz)], .rd (leB 32 (pay * (finv paz)).val), .rd (leB 32 (pay * (finv paz)).val)] W2) (Keep [.ptr q1 5, .val rE [pay], .val rE [finv paz], .val rE [pay * (finv paz)], .rd (leB 32 (pay * (finv paz)).val), .rd (leB 32 (pay * (finv paz)).val)] W2) (fun _ => undef) ?_ (by rfl) Keep.start (holds_soft (by kernel_rfl)) ?_ ?_
  · intro u i v h
    rcases i with _ | _ | _ | _ | _ | _ | i
    all_goals first | (simp [Act.put, putV]; done) | (exfalso; simp at h; omega)
  · intro hs
    refine ⟨?_, ?_, ?_, ?_, ?_, ?_, trivial⟩
    · exact step_field hs (wants_none rfl) rfl rfl (fun _ => E1.out) (field_P1 _)
    · exact step_loadF 0 q1 5 hs (wants_none rfl) rfl rfl tyE (fun _ => rfl) rfl (by kernel_rfl) hmpa.lt (hmpa.fld 1 1) (noSto_apart (by kernel_rfl))
    · exact step_load q3 0 hs (wants_none rfl) rfl rfl tyE (fun _ => E3.out) hm3.lt hm3 (noSto_apart (by kernel_rfl))
    · refine step_call hs (wants_none rfl) rfl fun L u W hJ hG hL hdep K hK => ?_
      have a0 := (show IsFs rE (u 1) [pay] from hG 1 (hdep 1 (by kernel_rfl)))
      have a1 := (show IsFs rE (u 2) [finv paz] from hG 2 (hdep 2 (by kernel_rfl)))
      go_simp
      go_at_call 38
      (with_reducible refine (cMul a0 a1 _).mono ?_); rintro e w1 ⟨r, rfl, hr, hb⟩
      have hk := hK.out _ _ hr hb
      exact hk
    · refine step_callB hs (wants_none rfl) rfl fun L u W hJ hG hL hdep K hK => ?_
      have a0 := (show IsFs rE (u 3) [pay * (finv paz)] from hG 3 (hdep 3 (by kernel_rfl)))
      go_simp
      go_at_call 60
      (with_reducible refine (cBytes a0 _).mono ?_); rintro e w1 ⟨g, n, cap, r, rfl, h1, h2, h3, h4, h5, hb⟩
      have hk := hK.out _ _ _ _ _ h1 h2 h3 h4 h5 hb
      exact hk
    · exact step_moveB 4 hs (wants_none rfl) rfl (by first | exact .inl rfl | exact .inr rfl) rfl (by kernel_rfl) (fun _ => rfl)
  intro L3 u3 W3 hall hJ hG
  obtain ⟨gB5, nB5, cB5, rB5, eB5, hgB5, hB5, hlB5, hcB5, hmB5⟩ := (show ∃ g n cap r, u3 5 = .slice (some ⟨g, 0, none⟩) n cap ∧ W2.heap.size ≤ g ∧ Blk W3 g ((leB 32 (pay * (finv paz)).val).map bV ++ r) 5 ∧ (leB 32 (pay * (finv paz)).val).length = n ∧ n ≤ cap ∧ cap ≤ maxLen from hG 5 (by simp))
  have hgB5 : w.heap.size ≤ gB5 := by have := hbel0.size; omega
  have EB5 := Lib.hid eB5; clear eB5
  obtain rfl : nB5 = 32 := by have h : (((leB 32 (pay * (finv paz)).val).length : Nat) : Int) = 32 := (by rw [leB_len]; rfl); omega
  have HB5 := Lib.hid hB5; clear hB5
  have HE5_q1 := Lib.hid (show q1 ≠ gB5 by have := there_lt hs1_2t (by omega); omega)
  have HE5_q3 := Lib.hid (show q3 ≠ gB5 by have := there_lt ht3 (by omega); omega)
  have hb := hJ.all rfl
  have hbel := Below.call hbel hb
  have hmpa := hmpa.later hb
  have hm3 := hm3.later hb
  have hs1_2t := there_later hs1_2t hb
  have ht3 := there_later ht3 hb
  have hbel0 := hbel
  clear hJ hG hall hb
  go_upto_region 4 with fail
  refine wp_region_turn (fun u => #[v0, u0 0, u0 1, u2 3, u3 5, u1 0, u1 1, u2 0, u2 1, u2 2, u3 0, u3 1, u3 2, u3 3, u3 4, u 0, u 1, u 2, u 3, u 4, undef, undef, undef, undef, undef, undef]) (Holds [.ptr q1 0, .val rE [pax], .val rE [finv paz], .val rE [pax * (finv paz)], .oth (fun v => v = .bool true)] W3) (Keep [.ptr q1 0, .val rE [pax], .val rE [finv paz], .val rE [pax * (finv paz)], .oth (fun v => v = .bool true)] W3) (fun _ => undef) ?_ (by rfl) Keep.start (holds_soft (by kernel_rfl)) ?_ ?_
  · intro u i v h
    rcases i with _ | _ | _ | _ | _ | i
    all_goals first | (simp [Act.put, putV]; done) | (exfalso; simp at h; omega)
  · intro hs
    refine ⟨?_, ?_, ?_, ?_, ?_, trivial⟩
    · exact step_field hs (wants_none rfl) rfl rfl (fun _ => E1.out) (field_P0 _)
    · exact step_loadF 0 q1 0 hs (wants_none rfl) rfl rfl tyE (fun _ => rfl) rfl (by kernel_rfl) hmpa.lt (hmpa.fld 0 1) (noSto_apart (by kernel_rfl))
    · exact step_load q3 0 hs (wants_none rfl) rfl rfl tyE (fun _ => E3.out) hm3.lt hm3 (noSto_apart (by kernel_rfl))
    · refine step_call hs (wants_none rfl) rfl fun L u W hJ hG hL hdep K hK => ?_
      have a0 := (show IsFs rE (u 1) [pax] from hG 1 (hdep 1 (by kernel_rfl)))
      have a1 := (show IsFs rE (u 2) [finv paz] from hG 2 (hdep 2 (by kernel_rfl)))
      go_simp
      go_at_call 38
      (with_reducible refine (cMul a0 a1 _).mono ?_); rintro e w1 ⟨r, rfl, hr, hb⟩
      have hk := hK.out _ _ hr hb
      exact hk
    · refine step_callO hs (wants_none rfl) rfl fun L u W hJ hG hL hdep K hK => ?_
      have a0 := (show IsFs rE (u 3) [pax * (finv paz)] from hG 3 (hdep 3 (by kernel_rfl)))
      go_simp
      go_at_call 61
      (with_reducible refine (cOdd (b := true) (by rw [hppa.p.xv]; exact decide_eq_true HP.out) a0 _).mono ?_); rintro e w1 ⟨rfl, hb⟩
      have hk := hK.out _ _ rfl hb
      exact hk
  intro L4 u4 W4 hall hJ hG
  have hb := hJ.all rfl
  have hbel := Below.call hbel hb
  have hmpa := hmpa.later hb
  have hm3 := hm3.later hb
  have hs1_2t := there_later hs1_2t hb
  have ht3 := there_later ht3 hb
  have HB5 := Lib.hid (HB5.out.below' hb)
  have HC19 := Lib.hid (show u4 4 = .bool true from hG 4 (by simp))
  have hbel0 := hbel
  clear hJ hG hall hb
  have hx : u4 4 = .bool true := HC19.out
  go_wp2_with fail
  rw [hx]
  clear hx
  have HLB : Hid (leB 32 (pay * finv paz).val = leB 32 P.y.val) := Lib.hid (by rw [hppa.p.yv])
  generalize leB 32 (pay * finv paz).val = LB at *
  have HLL : Hid (LB.length = 32) := Lib.hid (by rw [HLB.out, leB_len])
  have hcell := at31 HLL.out HB5.out
  have HCF : Hid (W4.frozen? ⟨gB5, 31, none⟩ = false) := Lib.hid (HB5.out.frozen 31)
  generalize hcd : LB.getD 31 0 = c at *
  generalize hdd : c ||| 128 = d at *
  have HCC := Lib.hid hcell; have HCD := Lib.hid hcd; have HDD := Lib.hid hdd
  clear hcell hcd hdd
  go_upto_region 5 with fail
  refine wp_region_turn (fun u => #[v0, u0 0, u0 1, u2 3, u3 5, u1 0, u1 1, u2 0, u2 1, u2 2, u3 0, u3 1, u3 2, u3 3, u3 4, u4 0, u4 1, u4 2, u4 3, .bool true, u 0, u 1, u 2, u 3, u 4, undef]) (Holds [.oth (fun v => v = .slice (some ⟨gB5, 0, none⟩) 32 cB5), .oth (fun v => v = .pointer (some ⟨gB5, 31, none⟩)), .oth (fun v => v = .int .u8 (c.toNat : Int)), .oth (fun v => v = .int .u8 (d.toNat : Int)), .oth (fun v => v = .pointer (some ⟨gB5, 31, none⟩)), .cst gB5 31 (.int .u8 (d.toNat : Int))] W4) (Keep [.oth (fun v => v = .slice (some ⟨gB5, 0, none⟩) 32 cB5), .oth (fun v => v = .pointer (some ⟨gB5, 31, none⟩)), .oth (fun v => v = .int .u8 (c.toNat : Int)), .oth (fun v => v = .int .u8 (d.toNat : Int)), .oth (fun v => v = .pointer (some ⟨gB5, 31, none⟩)), .cst gB5 31 (.int .u8 (d.toNat : Int))] W4) (fun _ => undef) ?_ (by rfl) Keep.start (holds_soft (by kernel_rfl)) ?_ ?_
  · intro u i v h
    rcases i with _ | _ | _ | _ | _ | _ | i
    all_goals first | (simp [Act.put, putV]; done) | (exfalso; simp at h; omega)
  · intro hs
    refine ⟨?_, ?_, ?_, ?_, ?_, ?_, trivial⟩
    · exact step_pureO hs (wants_none rfl) rfl fun L u W hG hdep => ⟨_, run_move rfl, EB5.out⟩
    · refine step_pureO hs (wants_none rfl) rfl fun L u W hG hdep => ⟨_, ?_, rfl⟩
      have e0 := (show u 0 = .slice (some ⟨gB5, 0, none⟩) 32 cB5 from hG 0 (hdep 0 (by kernel_rfl)))
      go_simp
    · exact step_cell gB5 31 hs (wants_none rfl) rfl rfl (fun _ h => load_u8 h) (fun L u W hG hdep => (show u 1 = .pointer (some ⟨gB5, 31, none⟩) from hG 1 (hdep 1 (by kernel_rfl)))) HCC.out (fun k g hk => by rcases k with _ | _ | _ | _ | _ | _ | k <;> first | (cases hk; done) | (cases hk; exact .inl (by kernel_rfl)))
    · refine step_pureO hs (wants_none rfl) rfl fun L u W hG hdep => ⟨_, ?_, rfl⟩
      have e0 := (show u 2 = .int .u8 (c.toNat : Int) from hG 2 (hdep 2 (by kernel_rfl)))
      have e9 := or128 c d HDD.out
      go_simp
    · refine step_pureO hs (wants_none rfl) rfl fun L u W hG hdep => ⟨_, ?_, rfl⟩
      have e0 := (show u 0 = .slice (some ⟨gB5, 0, none⟩) 32 cB5 from hG 0 (hdep 0 (by kernel_rfl)))
      go_simp
    · refine step_cst (old := .int .u8 (c.toNat : Int)) gB5 31 hs (wants_none rfl) rfl rfl (by kernel_rfl) (fun k hk => ?_) (fun _ h1 h2 => store_u8 h1 h2) (fun L u W hG hdep => (show u 4 = .pointer (some ⟨gB5, 31, none⟩) from hG 4 (hdep 4 (by kernel_rfl)))) (fun L u W hG hdep => (show u 3 = .int .u8 (d.toNat : Int) from hG 3 (hdep 3 (by kernel_rfl)))) HCC.out HCF.out
      rcases k with _ | _ | _ | _ | _ | _ | k
      all_goals first | (exact absurd rfl hk) | (intro e; cases e; done)
  intro L5 u5 W5 hall hJ hG
  have hb : Below w.heap.size W4 W5 := hJ.below (by have := hbel.size; omega) (fun k b hf => by rcases k with _ | _ | _ | _ | _ | _ | k <;> first | (cases hf; done) | (cases hf; omega))
  have hbel := hbel.trans hb
  have hmpa := hmpa.blk (hJ.block _ (hmpa.lt) (fun k hk => by rcases k with _ | _ | _ | _ | _ | _ | k <;> first | (cases hk; done) | (cases hk; exact absurd rfl (Ne.symm HE5_q1.out))))
  have hm3 := hm3.blk (hJ.block _ (hm3.lt) (fun k hk => by rcases k with _ | _ | _ | _ | _ | _ | k <;> first | (cases hk; done) | (cases hk; exact absurd rfl (Ne.symm HE5_q3.out))))
  have hs1_2t := there_blk hs1_2t (hJ.block _ (there_lt hs1_2t (by omega)) (fun k hk => by rcases k with _ | _ | _ | _ | _ | _ | k <;> first | (cases hk; done) | (cases hk; exact absurd rfl (Ne.symm HE5_q1.out))))
  have ht3 := there_blk ht3 (hJ.block _ (there_lt ht3 (by omega)) (fun k hk => by rcases k with _ | _ | _ | _ | _ | _ | k <;> first | (cases hk; done) | (cases hk; exact absurd rfl (Ne.symm HE5_q3.out))))
  have HB5 := Lib.hid (blk_keep (HB5.out.set 31 (.int .u8 (d.toNat : Int))) (show _ ∧ W5.heap[gB5]? = (W4.setCell ⟨gB5, 31, none⟩ (.int .u8 (d.toNat : Int))).heap[gB5]? from hG 5 (by simp)).2)
  have hbel0 := hbel
  clear hJ hG hall hb
  go_upto_region 6 with fail
  refine wp_region_turn (fun u => #[v0, u0 0, u 1, u2 3, u3 5, u1 0, u1 1, u2 0, u2 1, u2 2, u3 0, u3 1, u3 2, u3 3, u3 4, u4 0, u4 1, u4 2, u4 3, .bool true, u5 0, u5 1, u5 2, u5 3, u5 4, u 0]) (Holds [.oth (fun v => v = .slice (some ⟨gB5, 0, none⟩) 32 cB5), .oth (fun v => v = .slice (some ⟨gB5, 0, none⟩) 32 cB5)] W5) (Keep [.oth (fun v => v = .slice (some ⟨gB5, 0, none⟩) 32 cB5), .oth (fun v => v = .slice (some ⟨gB5, 0, none⟩) 32 cB5)] W5) (fun k => ((undef :: u0 1 :: []) : List Value).getD k undef) ?_ (by rfl) Keep.start (holds_soft (by kernel_rfl)) ?_ ?_
  · intro u i v h
    rcases i with _ | _ | i
    all_goals first | (simp [Act.put, putV]; done) | (exfalso; simp at h; omega)
  · intro hs
    refine ⟨?_, ?_, trivial⟩
    · exact step_pureO hs (wants_none rfl) rfl fun L u W hG hdep => ⟨_, run_move rfl, EB5.out⟩
    · exact step_pureO hs (wants_none rfl) rfl fun L u W hG hdep => ⟨_, run_assign rfl, (show u 0 = .slice (some ⟨gB5, 0, none⟩) 32 cB5 from hG 0 (hdep 0 (by kernel_rfl)))⟩
  intro L6 u6 W6 hall hJ hG
  have hb := hJ.all rfl
  have hbel := Below.call hbel hb
  have hmpa := hmpa.later hb
  have hm3 := hm3.later hb
  have hs1_2t := there_later hs1_2t hb
  have ht3 := there_later ht3 hb
  have HB5 := Lib.hid (HB5.out.below' hb)
  have HC2 := Lib.hid (show u6 1 = .slice (some ⟨gB5, 0, none⟩) 32 cB5 from hG 1 (by simp))
  have hbel0 := hbel
  clear hJ hG hall hb
  rw [HC2.out]
  go_wp2
  go_ret
  exact ⟨gB5, 32, cB5, rB5, rfl, hgB5, by rw [← enc_odd HP.out, ← HLB.out, HCD.out, HDD.out, ← set31 HLL.out]; exact HB5.out, encP_len _, hcB5, hmB5, hbel⟩
set_option maxRecDepth 100000 in
set_option maxHeartbeats 4000000 in
theorem enc_e {v0 : Value} {P : EP} (hp : ¬ P.x.val % 2 = 1) (h0 : IsFs rP v0 [P]) (w : World) :
    Calls Try.prog 13 #[v0] w fun e w' => ∃ g n cap r, e = .returned (.slice (some ⟨g, 0, none⟩) n cap) ∧ w.heap.size ≤ g ∧ Blk w' g ((encP P).map bV ++ r) 5 ∧ (encP P).length = n ∧ n ≤ cap ∧ cap ≤ maxLen ∧ Below w.heap.size w w' := by
  have HP := Lib.hid hp; clear hp
  go_enter Try.func13, Try.ntmps13
  have hbel : Below w.heap.size w w := Below.refl _ _
  have hbel0 := hbel
  go_upto_region 0 with fail
  refine wp_region_turn (fun u => #[v0, u 0, u 1, undef, undef, undef, undef, undef, undef, undef, undef, undef, undef, undef, undef, undef, undef, undef, undef, undef, undef, undef, undef, undef, undef, undef]) (Holds [.box rP [P], .oth (fun v => v = .slice none 0 0)] w) (Keep [.box rP [P], .oth (fun v => v = .slice none 0 0)] w) (fun _ => undef) ?_ (by rfl) Keep.start (holds_soft (by kernel_rfl)) ?_ ?_
  · intro u i v h
    rcases i with _ | _ | i
    all_goals first | (simp [Act.put, putV]; done) | (exfalso; simp at h; omega)
  · intro hs
    refine ⟨?_, ?_, trivial⟩
    · exact step_box hs (wants_none rfl) rfl rfl (gives_c h0 (fun _ => rfl))
    · exact step_pureO hs (wants_none rfl) rfl fun L u W hG hdep => ⟨_, run_assign rfl, rfl⟩
  intro L0 u0 W0 hall hJ hG
  obtain ⟨q1, e1, ⟨hq1, _⟩, ht1, hm1⟩ := (show ∃ g, u0 0 = .pointer (some ⟨g, 0, none⟩) ∧ (w.heap.size ≤ g ∧ g < W0.heap.size) ∧ W0.there g 0 20 ∧ HasFs rP W0 g 0 [P] from hG 0 (by simp))
  have hq1 : w.heap.size ≤ q1 := by have := hbel0.size; omega
  have E1 := Lib.hid e1; clear e1
  have hb := hJ.all rfl
  have hbel := Below.call hbel hb
  have HC2 := Lib.hid (show u0 1 = .slice none 0 0 from hG 1 (by simp))
  have hbel0 := hbel
  clear hJ hG hall hb
  go_upto_region 1 with fail
  refine wp_region_turn (fun u => #[v0, u0 0, u0 1, undef, undef, u 0, u 1, undef, undef, undef, undef, undef, undef, undef, undef, undef, undef, undef, undef, undef, undef, undef, undef, undef, undef, undef]) (Holds [.val rP [P], .val rPr [P], .sto q1 rPr [P]] W0) (Keep [.val rP [P], .val rPr [P], .sto q1 rPr [P]] W0) (fun _ => undef) ?_ (by rfl) Keep.start (holds_soft (by kernel_rfl)) ?_ ?_
  · intro u i v h
    rcases i with _ | _ | _ | i
    all_goals first | (simp [Act.put, putV]; done) | (exfalso; simp at h; omega)
  · intro hs
    refine ⟨?_, ?_, ?_, trivial⟩
    · exact step_load q1 0 hs (wants_none rfl) rfl rfl tyP (fun _ => E1.out) hm1.lt hm1 (fun k g hk => by rcases k with _ | _ | _ | k <;> first | (cases hk; done) | (cases hk; exact .inl (by kernel_rfl)))
    · refine step_call hs (wants_none rfl) rfl fun L u W hJ hG hL hdep K hK => ?_
      have a0 := (show IsFs rP (u 0) [P] from hG 0 (hdep 0 (by kernel_rfl)))
      go_simp
      go_at_call 59
      (with_reducible refine (cReady a0 _).mono ?_); rintro e w1 ⟨r, rfl, hr, hb⟩
      have hk := hK.out _ _ hr hb
      exact hk
    · refine step_storeO q1 20 hs (wants_none rfl) rfl rfl (by kernel_rfl) (fun k hk => ?_) (fun _ => E1.out) (there_lt ht1 (by omega)) ht1 (gives_op 1 rfl (by kernel_rfl) (fun _ => rfl)) tyPr rfl
      rcases k with _ | _ | _ | k
      all_goals first | (exact absurd rfl hk) | (intro e; cases e; done)
  intro L1 u1 W1 hall hJ hG
  have hb : Below w.heap.size W0 W1 := hJ.below (by have := hbel.size; omega) (fun k b hf => by rcases k with _ | _ | _ | k <;> first | (cases hf; done) | (cases hf; omega))
  have hbel := hbel.trans hb
  obtain ⟨_, hs1_2t, hs1_2⟩ := (show _ ∧ W1.there q1 0 20 ∧ HasFs rPr W1 q1 0 [P] from hG 2 (by simp))
  have hbel0 := hbel
  clear hJ hG hall hb
  obtain ⟨pax, pay, paz, pat, hmpa, hppa⟩ := of_hasPr hs1_2
  go_upto_region 2 with fail
  refine wp_region_turn (fun u => #[v0, u0 0, u0 1, u 3, undef, u1 0, u1 1, u 0, u 1, u 2, undef, undef, undef, undef, undef, undef, undef, undef, undef, undef, undef, undef, undef, undef, undef, undef]) (Holds [.ptr q1 10, .val rE [paz], .val rE [finv paz], .new 5, .st 3 rE [finv paz]] W1) (Keep [.ptr q1 10, .val rE [paz], .val rE [finv paz], .new 5, .st 3 rE [finv paz]] W1) (fun _ => undef) ?_ (by rfl) Keep.start (holds_soft (by kernel_rfl)) ?_ ?_
  · intro u i v h
    rcases i with _ | _ | _ | _ | _ | i
    all_goals first | (simp [Act.put, putV]; done) | (exfalso; simp at h; omega)
  · intro hs
    refine ⟨?_, ?_, ?_, ?_, ?_, trivial⟩
    · exact step_field hs (wants_none rfl) rfl rfl (fun _ => E1.out) (field_P2 _)
    · exact step_loadF 0 q1 10 hs (wants_none rfl) rfl rfl tyE (fun _ => rfl) rfl (by kernel_rfl) hmpa.lt (hmpa.fld 2 1) (noSto_apart (by kernel_rfl))
    · refine step_call hs (wants_none rfl) rfl fun L u W hJ hG hL hdep K hK => ?_
      have a0 := (show IsFs rE (u 1) [paz] from hG 1 (hdep 1 (by kernel_rfl)))
      go_simp
      go_at_call 42
      (with_reducible refine (cInv a0 _).mono ?_); rintro e w1 ⟨r, rfl, hr, hb⟩
      have hk := hK.out _ _ hr hb
      exact hk
    · exact step_alloc hs (wants_none rfl) rfl rfl (by omega) rfl allocE
    · exact step_store 3 hs (by kernel_rfl) (wants_none rfl) rfl rfl rfl (by kernel_rfl) (by kernel_rfl) (by kernel_rfl) (by kernel_rfl) (fun _ => rfl) (gives_op 2 rfl (by kernel_rfl) (fun _ => rfl)) tyE rfl
  intro L2 u2 W2 hall hJ hG
  obtain ⟨q3, e3, hq3, _, ht3⟩ := (show ∃ g, u2 3 = .pointer (some ⟨g, 0, none⟩) ∧ W1.heap.size ≤ g ∧ 0 < 5 ∧ W2.there g 0 5 from hG 3 (by simp))
  have hm3 : HasFs rE W2 q3 0 [finv paz] := by
    obtain ⟨g, e, _, h⟩ := (show ∃ g, u2 3 = .pointer (some ⟨g, 0, none⟩) ∧ W1.heap.size ≤ g ∧ HasFs rE W2 g 0 [finv paz] from hG 4 (by simp))
    rw [e3] at e; cases e; exact h
  have HD3_q1 := Lib.hid (show q1 ≠ q3 by have := there_lt hs1_2t (by omega); omega)
  have hq3 : w.heap.size ≤ q3 := by have := hbel0.size; omega
  have E3 := Lib.hid e3; clear e3
  have hb := hJ.all rfl
  have hbel := Below.call hbel hb
  have hmpa := hmpa.later hb
  have hs1_2t := there_later hs1_2t hb
  have hbel0 := hbel
  clear hJ hG hall hb
  go_upto_region 3 with fail
  refine wp_region_turn (fun u => #[v0, u0 0, u0 1, u2 3, u 5, u1 0, u1 1, u2 0, u2 1, u2 2, u 0, u 1, u 2, u 3, u 4, undef, undef, undef, undef, undef, undef, undef, undef, undef, undef, undef]) (Holds [.ptr q1 5, .val rE [pay], .val rE [finv paz], .val rE [pay * (finv paz)], .rd (leB 32 (pay * (finv paz)).val), .rd (leB 32 (pay * (finv paz)).val)] W2) (Keep [.ptr q1 5, .val rE [pay], .val rE [finv paz], .val rE [pay * (finv paz)], .rd (leB 32 (pay * (finv paz)).val), .rd (leB 32 (pay * (finv paz)).val)] W2) (fun _ => undef) ?_ (by rfl) Keep.start (holds_soft (by kernel_rfl)) ?_ ?_
  · intro u i v h
    rcases i with _ | _ | _ | _ | _ | _ | i
    all_goals first | (simp [Act.put, putV]; done) | (exfalso; simp at h; omega)
  · intro hs
    refine ⟨?_, ?_, ?_, ?_, ?_, ?_, trivial⟩
    · exact step_field hs (wants_none rfl) rfl rfl (fun _ => E1.out) (field_P1 _)
    · exact step_loadF 0 q1 5 hs (wants_none rfl) rfl rfl tyE (fun _ => rfl) rfl (by kernel_rfl) hmpa.lt (hmpa.fld 1 1) (noSto_apart (by kernel_rfl))
    · exact step_load q3 0 hs (wants_none rfl) rfl rfl tyE (fun _ => E3.out) hm3.lt hm3 (noSto_apart (by kernel_rfl))
    · refine step_call hs (wants_none rfl) rfl fun L u W hJ hG hL hdep K hK => ?_
      have a0 := (show IsFs rE (u 1) [pay] from hG 1 (hdep 1 (by kernel_rfl)))
      have a1 := (show IsFs rE (u 2) [finv paz] from hG 2 (hdep 2 (by kernel_rfl)))
      go_simp
      go_at_call 38
      (with_reducible refine (cMul a0 a1 _).mono ?_); rintro e w1 ⟨r, rfl, hr, hb⟩
      have hk := hK.out _ _ hr hb
      exact hk
    · refine step_callB hs (wants_none rfl) rfl fun L u W hJ hG hL hdep K hK => ?_
      have a0 := (show IsFs rE (u 3) [pay * (finv paz)] from hG 3 (hdep 3 (by kernel_rfl)))
      go_simp
      go_at_call 60
      (with_reducible refine (cBytes a0 _).mono ?_); rintro e w1 ⟨g, n, cap, r, rfl, h1, h2, h3, h4, h5, hb⟩
      have hk := hK.out _ _ _ _ _ h1 h2 h3 h4 h5 hb
      exact hk
    · exact step_moveB 4 hs (wants_none rfl) rfl (by first | exact .inl rfl | exact .inr rfl) rfl (by kernel_rfl) (fun _ => rfl)
  intro L3 u3 W3 hall hJ hG
  obtain ⟨gB5, nB5, cB5, rB5, eB5, hgB5, hB5, hlB5, hcB5, hmB5⟩ := (show ∃ g n cap r, u3 5 = .slice (some ⟨g, 0, none⟩) n cap ∧ W2.heap.size ≤ g ∧ Blk W3 g ((leB 32 (pay * (finv paz)).val).map bV ++ r) 5 ∧ (leB 32 (pay * (finv paz)).val).length = n ∧ n ≤ cap ∧ cap ≤ maxLen from hG 5 (by simp))
  have hgB5 : w.heap.size ≤ gB5 := by have := hbel0.size; omega
  have EB5 := Lib.hid eB5; clear eB5
  obtain rfl : nB5 = 32 := by have h : (((leB 32 (pay * (finv paz)).val).length : Nat) : Int) = 32 := (by rw [leB_len]; rfl); omega
  have HB5 := Lib.hid hB5; clear hB5
  have HE5_q1 := Lib.hid (show q1 ≠ gB5 by have := there_lt hs1_2t (by omega); omega)
  have HE5_q3 := Lib.hid (show q3 ≠ gB5 by have := there_lt ht3 (by omega); omega)
  have hb := hJ.all rfl
  have hbel := Below.call hbel hb
  have hmpa := hmpa.later hb
  have hm3 := hm3.later hb
  have hs1_2t := there_later hs1_2t hb
  have ht3 := there_later ht3 hb
  have hbel0 := hbel
  clear hJ hG hall hb
  go_upto_region 4 with fail
  refine wp_region_turn (fun u => #[v0, u0 0, u0 1, u2 3, u3 5, u1 0, u1 1, u2 0, u2 1, u2 2, u3 0, u3 1, u3 2, u3 3, u3 4, u 0, u 1, u 2, u 3, u 4, undef, undef, undef, undef, undef, undef]) (Holds [.ptr q1 0, .val rE [pax], .val rE [finv paz], .val rE [pax * (finv paz)], .oth (fun v => v = .bool false)] W3) (Keep [.ptr q1 0, .val rE [pax], .val rE [finv paz], .val rE [pax * (finv paz)], .oth (fun v => v = .bool false)] W3) (fun _ => undef) ?_ (by rfl) Keep.start (holds_soft (by kernel_rfl)) ?_ ?_
  · intro u i v h
    rcases i with _ | _ | _ | _ | _ | i
    all_goals first | (simp [Act.put, putV]; done) | (exfalso; simp at h; omega)
  · intro hs
    refine ⟨?_, ?_, ?_, ?_, ?_, trivial⟩
    · exact step_field hs (wants_none rfl) rfl rfl (fun _ => E1.out) (field_P0 _)
    · exact step_loadF 0 q1 0 hs (wants_none rfl) rfl rfl tyE (fun _ => rfl) rfl (by kernel_rfl) hmpa.lt (hmpa.fld 0 1) (noSto_apart (by kernel_rfl))
    · exact step_load q3 0 hs (wants_none rfl) rfl rfl tyE (fun _ => E3.out) hm3.lt hm3 (noSto_apart (by kernel_rfl))
    · refine step_call hs (wants_none rfl) rfl fun L u W hJ hG hL hdep K hK => ?_
      have a0 := (show IsFs rE (u 1) [pax] from hG 1 (hdep 1 (by kernel_rfl)))
      have a1 := (show IsFs rE (u 2) [finv paz] from hG 2 (hdep 2 (by kernel_rfl)))
      go_simp
      go_at_call 38
      (with_reducible refine (cMul a0 a1 _).mono ?_); rintro e w1 ⟨r, rfl, hr, hb⟩
      have hk := hK.out _ _ hr hb
      exact hk
    · refine step_callO hs (wants_none rfl) rfl fun L u W hJ hG hL hdep K hK => ?_
      have a0 := (show IsFs rE (u 3) [pax * (finv paz)] from hG 3 (hdep 3 (by kernel_rfl)))
      go_simp
      go_at_call 61
      (with_reducible refine (cOdd (b := false) (by rw [hppa.p.xv]; exact decide_eq_false HP.out) a0 _).mono ?_); rintro e w1 ⟨rfl, hb⟩
      have hk := hK.out _ _ rfl hb
      exact hk
  intro L4 u4 W4 hall hJ hG
  have hb := hJ.all rfl
  have hbel := Below.call hbel hb
  have hmpa := hmpa.later hb
  have hm3 := hm3.later hb
  have hs1_2t := there_later hs1_2t hb
  have ht3 := there_later ht3 hb
  have HB5 := Lib.hid (HB5.out.below' hb)
  have HC19 := Lib.hid (show u4 4 = .bool false from hG 4 (by simp))
  have hbel0 := hbel
  clear hJ hG hall hb
  have hx : u4 4 = .bool false := HC19.out
  go_wp2_with fail
  rw [hx]
  clear hx
  have HLB : Hid (leB 32 (pay * finv paz).val = leB 32 P.y.val) := Lib.hid (by rw [hppa.p.yv])
  generalize leB 32 (pay * finv paz).val = LB at *
  have HLL : Hid (LB.length = 32) := Lib.hid (by rw [HLB.out, leB_len])
  go_upto_region 6 with fail
  refine wp_region_turn (fun u => #[v0, u0 0, u 1, u2 3, u3 5, u1 0, u1 1, u2 0, u2 1, u2 2, u3 0, u3 1, u3 2, u3 3, u3 4, u4 0, u4 1, u4 2, u4 3, .bool false, undef, undef, undef, undef, undef, u 0]) (Holds [.oth (fun v => v = .slice (some ⟨gB5, 0, none⟩) 32 cB5), .oth (fun v => v = .slice (some ⟨gB5, 0, none⟩) 32 cB5)] W4) (Keep [.oth (fun v => v = .slice (some ⟨gB5, 0, none⟩) 32 cB5), .oth (fun v => v = .slice (some ⟨gB5, 0, none⟩) 32 cB5)] W4) (fun k => ((undef :: u0 1 :: []) : List Value).getD k undef) ?_ (by rfl) Keep.start (holds_soft (by kernel_rfl)) ?_ ?_
  · intro u i v h
    rcases i with _ | _ | i
    all_goals first | (simp [Act.put, putV]; done) | (exfalso; simp at h; omega)
  · intro hs
    refine ⟨?_, ?_, trivial⟩
    · exact step_pureO hs (wants_none rfl) rfl fun L u W hG hdep => ⟨_, run_move rfl, EB5.out⟩
    · exact step_pureO hs (wants_none rfl) rfl fun L u W hG hdep => ⟨_, run_assign rfl, (show u 0 = .slice (some ⟨gB5, 0, none⟩) 32 cB5 from hG 0 (hdep 0 (by kernel_rfl)))⟩
  intro L6 u6 W6 hall hJ hG
  have hb := hJ.all rfl
  have hbel := Below.call hbel hb
  have hmpa := hmpa.later hb
  have hm3 := hm3.later hb
  have hs1_2t := there_later hs1_2t hb
  have ht3 := there_later ht3 hb
  have HB5 := Lib.hid (HB5.out.below' hb)
  have HC2 := Lib.hid (show u6 1 = .slice (some ⟨gB5, 0, none⟩) 32 cB5 from hG 1 (by simp))
  have hbel0 := hbel
  clear hJ hG hall hb
  rw [HC2.out]
  go_wp2
  go_ret
  exact ⟨gB5, 32, cB5, rB5, rfl, hgB5, by rw [← enc_even HP.out, ← HLB.out]; exact HB5.out, encP_len _, hcB5, hmB5, hbel⟩
theorem cEncode {v0 : Value} {P : EP} (h0 : IsFs rP v0 [P]) (w : World) :
    Calls Try.prog 13 #[v0] w fun e w' => ∃ g n cap r, e = .returned (.slice (some ⟨g, 0, none⟩) n cap) ∧ w.heap.size ≤ g ∧ Blk w' g ((encP P).map bV ++ r) 5 ∧ (encP P).length = n ∧ n ≤ cap ∧ cap ≤ maxLen ∧ Below w.heap.size w w' := by
  by_cases hp : P.x.val % 2 = 1
  · exact (enc_o hp h0 w).mono fun _ _ ⟨g, n, cap, r, h1, h2, h3, h4, h5, h6, hb⟩ => ⟨g, n, cap, r, h1, h2, h3, h4, h5, h6, hb⟩
  · exact (enc_e hp h0 w).mono fun _ _ ⟨g, n, cap, r, h1, h2, h3, h4, h5, h6, hb⟩ => ⟨g, n, cap, r, h1, h2, h3, h4, h5, h6, hb⟩
end Go.Proofs.Ytjchdhpijopikaa
namespace Go.Proofs.Ytjchdhpijopikaa
open Go Go.RowKit
/-- A new empty slice of the call's own. -/
theorem own_none (w : World) (E : TypeId) (base : Nat) (hb : base ≤ w.heap.size) : (w.alloc (.cells #[] E)).ownsRow base E 1 (.slice (some ⟨w.heap.size, 0, none⟩) 0 0) 0 [] :=
  ⟨rfl, .inr ⟨w.heap.size, 0, #[], rfl, hb, (by show (w.heap.push _)[w.heap.size]? = _; simp), by omega, by simp, rfl, rfl⟩⟩
theorem run_eqIn_nilB (w : World) (d : Nat) (a : Option Addr) (l c : Nat) : (Op.equalIn (d + 1) 22 (.slice a l c) (.slice none 0 0)).run Try.prog w = .ok a.isNone w := by
  cases a <;> simp [Op.equalIn, run_underlying Try.underlying22]
theorem run_eq_nilB (w : World) (a : Option Addr) (l c : Nat) : (Op.equal 22 (.slice a l c) (.slice none 0 0)).run Try.prog w = .ok a.isNone w := run_eqIn_nilB w 9999 a l c
theorem run_eql_nilB (a : Option Addr) (l c : Nat) (w : World) : (binOp .eql 22 (.slice a l c) (.slice none 0 0)).run Try.prog w = .ok (.bool a.isNone) w := by
  simp [binOp, run_eq_nilB w a l c]
/-- New bytes. -/
def NewB (w : World) (l : List UInt8) (e : Ending) (w' : World) : Prop := ∃ g n cap r, e = .returned (.slice (some ⟨g, 0, none⟩) n cap) ∧ w.heap.size ≤ g ∧ Blk w' g (l.map bV ++ r) 5 ∧ l.length = n ∧ n ≤ cap ∧ cap ≤ maxLen ∧ Below w.heap.size w w'
set_option maxRecDepth 100000 in
set_option maxHeartbeats 1000000 in
theorem clone_any {a : Option Addr} {n cap : Nat} {l : List UInt8} (w : World) (h : RdB w a n cap l) (hn : 0 < n) (hm : n ≤ 1000000) :
    Calls Try.prog 35 #[.slice a n cap] w (NewB w l) := by
  have hl := h.hlen
  obtain ⟨b, q, rfl, hc0⟩ := h.get 0 (by omega)
  clear hc0
  have HL := Lib.hid hl; have HN := Lib.hid hn; have HM := Lib.hid hm
  clear hl hn hm
  have hq := run_eql_nilB (some ⟨b, q, none⟩) n cap
  rw [show (some (⟨b, q, none⟩ : Addr)).isNone = false from rfl] at hq
  go_enter Try.func35, Try.ntmps35
  go_wp2_with (at_builtin; go_must (refine app_bytes _ rfl (.tmp 5) (.tmp 6) rfl w.heap.size _ 0 [] rfl (own_none w 5 w.heap.size (Nat.le_refl _)) _ _ _ l rfl (by exact h.below (by repeat (first | (with_reducible refine Below.alloc' ?_ _) | (with_reducible refine Below.drew ?_) | (with_reducible refine below_drewN ?_ _) | ((with_reducible refine Below.setCell ?_ ?_ _); rotate_left; (focus (first | exact Nat.le_refl _ | (simp; done) | (simp; omega)))) | (with_reducible assumption) | (with_reducible exact Below.refl _ _)))) (by have := HM.out; omega) (by simp) w (by exact (by repeat (first | (with_reducible refine Below.alloc' ?_ _) | (with_reducible refine Below.drew ?_) | (with_reducible refine below_drewN ?_ _) | ((with_reducible refine Below.setCell ?_ ?_ _); rotate_left; (focus (first | exact Nat.le_refl _ | (simp; done) | (simp; omega)))) | (with_reducible assumption) | (with_reducible exact Below.refl _ _)))) ?_; intro v1 w1 hown hb1; rw [Nat.zero_add, List.nil_append] at hown; obtain ⟨gc, cc, rc, rfl, hgc, hC, _, hcc, hmc⟩ := own_rdb (l := l) hown HN.out; have HC := Lib.hid hC; clear hC hown))
  go_wp2
  go_ret
  exact ⟨gc, n, cc, rc, rfl, hgc, HC.out, HL.out, hcc, hmc, hb1⟩
set_option maxRecDepth 100000 in
set_option maxHeartbeats 400000 in
theorem bmul_32 (w : World) : Calls Try.prog 94 #[.int .u64 1, .int .u64 32] w fun e w' => e = .returned (.tuple #[.int .u64 0, .int .u64 32]) ∧ w' = w := by
  have h := mul64_any (x := 1) (y := 32) ⟨by omega, by omega⟩ ⟨by omega, by omega⟩ w
  rw [show (1 : Int) * 32 / 18446744073709551616 = 0 by omega, show (1 : Int) * 32 % 18446744073709551616 = 32 by omega] at h
  go_enter Try.func94, Try.ntmps94
  go_wp2_with (go_at_call 79; go_must (refine h.mono ?_; rintro e w1 ⟨rfl, rfl⟩))
  go_ret2
  exact ⟨rfl, rfl⟩
/-- The first n of 32 cells are this byte. -/
def rpV (c : UInt8) (n i : Nat) : Value := if i < n then bV c else .int .u8 0
theorem rp_one (c : UInt8) (n : Nat) : ∀ v ∈ row n (fun _ => bV c), v.oneCell' = true := fun v hv => by
  simp [row] at hv
  obtain ⟨i, _, rfl⟩ := hv
  rfl
theorem rp_dbl (k : Nat) (hk : k < 5) : splice (row 32 (rpV 102 (2 ^ k))) (2 ^ k) (row (2 ^ k) (fun _ => bV 102)) = row 32 (rpV 102 (2 ^ (k + 1))) := by
  have h : k = 0 ∨ k = 1 ∨ k = 2 ∨ k = 3 ∨ k = 4 := by omega
  rcases h with rfl | rfl | rfl | rfl | rfl <;> exact rfl
theorem rp_first : splice (row 32 (rpV 102 0)) 0 [bV 102] = row 32 (rpV 102 1) := by kernel_rfl
theorem rp_full (c : UInt8) : row 32 (rpV c 32) = (List.replicate 32 c).map bV := by
  simp [row, rpV, List.range, List.range.loop, List.replicate]
theorem make32r (w : World) : (Instr.makeSlice 22 (.int .i64 32) (.int .i64 32)).run Try.prog w = .ok (.slice (some ⟨w.heap.size, 0, none⟩) 32 32) (w.alloc (.cells (row 32 (rpV 102 0)).toArray 5)) := by kernel_rfl
set_option maxRecDepth 100000 in
set_option maxHeartbeats 4000000 in
theorem repeat_32 {g : Nat} (w : World) (hg : Blk w g [bV 102] 5) :
    Calls Try.prog 63 #[.slice (some ⟨g, 0, none⟩) 1 1, .int .i64 32] w fun e w' => e = .returned (.slice (some ⟨w.heap.size, 0, none⟩) 32 32) ∧ Blk w' w.heap.size ((List.replicate 32 102).map bV) 5 ∧ Below w.heap.size w w' := by
  have hmk := make32r
  go_enter Try.func63, Try.ntmps63
  go_upto_region 7 with (go_at_call 94; go_must (refine (bmul_32 _).mono ?_; rintro e w1 ⟨rfl, rfl⟩))
  have hB : Blk (w1.alloc (.cells (row 32 (rpV 102 0)).toArray 5)) w1.heap.size (row 32 (rpV 102 0)) 5 := Blk.new _ _ _
  have hb1 : Below w1.heap.size w1 (w1.alloc (.cells (row 32 (rpV 102 0)).toArray 5)) := (Below.refl _ _).alloc (Nat.le_refl _) _
  have hg1 := hg.alloc (.cells (row 32 (rpV 102 0)).toArray 5)
  generalize w1.alloc (.cells (row 32 (rpV 102 0)).toArray 5) = W at *
  have hsrc : 0 < [bV 102].length → (some (⟨w1.heap.size, 0, none⟩ : Addr)) = some ⟨w1.heap.size, 0, none⟩ ∧ ∃ ad, (some (⟨g, 0, none⟩ : Addr)) = some ad ∧ ∀ j v, [bV 102][j]? = some v → W.cell? (ad.add j) = some v := fun _ => ⟨rfl, _, rfl, fun j v hv => by
    rw [addr_add, Nat.zero_add, hg1.cell]; exact hv⟩
  go_wp2_with (refine wpList_copy_splice rfl (.tmp 31) (.tmp 32) 22 22 rfl 5 Try.underlying22 infoSz _ _ _ _ _ _ rfl rfl w1.heap.size 0 (row 32 (rpV 102 0)) 5 hB [bV 102] rfl hsrc (by rw [row_len]; decide) (rp_one 102 1) w1.heap.size w1 hb1 (Nat.le_refl _) ?_; intro w2 hB2 hb2; rw [rp_first] at hB2; clear hsrc hg1 hb1 hB hg hmk)
  have hn1 : (1 : Int) = ((2 ^ 0 : Nat) : Int) := rfl
  rw [hn1]
  clear hn1
  have hB20 : Blk w2 w1.heap.size (row 32 (rpV 102 (2 ^ 0))) 5 := hB2.out
  clear hB2
  go_loopw [8] (fun s wr => ∃ k : Nat, k ≤ 5 ∧ s = .int .i64 ((2 ^ k : Nat) : Int) ∧ Blk wr w1.heap.size (row 32 (rpV 102 (2 ^ k))) 5 ∧ Below w1.heap.size w1 wr) (fun s _ => 32 - (intOf s).toNat)
  case atStart => exact ⟨0, by omega, rfl, hB20, hb2⟩
  case round =>
    obtain ⟨k, hk, rfl, hB, hb⟩ := hrel
    clear hB20 hb2
    by_cases hlt : k < 5
    · have hp : 0 < 2 ^ k ∧ 2 ^ k ≤ 16 := by
        have h : k = 0 ∨ k = 1 ∨ k = 2 ∨ k = 3 ∨ k = 4 := by omega
        rcases h with rfl | rfl | rfl | rfl | rfl <;> decide
      have hd := rp_dbl k hlt
      have hs : 2 ^ (k + 1) = 2 ^ k + 2 ^ k := by rw [Nat.pow_succ]; omega
      rw [hs] at hd
      have HS := Lib.hid hs
      generalize 2 ^ k = n at *
      obtain ⟨hp1, hp2⟩ := hp
      have hsrc : 0 < (row n (fun _ => bV 102)).length → (some (⟨w1.heap.size, n, none⟩ : Addr)) = some ⟨w1.heap.size, n, none⟩ ∧ ∃ ad, (some (⟨w1.heap.size, 0, none⟩ : Addr)) = some ad ∧ ∀ j v, (row n (fun _ => bV 102))[j]? = some v → wr.drew.cell? (ad.add j) = some v := fun _ => ⟨rfl, _, rfl, fun j v hv => by
        have hj : j < n := by have := (List.getElem?_eq_some_iff.1 hv).1; rwa [row_len] at this
        rw [addr_add, Nat.zero_add, (Blk.drew hB).at (by omega), ← hv, row_get hj]
        unfold rpV; rw [if_pos hj]⟩
      have c1 : decide ((n : Int) < 32) = true := decide_eq_true (by omega)
      have hb1 : ∀ v ∈ row n (fun _ => bV 102), v.oneCell' = true := rp_one 102 n
      have hn32 : ((32 : Int) - (n : Int)) = ((32 - n : Nat) : Int) := by omega
      have hle : (n : Int) ≤ 32 := by omega
      have hne : ¬ (32 = n) := by omega
      have HB := Lib.hid hB; have HBB := Lib.hid hb; have HD := Lib.hid hd
      clear hB hb hd
      go_upto_region 9 with fail
      go_region_law (refine step_copy_splice rfl (.tmp 41) (.tmp 44) 22 22 rfl 5 Try.underlying22 infoSz (some ⟨w1.heap.size, n, none⟩) (some ⟨w1.heap.size, 0, none⟩) (32 - n) (32 - n) n 32 (by simp [Act.eval, Act.put]) (by simp [Act.eval, Act.put]) w1.heap.size n (row 32 (rpV 102 n)) 5 (Blk.drew HB.out) (row n (fun _ => bV 102)) (by rw [row_len]; show n = min n (32 - n); omega) hsrc (by rw [row_len, row_len]; omega) hb1 w1.heap.size w1 (Below.drew HBB.out) (Nat.le_refl _) ?_; intro w4 hg4 hb4)
      all_goals
        have hB4 : Blk w4 w1.heap.size (row 32 (rpV 102 (n + n))) 5 := by rw [← HD.out]; exact hg4.out
        have hlen : IntKind.i64.wrap ((n : Int) + ((row n (fun _ => bV 102)).length : Nat)) = ((n + n : Nat) : Int) := by rw [row_len, IntKind.wrap_i64]; omega
        rw [hlen, ← HS.out]
        rw [← HS.out] at hB4
        have HB4 := Lib.hid hB4
        clear hlen hB4 hg4 hsrc hb1 hn32 HB HBB HD hle hne
        (try go_simp)
        (try simp only [Act.put, List.setIfInBounds_toArray, List.set_cons_zero, List.set_cons_succ])
        go_wp2
        go_roundw
        case rel => ((repeat apply Exists.intro); refine ⟨⟨k + 1, by omega, ?_, HB4.out, hb4⟩, rfl⟩; rw [HS.out, Int.natCast_add])
        case measure => simp [intOf] <;> omega
    · obtain rfl : k = 5 := by omega
      rw [show 2 ^ 5 = 32 from rfl] at *
      have HB := Lib.hid hB
      clear hB
      go_wp2
      go_ret
      exact ⟨rfl, by rw [← rp_full]; exact HB.out, hb⟩
theorem repeat_32' {g k : Nat} {w : World} (hk : k = w.heap.size) (hg : Blk w g [bV 102] 5) :
    Calls Try.prog 63 #[.slice (some ⟨g, 0, none⟩) 1 1, .int .i64 32] w fun e w' => e = .returned (.slice (some ⟨k, 0, none⟩) 32 32) ∧ Blk w' k ((List.replicate 32 102).map bV) 5 ∧ Below w.heap.size w w' := by subst hk; exact repeat_32 w hg
end Go.Proofs.Ytjchdhpijopikaa
namespace Go.Proofs.Ytjchdhpijopikaa
open Go Go.RowKit
theorem xx_fs {v : Value} {y : F} (h : IsFs rE v [(y * y - fn 1) * finv (y * y * dE + fn 1)]) : IsFs rE v [xx y] := h
theorem cRootN {v : Value} {x X : F} {c : Int} (hX : rootV x = X) (hc : rootC x = c) (h : IsFs rE v [x]) (w : World) :
    Calls Try.prog 43 #[v] w fun e w' => ∃ r, e = .returned (.tuple #[r, .int .i64 c]) ∧ IsFs rE r [X] ∧ Below w.heap.size w w' := by subst hX hc; exact cRoot h w
theorem dec_pext {P : EP} {x y : F} (hx : P.x = x) (hy : P.y = y) : Pext P x y (fn 1) (x * y) := by subst hx hy; exact Pext.one P
theorem odd_bit {l : List UInt8} {c : UInt8} {o : Bool} (h : l.length = 32) (hc : l.getD 31 0 = c) (ho : sgn l = o) : (bits BinOp.and IntKind.u8 (c.toNat : Int) 128 != 0) = o := by
  rw [← ho, sgn_byte h, hc]
  exact odd_byte _ c.toNat_lt
theorem clr_bit {c d : UInt8} (h : c &&& 127 = d) : bits BinOp.andNot IntKind.u8 (c.toNat : Int) 128 = (d.toNat : Int) := by
  have := clr_byte2 c.toNat c.toNat_lt
  rw [UInt8.ofNat_toNat, h] at this
  exact this
theorem root_7 {x : F} (h : ¬ rootC x = 0) : rootC x = 7 := by
  unfold rootC at *
  by_cases e : cand x * cand x = x
  · rw [if_pos e] at h; exact absurd rfl h
  · rw [if_neg e]
set_option maxRecDepth 100000 in
set_option maxHeartbeats 4000000 in
theorem decode_len {a : Option Addr} {n cap : Nat} (w : World) (hn : n ≠ 32) :
    Calls Try.prog 10 #[.slice a n cap] w fun e w' => ∃ r, e = .returned (.tuple #[r, .int .i64 12]) ∧ IsFs rP r [Cp.zero] ∧ Below w.heap.size w w' := by
  have d1 : decide ((n : Int) = 32) = false := decide_eq_false (by omega)
  have HD : Hid (¬ ((n : Int) = 32)) := Lib.hid (by omega)
  clear hn
  go_enter Try.func10, Try.ntmps10
  have hbel : Below w.heap.size w w := Below.refl _ _
  have hbel0 := hbel
  go_upto_region 0 with fail
  refine wp_region_turn (fun u => (.slice a n cap :: undef :: u 0 :: u 1 :: undef :: undef :: undef :: undef :: undef :: undef :: undef :: undef :: undef :: undef :: undef :: undef :: undef :: undef :: undef :: undef :: undef :: undef :: undef :: undef :: undef :: undef :: undef :: undef :: undef :: undef :: undef :: undef :: undef :: undef :: undef :: undef :: undef :: undef :: undef :: undef :: undef :: undef :: undef :: undef :: undef :: undef :: undef :: undef :: undef :: undef :: undef :: undef :: undef :: undef :: undef :: undef :: undef :: undef :: undef :: undef :: undef :: undef :: undef :: undef :: undef :: undef :: undef :: undef :: undef :: undef :: []).toArray) (Holds [.new 20, .oth (fun v => v = .int .i64 0)] w) (Keep [.new 20, .oth (fun v => v = .int .i64 0)] w) (fun _ => undef) ?_ (by rfl) Keep.start (holds_soft (by kernel_rfl)) ?_ ?_
  · intro u i v h
    rcases i with _ | _ | i
    all_goals first | (simp [Act.put, putV]; done) | (exfalso; simp at h; omega)
  · intro hs
    refine ⟨?_, ?_, trivial⟩
    · exact step_alloc hs (wants_none rfl) rfl rfl (by omega) rfl allocP
    · exact step_pureO hs (wants_none rfl) rfl fun L u W hG hdep => ⟨_, run_assign rfl, rfl⟩
  intro L0 u0 W0 hall hJ hG
  obtain ⟨q2, e2, hq2, _, ht2⟩ := (show ∃ g, u0 0 = .pointer (some ⟨g, 0, none⟩) ∧ w.heap.size ≤ g ∧ 0 < 20 ∧ W0.there g 0 20 from hG 0 (by simp))
  have hq2 : w.heap.size ≤ q2 := by have := hbel0.size; omega
  have E2 := Lib.hid e2; clear e2
  have hb := hJ.all rfl
  have hbel := Below.call hbel hb
  have HC3 := Lib.hid (show u0 1 = .int .i64 0 from hG 1 (by simp))
  have hbel0 := hbel
  clear hJ hG hall hb
  go_upto_region 1 with fail
  refine wp_region_turn (fun u => (.slice a n cap :: undef :: u0 0 :: u0 1 :: undef :: undef :: undef :: undef :: undef :: undef :: u 0 :: u 1 :: u 2 :: undef :: undef :: undef :: undef :: undef :: undef :: undef :: undef :: undef :: undef :: undef :: undef :: undef :: undef :: undef :: undef :: undef :: undef :: undef :: undef :: undef :: undef :: undef :: undef :: undef :: undef :: undef :: undef :: undef :: undef :: undef :: undef :: undef :: undef :: undef :: undef :: undef :: undef :: undef :: undef :: undef :: undef :: undef :: undef :: undef :: undef :: undef :: undef :: undef :: undef :: undef :: undef :: undef :: undef :: undef :: undef :: undef :: []).toArray) (Holds [.oth (fun v => v = .slice a n cap), .oth (fun v => v = .int .i64 (n : Nat)), .oth (fun v => v = .bool true)] W0) (Keep [.oth (fun v => v = .slice a n cap), .oth (fun v => v = .int .i64 (n : Nat)), .oth (fun v => v = .bool true)] W0) (fun _ => undef) ?_ (by rfl) Keep.start (holds_soft (by kernel_rfl)) ?_ ?_
  · intro u i v h
    rcases i with _ | _ | _ | i
    all_goals first | (simp [Act.put, putV]; done) | (exfalso; simp at h; omega)
  · intro hs
    refine ⟨?_, ?_, ?_, trivial⟩
    · exact step_pureO hs (wants_none rfl) rfl fun L u W hG hdep => ⟨_, run_move rfl, rfl⟩
    · refine step_pureO hs (wants_none rfl) rfl fun L u W hG hdep => ⟨_, ?_, rfl⟩
      have e0 := (show u 0 = .slice a n cap from hG 0 (hdep 0 (by kernel_rfl)))
      go_simp
    · refine step_pureO hs (wants_none rfl) rfl fun L u W hG hdep => ⟨_, ?_, rfl⟩
      have e0 := (show u 1 = .int .i64 (n : Nat) from hG 1 (hdep 1 (by kernel_rfl)))
      go_simp
      exact HD.out
  intro L1 u1 W1 hall hJ hG
  have hb := hJ.all rfl
  have hbel := Below.call hbel hb
  have ht2 := there_later ht2 hb
  have HC12 := Lib.hid (show u1 2 = .bool true from hG 2 (by simp))
  have hbel0 := hbel
  clear hJ hG hall hb
  have hx : u1 2 = .bool true := HC12.out
  go_wp2_with fail
  rw [hx]
  clear hx
  go_upto_region 2 with fail
  refine wp_region_turn (fun u => (.slice a n cap :: undef :: u0 0 :: u 2 :: undef :: undef :: undef :: undef :: undef :: undef :: u1 0 :: u1 1 :: .bool true :: u 0 :: undef :: undef :: undef :: undef :: undef :: undef :: undef :: undef :: undef :: undef :: undef :: undef :: undef :: undef :: undef :: undef :: undef :: undef :: undef :: undef :: undef :: undef :: undef :: undef :: undef :: undef :: undef :: undef :: undef :: undef :: undef :: undef :: undef :: undef :: undef :: undef :: undef :: undef :: undef :: undef :: undef :: undef :: undef :: undef :: undef :: undef :: undef :: undef :: undef :: undef :: undef :: undef :: undef :: undef :: undef :: undef :: []).toArray) (Holds [.val rP [Cp.zero], .sto q2 rP [Cp.zero], .oth (fun v => v = .int .i64 12)] W1) (Keep [.val rP [Cp.zero], .sto q2 rP [Cp.zero], .oth (fun v => v = .int .i64 12)] W1) (fun k => ((undef :: undef :: u0 1 :: []) : List Value).getD k undef) ?_ (by rfl) Keep.start (holds_soft (by kernel_rfl)) ?_ ?_
  · intro u i v h
    rcases i with _ | _ | _ | i
    all_goals first | (simp [Act.put, putV]; done) | (exfalso; simp at h; omega)
  · intro hs
    refine ⟨?_, ?_, ?_, trivial⟩
    · exact step_pure hs (wants_none rfl) rfl fun L u W hG hdep => run_build0 rfl (build_P0 W)
    · refine step_storeO q2 20 hs (wants_none rfl) rfl rfl (by kernel_rfl) (fun k hk => ?_) (fun _ => E2.out) (there_lt ht2 (by omega)) ht2 (gives_op 0 rfl (by kernel_rfl) (fun _ => rfl)) tyP rfl
      rcases k with _ | _ | _ | k
      all_goals first | (exact absurd rfl hk) | (intro e; cases e; done)
    · exact step_pureO hs (wants_none rfl) rfl fun L u W hG hdep => ⟨_, run_assign rfl, rfl⟩
  intro L2 u2 W2 hall hJ hG
  have hb : Below w.heap.size W1 W2 := hJ.below (by have := hbel.size; omega) (fun k b hf => by rcases k with _ | _ | _ | k <;> first | (cases hf; done) | (cases hf; omega))
  have hbel := hbel.trans hb
  obtain ⟨_, hs2_1t, hs2_1⟩ := (show _ ∧ W2.there q2 0 20 ∧ HasFs rP W2 q2 0 [Cp.zero] from hG 1 (by simp))
  have HC3 := Lib.hid (show u2 2 = .int .i64 12 from hG 2 (by simp))
  have hbel0 := hbel
  clear hJ hG hall hb
  go_wp2
  exact ret_cell_slot (R := rP) Try.results10 (by exact E2.out) (by exact HC3.out) hs2_1 tyP rfl (fun r hr => ⟨r, rfl, hr, hbel⟩)
set_option maxRecDepth 100000 in
set_option maxHeartbeats 8000000 in
theorem decode_32 {bb q cap : Nat} {l : List UInt8} {o : Bool} (w : World) (hs : sgn l = o) (h : RdB w (some ⟨bb, q, none⟩) 32 cap l) :
    Calls Try.prog 10 #[.slice (some ⟨bb, q, none⟩) 32 cap] w fun e w' => ∃ r, e = .returned (.tuple #[r, .int .i64 (decC l)]) ∧ IsFs rP r [decV l] ∧ Below w.heap.size w w' := by
  have hl := h.hlen
  obtain ⟨b', q', hab, hc0⟩ := h.get 31 (by omega)
  obtain ⟨rfl, rfl⟩ : bb = b' ∧ q = q' := by simpa using hab
  clear hab
  obtain ⟨c, hc⟩ : ∃ c, c = l.getD 31 0 := ⟨_, rfl⟩
  have hc1 : w.cell? ⟨bb, q + 31, none⟩ = some (.int .u8 (c.toNat : Int)) := by
    rw [hc0, hc, List.getD_eq_getElem?_getD, List.getElem?_eq_getElem (by omega)]; rfl
  have HCL := Lib.hid hc1
  have HOB := Lib.hid (odd_bit hl hc.symm hs)
  obtain ⟨d, hd⟩ : ∃ d, c &&& 127 = d := ⟨_, rfl⟩
  have HDB := Lib.hid (clr_bit hd)
  have HK0 : Hid (l.set 31 d = clr l) := Lib.hid (by unfold clr; rw [← hc, hd])
  have HL := Lib.hid hl; have HS := Lib.hid hs; have HCC := Lib.hid hc
  clear hc0 hc1 hc hd hl hs
  go_enter Try.func10, Try.ntmps10
  have hbel : Below w.heap.size w w := Below.refl _ _
  have hbel0 := hbel
  go_upto_region 0 with fail
  refine wp_region_turn (fun u => (.slice (some ⟨bb, q, none⟩) 32 cap :: undef :: u 0 :: u 1 :: undef :: undef :: undef :: undef :: undef :: undef :: undef :: undef :: undef :: undef :: undef :: undef :: undef :: undef :: undef :: undef :: undef :: undef :: undef :: undef :: undef :: undef :: undef :: undef :: undef :: undef :: undef :: undef :: undef :: undef :: undef :: undef :: undef :: undef :: undef :: undef :: undef :: undef :: undef :: undef :: undef :: undef :: undef :: undef :: undef :: undef :: undef :: undef :: undef :: undef :: undef :: undef :: undef :: undef :: undef :: undef :: undef :: undef :: undef :: undef :: undef :: undef :: undef :: undef :: undef :: undef :: []).toArray) (Holds [.new 20, .oth (fun v => v = .int .i64 0)] w) (Keep [.new 20, .oth (fun v => v = .int .i64 0)] w) (fun _ => undef) ?_ (by rfl) Keep.start (holds_soft (by kernel_rfl)) ?_ ?_
  · intro u i v h
    rcases i with _ | _ | i
    all_goals first | (simp [Act.put, putV]; done) | (exfalso; simp at h; omega)
  · intro hs
    refine ⟨?_, ?_, trivial⟩
    · exact step_alloc hs (wants_none rfl) rfl rfl (by omega) rfl allocP
    · exact step_pureO hs (wants_none rfl) rfl fun L u W hG hdep => ⟨_, run_assign rfl, rfl⟩
  intro L0 u0 W0 hall hJ hG
  obtain ⟨q2, e2, hq2, _, ht2⟩ := (show ∃ g, u0 0 = .pointer (some ⟨g, 0, none⟩) ∧ w.heap.size ≤ g ∧ 0 < 20 ∧ W0.there g 0 20 from hG 0 (by simp))
  have hq2 : w.heap.size ≤ q2 := by have := hbel0.size; omega
  have E2 := Lib.hid e2; clear e2
  have hb := hJ.all rfl
  have hbel := Below.call hbel hb
  have HC3 := Lib.hid (show u0 1 = .int .i64 0 from hG 1 (by simp))
  have hbel0 := hbel
  clear hJ hG hall hb
  go_upto_region 1 with fail
  refine wp_region_turn (fun u => (.slice (some ⟨bb, q, none⟩) 32 cap :: undef :: u0 0 :: u0 1 :: undef :: undef :: undef :: undef :: undef :: undef :: u 0 :: u 1 :: u 2 :: undef :: undef :: undef :: undef :: undef :: undef :: undef :: undef :: undef :: undef :: undef :: undef :: undef :: undef :: undef :: undef :: undef :: undef :: undef :: undef :: undef :: undef :: undef :: undef :: undef :: undef :: undef :: undef :: undef :: undef :: undef :: undef :: undef :: undef :: undef :: undef :: undef :: undef :: undef :: undef :: undef :: undef :: undef :: undef :: undef :: undef :: undef :: undef :: undef :: undef :: undef :: undef :: undef :: undef :: undef :: undef :: undef :: []).toArray) (Holds [.oth (fun v => v = .slice (some ⟨bb, q, none⟩) 32 cap), .oth (fun v => v = .int .i64 32), .oth (fun v => v = .bool false)] W0) (Keep [.oth (fun v => v = .slice (some ⟨bb, q, none⟩) 32 cap), .oth (fun v => v = .int .i64 32), .oth (fun v => v = .bool false)] W0) (fun _ => undef) ?_ (by rfl) Keep.start (holds_soft (by kernel_rfl)) ?_ ?_
  · intro u i v h
    rcases i with _ | _ | _ | i
    all_goals first | (simp [Act.put, putV]; done) | (exfalso; simp at h; omega)
  · intro hs
    refine ⟨?_, ?_, ?_, trivial⟩
    · exact step_pureO hs (wants_none rfl) rfl fun L u W hG hdep => ⟨_, run_move rfl, rfl⟩
    · refine step_pureO hs (wants_none rfl) rfl fun L u W hG hdep => ⟨_, ?_, rfl⟩
      have e0 := (show u 0 = .slice (some ⟨bb, q, none⟩) 32 cap from hG 0 (hdep 0 (by kernel_rfl)))
      go_simp
    · refine step_pureO hs (wants_none rfl) rfl fun L u W hG hdep => ⟨_, ?_, rfl⟩
      have e0 := (show u 1 = .int .i64 32 from hG 1 (hdep 1 (by kernel_rfl)))
      go_simp
      try simp [bne]
  intro L1 u1 W1 hall hJ hG
  have hb := hJ.all rfl
  have hbel := Below.call hbel hb
  have ht2 := there_later ht2 hb
  have HC12 := Lib.hid (show u1 2 = .bool false from hG 2 (by simp))
  have hbel0 := hbel
  clear hJ hG hall hb
  have hx : u1 2 = .bool false := HC12.out
  go_wp2_with fail
  rw [hx]
  clear hx
  go_upto_region 3 with fail
  refine wp_region_turn (fun u => (.slice (some ⟨bb, q, none⟩) 32 cap :: undef :: u0 0 :: u0 1 :: u 5 :: undef :: undef :: undef :: undef :: undef :: u1 0 :: u1 1 :: .bool false :: undef :: u 0 :: u 1 :: u 2 :: u 3 :: u 4 :: undef :: undef :: undef :: undef :: undef :: undef :: undef :: undef :: undef :: undef :: undef :: undef :: undef :: undef :: undef :: undef :: undef :: undef :: undef :: undef :: undef :: undef :: undef :: undef :: undef :: undef :: undef :: undef :: undef :: undef :: undef :: undef :: undef :: undef :: undef :: undef :: undef :: undef :: undef :: undef :: undef :: undef :: undef :: undef :: undef :: undef :: undef :: undef :: undef :: undef :: undef :: []).toArray) (Holds [.oth (fun v => v = .slice (some ⟨bb, q, none⟩) 32 cap), .oth (fun v => v = .pointer (some ⟨bb, q + 31, none⟩)), .oth (fun v => v = .int .u8 (c.toNat : Int)), .oth (fun v => v = .int .u8 (bits BinOp.and IntKind.u8 (c.toNat : Int) 128)), .oth (fun v => v = .bool o), .oth (fun v => v = .bool o)] W1) (Keep [.oth (fun v => v = .slice (some ⟨bb, q, none⟩) 32 cap), .oth (fun v => v = .pointer (some ⟨bb, q + 31, none⟩)), .oth (fun v => v = .int .u8 (c.toNat : Int)), .oth (fun v => v = .int .u8 (bits BinOp.and IntKind.u8 (c.toNat : Int) 128)), .oth (fun v => v = .bool o), .oth (fun v => v = .bool o)] W1) (fun _ => undef) ?_ (by rfl) Keep.start (holds_soft (by kernel_rfl)) ?_ ?_
  · intro u i v h
    rcases i with _ | _ | _ | _ | _ | _ | i
    all_goals first | (simp [Act.put, putV]; done) | (exfalso; simp at h; omega)
  · intro hs
    refine ⟨?_, ?_, ?_, ?_, ?_, ?_, trivial⟩
    · exact step_pureO hs (wants_none rfl) rfl fun L u W hG hdep => ⟨_, run_move rfl, rfl⟩
    · refine step_pureO hs (wants_none rfl) rfl fun L u W hG hdep => ⟨_, ?_, rfl⟩
      have e0 := (show u 0 = .slice (some ⟨bb, q, none⟩) 32 cap from hG 0 (hdep 0 (by kernel_rfl)))
      go_simp
    · exact step_cell bb (q + 31) hs (wants_none rfl) rfl rfl (fun _ h => load_u8 h) (fun L u W hG hdep => (show u 1 = .pointer (some ⟨bb, q + 31, none⟩) from hG 1 (hdep 1 (by kernel_rfl)))) (cell_keep HCL.out hbel) (noSto_apart (by kernel_rfl))
    · refine step_pureO hs (wants_none rfl) rfl fun L u W hG hdep => ⟨_, ?_, rfl⟩
      have e0 := (show u 2 = .int .u8 (c.toNat : Int) from hG 2 (hdep 2 (by kernel_rfl)))
      go_simp
    · refine step_pureO hs (wants_none rfl) rfl fun L u W hG hdep => ⟨_, ?_, rfl⟩
      have e0 := (show u 3 = .int .u8 (bits BinOp.and IntKind.u8 (c.toNat : Int) 128) from hG 3 (hdep 3 (by kernel_rfl)))
      have e9 := HOB.out
      go_simp
      try exact e9
    · exact step_pureO hs (wants_none rfl) rfl fun L u W hG hdep => ⟨_, run_assign rfl, (show u 4 = .bool o from hG 4 (hdep 4 (by kernel_rfl)))⟩
  intro L3 u3 W3 hall hJ hG
  have hb := hJ.all rfl
  have hbel := Below.call hbel hb
  have ht2 := there_later ht2 hb
  have HC18 := Lib.hid (show u3 4 = .bool o from hG 4 (by simp))
  have HC4 := Lib.hid (show u3 5 = .bool o from hG 5 (by simp))
  have hbel0 := hbel
  clear hJ hG hall hb
  go_upto_region 5 with (go_at_call 35; go_must (refine (clone_any _ (h.below hbel) (by omega) (by omega)).mono ?_; rintro e W4 ⟨gB, nB, cB, rB, rfl, hgB0, hB, hlB, hcB, hmB, hb⟩))
  rw [HL.out] at hlB
  subst hlB
  have hgB : w.heap.size ≤ gB := by have := hbel.size; omega
  have HE_q2 := Lib.hid (show q2 ≠ gB by have := there_lt ht2 (by omega); omega)
  have ht2 := there_later ht2 hb
  have hbel := Below.call hbel hb
  have hbel0 := hbel
  have HB := Lib.hid hB
  clear hB hb
  have hcell : W4.cell? ⟨gB, 31, none⟩ = some (.int .u8 (c.toNat : Int)) := by rw [HCC.out]; exact at31 HL.out HB.out
  have HCX := Lib.hid hcell; have HCF : Hid (W4.frozen? ⟨gB, 31, none⟩ = false) := Lib.hid (HB.out.frozen 31)
  clear hcell
  go_upto_region 5 with fail
  refine wp_region_turn (fun u => (.slice (some ⟨gB, 0, none⟩) 32 cB :: undef :: u0 0 :: u0 1 :: u3 5 :: undef :: undef :: undef :: undef :: undef :: u1 0 :: u1 1 :: .bool false :: undef :: u3 0 :: u3 1 :: u3 2 :: u3 3 :: u3 4 :: .slice (some ⟨bb, q, none⟩) 32 cap :: .slice (some ⟨gB, 0, none⟩) 32 cB :: u 0 :: u 1 :: u 2 :: u 3 :: u 4 :: undef :: undef :: undef :: undef :: undef :: undef :: undef :: undef :: undef :: undef :: undef :: undef :: undef :: undef :: undef :: undef :: undef :: undef :: undef :: undef :: undef :: undef :: undef :: undef :: undef :: undef :: undef :: undef :: undef :: undef :: undef :: undef :: undef :: undef :: undef :: undef :: undef :: undef :: undef :: undef :: undef :: undef :: undef :: undef :: []).toArray) (Holds [.oth (fun v => v = .slice (some ⟨gB, 0, none⟩) 32 cB), .oth (fun v => v = .pointer (some ⟨gB, 31, none⟩)), .oth (fun v => v = .int .u8 (c.toNat : Int)), .oth (fun v => v = .int .u8 (d.toNat : Int)), .oth (fun v => v = .pointer (some ⟨gB, 31, none⟩)), .cst gB 31 (.int .u8 (d.toNat : Int))] W4) (Keep [.oth (fun v => v = .slice (some ⟨gB, 0, none⟩) 32 cB), .oth (fun v => v = .pointer (some ⟨gB, 31, none⟩)), .oth (fun v => v = .int .u8 (c.toNat : Int)), .oth (fun v => v = .int .u8 (d.toNat : Int)), .oth (fun v => v = .pointer (some ⟨gB, 31, none⟩)), .cst gB 31 (.int .u8 (d.toNat : Int))] W4) (fun _ => undef) ?_ (by rfl) Keep.start (holds_soft (by kernel_rfl)) ?_ ?_
  · intro u i v h
    rcases i with _ | _ | _ | _ | _ | _ | i
    all_goals first | (simp [Act.put, putV]; done) | (exfalso; simp at h; omega)
  · intro hs
    refine ⟨?_, ?_, ?_, ?_, ?_, ?_, trivial⟩
    · exact step_pureO hs (wants_none rfl) rfl fun L u W hG hdep => ⟨_, run_move rfl, rfl⟩
    · refine step_pureO hs (wants_none rfl) rfl fun L u W hG hdep => ⟨_, ?_, rfl⟩
      have e0 := (show u 0 = .slice (some ⟨gB, 0, none⟩) 32 cB from hG 0 (hdep 0 (by kernel_rfl)))
      go_simp
    · exact step_cell gB 31 hs (wants_none rfl) rfl rfl (fun _ h => load_u8 h) (fun L u W hG hdep => (show u 1 = .pointer (some ⟨gB, 31, none⟩) from hG 1 (hdep 1 (by kernel_rfl)))) HCX.out (fun k g hk => by rcases k with _ | _ | _ | _ | _ | _ | k <;> first | (cases hk; done) | (cases hk; exact .inl (by kernel_rfl)))
    · refine step_pureO hs (wants_none rfl) rfl fun L u W hG hdep => ⟨_, ?_, rfl⟩
      have e0 := (show u 2 = .int .u8 (c.toNat : Int) from hG 2 (hdep 2 (by kernel_rfl)))
      have e9 := HDB.out
      go_simp
    · refine step_pureO hs (wants_none rfl) rfl fun L u W hG hdep => ⟨_, ?_, rfl⟩
      have e0 := (show u 0 = .slice (some ⟨gB, 0, none⟩) 32 cB from hG 0 (hdep 0 (by kernel_rfl)))
      go_simp
    · refine step_cst (old := .int .u8 (c.toNat : Int)) gB 31 hs (wants_none rfl) rfl rfl (by kernel_rfl) (fun k hk => ?_) (fun _ h1 h2 => store_u8 h1 h2) (fun L u W hG hdep => (show u 4 = .pointer (some ⟨gB, 31, none⟩) from hG 4 (hdep 4 (by kernel_rfl)))) (fun L u W hG hdep => (show u 3 = .int .u8 (d.toNat : Int) from hG 3 (hdep 3 (by kernel_rfl)))) HCX.out HCF.out
      rcases k with _ | _ | _ | _ | _ | _ | k
      all_goals first | (exact absurd rfl hk) | (intro e; cases e; done)
  intro L5 u5 W5 hall hJ hG
  have hb : Below w.heap.size W4 W5 := hJ.below (by have := hbel.size; omega) (fun k b hf => by rcases k with _ | _ | _ | _ | _ | _ | k <;> first | (cases hf; done) | (cases hf; omega))
  have hbel := hbel.trans hb
  have ht2 := there_blk ht2 (hJ.block _ (there_lt ht2 (by omega)) (fun k hk => by rcases k with _ | _ | _ | _ | _ | _ | k <;> first | (cases hk; done) | (cases hk; exact absurd rfl (Ne.symm HE_q2.out))))
  have HB := Lib.hid (blk_keep (HB.out.set 31 (.int .u8 (d.toNat : Int))) (show _ ∧ W5.heap[gB]? = (W4.setCell ⟨gB, 31, none⟩ (.int .u8 (d.toNat : Int))).heap[gB]? from hG 5 (by simp)).2)
  have hbel0 := hbel
  clear hJ hG hall hb
  have HKB : Hid (Blk W5 gB ((clr l).map bV ++ rB) 5) := Lib.hid (by rw [← HK0.out, ← set31 HL.out]; exact HB.out)
  clear HB HCX HCF HK0 HDB HOB HCL HCC
  have HKL : Hid ((clr l).length = 32) := Lib.hid (by rw [clr_len]; exact HL.out)
  by_cases hlow : lowN l < Pq
  rotate_left
  · have HLW := Lib.hid hlow; clear hlow
    have HC2 := Lib.hid (stC_no HL.out HLW.out)
    generalize clr l = K at *
    go_upto_region 6 with fail
    refine wp_region_turn (fun u => (.slice (some ⟨gB, 0, none⟩) 32 cB :: undef :: u0 0 :: u0 1 :: u3 5 :: u 5 :: u 7 :: undef :: undef :: undef :: u1 0 :: u1 1 :: .bool false :: undef :: u3 0 :: u3 1 :: u3 2 :: u3 3 :: u3 4 :: .slice (some ⟨bb, q, none⟩) 32 cap :: .slice (some ⟨gB, 0, none⟩) 32 cB :: u5 0 :: u5 1 :: u5 2 :: u5 3 :: u5 4 :: u 2 :: u 0 :: u 1 :: u 3 :: u 4 :: undef :: undef :: undef :: undef :: undef :: undef :: undef :: undef :: undef :: undef :: undef :: undef :: undef :: undef :: undef :: undef :: undef :: undef :: undef :: undef :: undef :: undef :: undef :: undef :: undef :: undef :: undef :: undef :: undef :: undef :: undef :: undef :: undef :: undef :: undef :: undef :: undef :: undef :: undef :: []).toArray) (Holds [.oth (fun v => v = .slice (some ⟨gB, 0, none⟩) 32 cB), .oth (fun v => IsTV rE v [stV K] (.int .i64 2)), .oth (fun v => IsTV rE v [stV K] (.int .i64 2)), .val rE [stV K], .oth (fun v => v = .int .i64 2), .new 5, .st 5 rE [stV K], .oth (fun v => v = .int .i64 2)] W5) (Keep [.oth (fun v => v = .slice (some ⟨gB, 0, none⟩) 32 cB), .oth (fun v => IsTV rE v [stV K] (.int .i64 2)), .oth (fun v => IsTV rE v [stV K] (.int .i64 2)), .val rE [stV K], .oth (fun v => v = .int .i64 2), .new 5, .st 5 rE [stV K], .oth (fun v => v = .int .i64 2)] W5) (fun _ => undef) ?_ (by rfl) Keep.start (holds_soft (by kernel_rfl)) ?_ ?_
    · intro u i v h
      rcases i with _ | _ | _ | _ | _ | _ | _ | _ | i
      all_goals first | (simp [Act.put, putV]; done) | (exfalso; simp at h; omega)
    · intro hs
      refine ⟨?_, ?_, ?_, ?_, ?_, ?_, ?_, ?_, trivial⟩
      · exact step_pureO hs (wants_none rfl) rfl fun L u W hG hdep => ⟨_, run_move rfl, rfl⟩
      · refine step_callO hs (wants_none rfl) rfl fun L u W hJ hG hL hdep K hK => ?_
        have x0 := (show u 0 = .slice (some ⟨gB, 0, none⟩) 32 cB from hG 0 (hdep 0 (by kernel_rfl)))
        have hRB0 := (RdB.blk rB HKB.out HKL.out hcB hmB).below (hJ.all rfl)
        go_simp
        go_at_call 36
        (with_reducible refine (cStrict' rfl HC2.out hRB0).mono ?_); rintro e w1 ⟨r, rfl, hr, hb⟩
        have hk := hK.out _ _ ⟨r, rfl, hr⟩ hb
        simp only [x0] at hk
        exact hk
      · exact step_pureO hs (wants_none rfl) rfl fun L u W hG hdep => ⟨_, run_move rfl, (show IsTV rE (u 1) [stV K] (.int .i64 2) from hG 1 (hdep 1 (by kernel_rfl)))⟩
      · exact step_pure hs (wants_none rfl) rfl fun L u W hG hdep => run_extractV0 rfl (show IsTV rE (u 2) [stV K] (.int .i64 2) from hG 2 (hdep 2 (by kernel_rfl)))
      · exact step_pureO hs (wants_none rfl) rfl fun L u W hG hdep => run_extractV1 rfl (show IsTV rE (u 2) [stV K] (.int .i64 2) from hG 2 (hdep 2 (by kernel_rfl)))
      · exact step_alloc hs (wants_none rfl) rfl rfl (by omega) rfl allocE
      · exact step_store 5 hs (by kernel_rfl) (wants_none rfl) rfl rfl rfl (by kernel_rfl) (by kernel_rfl) (by kernel_rfl) (by kernel_rfl) (fun _ => rfl) (gives_op 3 rfl (by kernel_rfl) (fun _ => rfl)) tyE rfl
      · exact step_pureO hs (wants_none rfl) rfl fun L u W hG hdep => ⟨_, run_assign rfl, (show u 4 = .int .i64 2 from hG 4 (hdep 4 (by kernel_rfl)))⟩
    intro L6 u6a W6a hall hJ hG
    obtain ⟨q5, e5, hq5, _, ht5⟩ := (show ∃ g, u6a 5 = .pointer (some ⟨g, 0, none⟩) ∧ W5.heap.size ≤ g ∧ 0 < 5 ∧ W6a.there g 0 5 from hG 5 (by simp))
    have hm5 : HasFs rE W6a q5 0 [stV K] := by
      obtain ⟨g, e, _, h⟩ := (show ∃ g, u6a 5 = .pointer (some ⟨g, 0, none⟩) ∧ W5.heap.size ≤ g ∧ HasFs rE W6a g 0 [stV K] from hG 6 (by simp))
      rw [e5] at e; cases e; exact h
    have HD5_q2 := Lib.hid (show q2 ≠ q5 by have := there_lt ht2 (by omega); omega)
    have hq5 : w.heap.size ≤ q5 := by have := hbel0.size; omega
    have E5 := Lib.hid e5; clear e5
    have hb := hJ.all rfl
    have hbel := Below.call hbel hb
    have ht2 := there_later ht2 hb
    have HKB := Lib.hid (HKB.out.below' hb)
    have HC6 := Lib.hid (show u6a 7 = .int .i64 2 from hG 7 (by simp))
    have hbel0 := hbel
    clear hJ hG hall hb
    go_upto_region 7 with fail
    refine wp_region_turn (fun u => (.slice (some ⟨gB, 0, none⟩) 32 cB :: undef :: u0 0 :: u0 1 :: u3 5 :: u6a 5 :: u6a 7 :: undef :: undef :: undef :: u1 0 :: u1 1 :: .bool false :: undef :: u3 0 :: u3 1 :: u3 2 :: u3 3 :: u3 4 :: .slice (some ⟨bb, q, none⟩) 32 cap :: .slice (some ⟨gB, 0, none⟩) 32 cB :: u5 0 :: u5 1 :: u5 2 :: u5 3 :: u5 4 :: u6a 2 :: u6a 0 :: u6a 1 :: u6a 3 :: u6a 4 :: u 0 :: u 1 :: undef :: undef :: undef :: undef :: undef :: undef :: undef :: undef :: undef :: undef :: undef :: undef :: undef :: undef :: undef :: undef :: undef :: undef :: undef :: undef :: undef :: undef :: undef :: undef :: undef :: undef :: undef :: undef :: undef :: undef :: undef :: undef :: undef :: undef :: undef :: undef :: undef :: []).toArray) (Holds [.oth (fun v => v = .int .i64 2), .oth (fun v => v = .bool true)] W6a) (Keep [.oth (fun v => v = .int .i64 2), .oth (fun v => v = .bool true)] W6a) (fun _ => undef) ?_ (by rfl) Keep.start (holds_soft (by kernel_rfl)) ?_ ?_
    · intro u i v h
      rcases i with _ | _ | i
      all_goals first | (simp [Act.put, putV]; done) | (exfalso; simp at h; omega)
    · intro hs
      refine ⟨?_, ?_, trivial⟩
      · exact step_pureO hs (wants_none rfl) rfl fun L u W hG hdep => ⟨_, run_move rfl, HC6.out⟩
      · refine step_pureO hs (wants_none rfl) rfl fun L u W hG hdep => ⟨_, ?_, rfl⟩
        have e0 := (show u 0 = .int .i64 2 from hG 0 (hdep 0 (by kernel_rfl)))
        go_simp
        try simp [bne]
    intro L7 u7a W7a hall hJ hG
    have hb := hJ.all rfl
    have hbel := Below.call hbel hb
    have hm5 := hm5.later hb
    have ht2 := there_later ht2 hb
    have ht5 := there_later ht5 hb
    have HKB := Lib.hid (HKB.out.below' hb)
    have HC32 := Lib.hid (show u7a 1 = .bool true from hG 1 (by simp))
    have hbel0 := hbel
    clear hJ hG hall hb
    have hx : u7a 1 = .bool true := HC32.out
    go_wp2_with fail
    rw [hx]
    clear hx
    go_upto_region 8 with fail
    refine wp_region_turn (fun u => (.slice (some ⟨gB, 0, none⟩) 32 cB :: undef :: u0 0 :: u 2 :: u3 5 :: u6a 5 :: u6a 7 :: undef :: undef :: undef :: u1 0 :: u1 1 :: .bool false :: undef :: u3 0 :: u3 1 :: u3 2 :: u3 3 :: u3 4 :: .slice (some ⟨bb, q, none⟩) 32 cap :: .slice (some ⟨gB, 0, none⟩) 32 cB :: u5 0 :: u5 1 :: u5 2 :: u5 3 :: u5 4 :: u6a 2 :: u6a 0 :: u6a 1 :: u6a 3 :: u6a 4 :: u7a 0 :: .bool true :: u 0 :: undef :: undef :: undef :: undef :: undef :: undef :: undef :: undef :: undef :: undef :: undef :: undef :: undef :: undef :: undef :: undef :: undef :: undef :: undef :: undef :: undef :: undef :: undef :: undef :: undef :: undef :: undef :: undef :: undef :: undef :: undef :: undef :: undef :: undef :: undef :: undef :: []).toArray) (Holds [.val rP [Cp.zero], .sto q2 rP [Cp.zero], .oth (fun v => v = .int .i64 12)] W7a) (Keep [.val rP [Cp.zero], .sto q2 rP [Cp.zero], .oth (fun v => v = .int .i64 12)] W7a) (fun k => ((undef :: undef :: u0 1 :: []) : List Value).getD k undef) ?_ (by rfl) Keep.start (holds_soft (by kernel_rfl)) ?_ ?_
    · intro u i v h
      rcases i with _ | _ | _ | i
      all_goals first | (simp [Act.put, putV]; done) | (exfalso; simp at h; omega)
    · intro hs
      refine ⟨?_, ?_, ?_, trivial⟩
      · exact step_pure hs (wants_none rfl) rfl fun L u W hG hdep => run_build0 rfl (build_P0 W)
      · refine step_storeO q2 20 hs (wants_none rfl) rfl rfl (by kernel_rfl) (fun k hk => ?_) (fun _ => E2.out) (there_lt ht2 (by omega)) ht2 (gives_op 0 rfl (by kernel_rfl) (fun _ => rfl)) tyP rfl
        rcases k with _ | _ | _ | k
        all_goals first | (exact absurd rfl hk) | (intro e; cases e; done)
      · exact step_pureO hs (wants_none rfl) rfl fun L u W hG hdep => ⟨_, run_assign rfl, rfl⟩
    intro L8 u8a W8a hall hJ hG
    have hb : Below w.heap.size W7a W8a := hJ.below (by have := hbel.size; omega) (fun k b hf => by rcases k with _ | _ | _ | k <;> first | (cases hf; done) | (cases hf; omega))
    have hbel := hbel.trans hb
    have hm5 := hm5.blk (hJ.block _ (hm5.lt) (fun k hk => by rcases k with _ | _ | _ | k <;> first | (cases hk; done) | (cases hk; exact absurd rfl HD5_q2.out)))
    have ht5 := there_blk ht5 (hJ.block _ (there_lt ht5 (by omega)) (fun k hk => by rcases k with _ | _ | _ | k <;> first | (cases hk; done) | (cases hk; exact absurd rfl HD5_q2.out)))
    have HKB := Lib.hid (blk_keep HKB.out (hJ.block _ (HKB.out.lt) (fun k hk => by rcases k with _ | _ | _ | k <;> first | (cases hk; done) | (cases hk; exact absurd rfl HE_q2.out))))
    obtain ⟨_, hs8_1t, hs8_1⟩ := (show _ ∧ W8a.there q2 0 20 ∧ HasFs rP W8a q2 0 [Cp.zero] from hG 1 (by simp))
    have HC3 := Lib.hid (show u8a 2 = .int .i64 12 from hG 2 (by simp))
    have hbel0 := hbel
    clear hJ hG hall hb
    go_wp2
    exact ret_cell_slot (R := rP) Try.results10 (by exact E2.out) (by exact HC3.out) hs8_1 tyP rfl (fun r hr => ⟨r, by rw [(dec_big HLW.out).2], by rw [(dec_big HLW.out).1]; exact hr, hbel⟩)
  · have HLW := Lib.hid hlow; clear hlow
    have HC2 := Lib.hid (stC_clr HL.out HLW.out)
    have HV0 := Lib.hid (stV_clr HL.out HLW.out)
    generalize clr l = K at *
    generalize hy : fn (lowN l) = y at *
    have HY := Lib.hid hy; clear hy
    go_upto_region 6 with fail
    refine wp_region_turn (fun u => (.slice (some ⟨gB, 0, none⟩) 32 cB :: undef :: u0 0 :: u0 1 :: u3 5 :: u 5 :: u 7 :: undef :: undef :: undef :: u1 0 :: u1 1 :: .bool false :: undef :: u3 0 :: u3 1 :: u3 2 :: u3 3 :: u3 4 :: .slice (some ⟨bb, q, none⟩) 32 cap :: .slice (some ⟨gB, 0, none⟩) 32 cB :: u5 0 :: u5 1 :: u5 2 :: u5 3 :: u5 4 :: u 2 :: u 0 :: u 1 :: u 3 :: u 4 :: undef :: undef :: undef :: undef :: undef :: undef :: undef :: undef :: undef :: undef :: undef :: undef :: undef :: undef :: undef :: undef :: undef :: undef :: undef :: undef :: undef :: undef :: undef :: undef :: undef :: undef :: undef :: undef :: undef :: undef :: undef :: undef :: undef :: undef :: undef :: undef :: undef :: undef :: undef :: []).toArray) (Holds [.oth (fun v => v = .slice (some ⟨gB, 0, none⟩) 32 cB), .oth (fun v => IsTV rE v [y] (.int .i64 0)), .oth (fun v => IsTV rE v [y] (.int .i64 0)), .val rE [y], .oth (fun v => v = .int .i64 0), .new 5, .st 5 rE [y], .oth (fun v => v = .int .i64 0)] W5) (Keep [.oth (fun v => v = .slice (some ⟨gB, 0, none⟩) 32 cB), .oth (fun v => IsTV rE v [y] (.int .i64 0)), .oth (fun v => IsTV rE v [y] (.int .i64 0)), .val rE [y], .oth (fun v => v = .int .i64 0), .new 5, .st 5 rE [y], .oth (fun v => v = .int .i64 0)] W5) (fun _ => undef) ?_ (by rfl) Keep.start (holds_soft (by kernel_rfl)) ?_ ?_
    · intro u i v h
      rcases i with _ | _ | _ | _ | _ | _ | _ | _ | i
      all_goals first | (simp [Act.put, putV]; done) | (exfalso; simp at h; omega)
    · intro hs
      refine ⟨?_, ?_, ?_, ?_, ?_, ?_, ?_, ?_, trivial⟩
      · exact step_pureO hs (wants_none rfl) rfl fun L u W hG hdep => ⟨_, run_move rfl, rfl⟩
      · refine step_callO hs (wants_none rfl) rfl fun L u W hJ hG hL hdep K hK => ?_
        have x0 := (show u 0 = .slice (some ⟨gB, 0, none⟩) 32 cB from hG 0 (hdep 0 (by kernel_rfl)))
        have hRB0 := (RdB.blk rB HKB.out HKL.out hcB hmB).below (hJ.all rfl)
        go_simp
        go_at_call 36
        (with_reducible refine (cStrict' HV0.out HC2.out hRB0).mono ?_); rintro e w1 ⟨r, rfl, hr, hb⟩
        have hk := hK.out _ _ ⟨r, rfl, hr⟩ hb
        simp only [x0] at hk
        exact hk
      · exact step_pureO hs (wants_none rfl) rfl fun L u W hG hdep => ⟨_, run_move rfl, (show IsTV rE (u 1) [y] (.int .i64 0) from hG 1 (hdep 1 (by kernel_rfl)))⟩
      · exact step_pure hs (wants_none rfl) rfl fun L u W hG hdep => run_extractV0 rfl (show IsTV rE (u 2) [y] (.int .i64 0) from hG 2 (hdep 2 (by kernel_rfl)))
      · exact step_pureO hs (wants_none rfl) rfl fun L u W hG hdep => run_extractV1 rfl (show IsTV rE (u 2) [y] (.int .i64 0) from hG 2 (hdep 2 (by kernel_rfl)))
      · exact step_alloc hs (wants_none rfl) rfl rfl (by omega) rfl allocE
      · exact step_store 5 hs (by kernel_rfl) (wants_none rfl) rfl rfl rfl (by kernel_rfl) (by kernel_rfl) (by kernel_rfl) (by kernel_rfl) (fun _ => rfl) (gives_op 3 rfl (by kernel_rfl) (fun _ => rfl)) tyE rfl
      · exact step_pureO hs (wants_none rfl) rfl fun L u W hG hdep => ⟨_, run_assign rfl, (show u 4 = .int .i64 0 from hG 4 (hdep 4 (by kernel_rfl)))⟩
    intro L6 u6b W6b hall hJ hG
    obtain ⟨q5, e5, hq5, _, ht5⟩ := (show ∃ g, u6b 5 = .pointer (some ⟨g, 0, none⟩) ∧ W5.heap.size ≤ g ∧ 0 < 5 ∧ W6b.there g 0 5 from hG 5 (by simp))
    have hm5 : HasFs rE W6b q5 0 [y] := by
      obtain ⟨g, e, _, h⟩ := (show ∃ g, u6b 5 = .pointer (some ⟨g, 0, none⟩) ∧ W5.heap.size ≤ g ∧ HasFs rE W6b g 0 [y] from hG 6 (by simp))
      rw [e5] at e; cases e; exact h
    have HD5_q2 := Lib.hid (show q2 ≠ q5 by have := there_lt ht2 (by omega); omega)
    have hq5 : w.heap.size ≤ q5 := by have := hbel0.size; omega
    have E5 := Lib.hid e5; clear e5
    have hb := hJ.all rfl
    have hbel := Below.call hbel hb
    have ht2 := there_later ht2 hb
    have HKB := Lib.hid (HKB.out.below' hb)
    have HC6 := Lib.hid (show u6b 7 = .int .i64 0 from hG 7 (by simp))
    have hbel0 := hbel
    clear hJ hG hall hb
    go_upto_region 7 with fail
    refine wp_region_turn (fun u => (.slice (some ⟨gB, 0, none⟩) 32 cB :: undef :: u0 0 :: u0 1 :: u3 5 :: u6b 5 :: u6b 7 :: undef :: undef :: undef :: u1 0 :: u1 1 :: .bool false :: undef :: u3 0 :: u3 1 :: u3 2 :: u3 3 :: u3 4 :: .slice (some ⟨bb, q, none⟩) 32 cap :: .slice (some ⟨gB, 0, none⟩) 32 cB :: u5 0 :: u5 1 :: u5 2 :: u5 3 :: u5 4 :: u6b 2 :: u6b 0 :: u6b 1 :: u6b 3 :: u6b 4 :: u 0 :: u 1 :: undef :: undef :: undef :: undef :: undef :: undef :: undef :: undef :: undef :: undef :: undef :: undef :: undef :: undef :: undef :: undef :: undef :: undef :: undef :: undef :: undef :: undef :: undef :: undef :: undef :: undef :: undef :: undef :: undef :: undef :: undef :: undef :: undef :: undef :: undef :: undef :: undef :: []).toArray) (Holds [.oth (fun v => v = .int .i64 0), .oth (fun v => v = .bool false)] W6b) (Keep [.oth (fun v => v = .int .i64 0), .oth (fun v => v = .bool false)] W6b) (fun _ => undef) ?_ (by rfl) Keep.start (holds_soft (by kernel_rfl)) ?_ ?_
    · intro u i v h
      rcases i with _ | _ | i
      all_goals first | (simp [Act.put, putV]; done) | (exfalso; simp at h; omega)
    · intro hs
      refine ⟨?_, ?_, trivial⟩
      · exact step_pureO hs (wants_none rfl) rfl fun L u W hG hdep => ⟨_, run_move rfl, HC6.out⟩
      · refine step_pureO hs (wants_none rfl) rfl fun L u W hG hdep => ⟨_, ?_, rfl⟩
        have e0 := (show u 0 = .int .i64 0 from hG 0 (hdep 0 (by kernel_rfl)))
        go_simp
        try simp [bne]
    intro L7 u7b W7b hall hJ hG
    have hb := hJ.all rfl
    have hbel := Below.call hbel hb
    have hm5 := hm5.later hb
    have ht2 := there_later ht2 hb
    have ht5 := there_later ht5 hb
    have HKB := Lib.hid (HKB.out.below' hb)
    have HC32 := Lib.hid (show u7b 1 = .bool false from hG 1 (by simp))
    have hbel0 := hbel
    clear hJ hG hall hb
    have hx : u7b 1 = .bool false := HC32.out
    go_wp2_with fail
    rw [hx]
    clear hx
    go_upto_region 9 with fail
    refine wp_region_mid (fun u => (.slice (some ⟨gB, 0, none⟩) 32 cB :: undef :: u0 0 :: u0 1 :: u3 5 :: u6b 5 :: u6b 7 :: u 4 :: u 5 :: undef :: u1 0 :: u1 1 :: .bool false :: undef :: u3 0 :: u3 1 :: u3 2 :: u3 3 :: u3 4 :: .slice (some ⟨bb, q, none⟩) 32 cap :: .slice (some ⟨gB, 0, none⟩) 32 cB :: u5 0 :: u5 1 :: u5 2 :: u5 3 :: u5 4 :: u6b 2 :: u6b 0 :: u6b 1 :: u6b 3 :: u6b 4 :: u7b 0 :: .bool false :: undef :: u 0 :: u 1 :: u 2 :: u 3 :: undef :: undef :: undef :: undef :: undef :: undef :: undef :: undef :: undef :: undef :: undef :: undef :: undef :: undef :: undef :: undef :: undef :: undef :: undef :: undef :: undef :: undef :: undef :: undef :: undef :: undef :: undef :: undef :: undef :: undef :: undef :: undef :: []).toArray) (Holds [.val rE [fn 1], .val rE [y], .val rE [y], .val rE [y * y], .new 5, .new 5, .st 4 rE [fn 1], .st 5 rE [y * y]] W7b) (Keep [.val rE [fn 1], .val rE [y], .val rE [y], .val rE [y * y], .new 5, .new 5, .st 4 rE [fn 1], .st 5 rE [y * y]] W7b) (fun _ => undef) (by kernel_rfl) (by kernel_rfl) ?_ (by rfl) Keep.drew (holds_soft (by kernel_rfl)) ?_ ?_
    · intro u i v h
      rcases i with _ | _ | _ | _ | _ | _ | _ | _ | i
      all_goals first | (simp [Act.put, putV]; done) | (exfalso; simp at h; omega)
    · intro hs
      refine ⟨?_, ?_, ?_, ?_, ?_, ?_, ?_, ?_, trivial⟩
      · refine step_call hs (wants_none rfl) rfl fun L u W hJ hG hL hdep K hK => ?_
        go_simp
        go_at_call 37
        (with_reducible refine (cSmallI (n := 1) (z := 1) rfl (by omega) _).mono ?_); rintro e w1 ⟨r, rfl, hr, hb⟩
        have hk := hK.out _ _ hr hb
        exact hk
      · exact step_load q5 0 hs (wants_none rfl) rfl rfl tyE (fun _ => E5.out) hm5.lt hm5 (noSto_apart (by kernel_rfl))
      · exact step_load q5 0 hs (wants_none rfl) rfl rfl tyE (fun _ => E5.out) hm5.lt hm5 (noSto_apart (by kernel_rfl))
      · refine step_call hs (wants_none rfl) rfl fun L u W hJ hG hL hdep K hK => ?_
        have a0 := (show IsFs rE (u 1) [y] from hG 1 (hdep 1 (by kernel_rfl)))
        have a1 := (show IsFs rE (u 2) [y] from hG 2 (hdep 2 (by kernel_rfl)))
        go_simp
        go_at_call 38
        (with_reducible refine (cMul a0 a1 _).mono ?_); rintro e w1 ⟨r, rfl, hr, hb⟩
        have hk := hK.out _ _ hr hb
        exact hk
      · exact step_alloc hs (wants_none rfl) rfl rfl (by omega) rfl allocE
      · exact step_alloc hs (wants_none rfl) rfl rfl (by omega) rfl allocE
      · exact step_store 4 hs (by kernel_rfl) (wants_none rfl) rfl rfl rfl (by kernel_rfl) (by kernel_rfl) (by kernel_rfl) (by kernel_rfl) (fun _ => rfl) (gives_op 0 rfl (by kernel_rfl) (fun _ => rfl)) tyE rfl
      · exact step_store 5 hs (by kernel_rfl) (wants_none rfl) rfl rfl rfl (by kernel_rfl) (by kernel_rfl) (by kernel_rfl) (by kernel_rfl) (fun _ => rfl) (gives_op 3 rfl (by kernel_rfl) (fun _ => rfl)) tyE rfl
    intro L9 u9b W9b hall hJ hG
    obtain ⟨q7, e7, hq7, _, ht7⟩ := (show ∃ g, u9b 4 = .pointer (some ⟨g, 0, none⟩) ∧ W7b.heap.size ≤ g ∧ 0 < 5 ∧ W9b.there g 0 5 from hG 4 (by simp))
    have hm7 : HasFs rE W9b q7 0 [fn 1] := by
      obtain ⟨g, e, _, h⟩ := (show ∃ g, u9b 4 = .pointer (some ⟨g, 0, none⟩) ∧ W7b.heap.size ≤ g ∧ HasFs rE W9b g 0 [fn 1] from hG 6 (by simp))
      rw [e7] at e; cases e; exact h
    have HD7_q2 := Lib.hid (show q2 ≠ q7 by have := there_lt ht2 (by omega); omega)
    have HD7_q5 := Lib.hid (show q5 ≠ q7 by have := there_lt ht5 (by omega); omega)
    have hq7 : w.heap.size ≤ q7 := by have := hbel0.size; omega
    have E7 := Lib.hid e7; clear e7
    obtain ⟨q8, e8, hq8, _, ht8⟩ := (show ∃ g, u9b 5 = .pointer (some ⟨g, 0, none⟩) ∧ W7b.heap.size ≤ g ∧ 0 < 5 ∧ W9b.there g 0 5 from hG 5 (by simp))
    have hm8 : HasFs rE W9b q8 0 [y * y] := by
      obtain ⟨g, e, _, h⟩ := (show ∃ g, u9b 5 = .pointer (some ⟨g, 0, none⟩) ∧ W7b.heap.size ≤ g ∧ HasFs rE W9b g 0 [y * y] from hG 7 (by simp))
      rw [e8] at e; cases e; exact h
    have HD8_q2 := Lib.hid (show q2 ≠ q8 by have := there_lt ht2 (by omega); omega)
    have HD8_q5 := Lib.hid (show q5 ≠ q8 by have := there_lt ht5 (by omega); omega)
    have hq8 : w.heap.size ≤ q8 := by have := hbel0.size; omega
    have E8 := Lib.hid e8; clear e8
    have hb := hJ.all rfl
    have hbel := Below.call hbel hb
    have hm5 := hm5.later hb
    have ht2 := there_later ht2 hb
    have ht5 := there_later ht5 hb
    have HKB := Lib.hid (HKB.out.below' hb)
    have HN7_8 := Lib.hid (show q7 ≠ q8 from fun e => hJ.apart 4 5 _ (by omega) (hall _ (by simp)) (hall _ (by simp)) rfl rfl (E7.out.trans (by rw [e])) E8.out)
    have hbel0 := hbel
    clear hJ hG hall hb
    obtain ⟨X, hX⟩ : ∃ X, rootV (xx y) = X := ⟨_, rfl⟩
    have HX := Lib.hid hX; clear hX
    by_cases hrc : rootC (xx y) = 0
    rotate_left
    · have HR7 := Lib.hid hrc; have HRC := Lib.hid (root_7 hrc); clear hrc
      go_upto_region 10 with fail
      refine wp_region_mid (fun u => (.slice (some ⟨gB, 0, none⟩) 32 cB :: undef :: u0 0 :: u0 1 :: u3 5 :: u6b 5 :: u 16 :: u9b 4 :: u9b 5 :: u 14 :: u1 0 :: u1 1 :: .bool false :: undef :: u3 0 :: u3 1 :: u3 2 :: u3 3 :: u3 4 :: .slice (some ⟨bb, q, none⟩) 32 cap :: .slice (some ⟨gB, 0, none⟩) 32 cB :: u5 0 :: u5 1 :: u5 2 :: u5 3 :: u5 4 :: u6b 2 :: u6b 0 :: u6b 1 :: u6b 3 :: u6b 4 :: u7b 0 :: .bool false :: undef :: u9b 0 :: u9b 1 :: u9b 2 :: u9b 3 :: u 11 :: u 0 :: u 1 :: u 2 :: u 3 :: u 4 :: u 5 :: u 6 :: u 7 :: u 8 :: u 9 :: u 10 :: u 12 :: u 13 :: undef :: undef :: undef :: undef :: undef :: undef :: undef :: undef :: undef :: undef :: undef :: undef :: undef :: undef :: undef :: undef :: undef :: undef :: []).toArray) (Holds [.val rE [y * y], .val rE [fn 1], .val rE [(y * y) - (fn 1)], .val rE [y * y], .val rE [dE], .val rE [(y * y) * dE], .val rE [fn 1], .val rE [((y * y) * dE) + (fn 1)], .val rE [finv (((y * y) * dE) + (fn 1))], .val rE [((y * y) - (fn 1)) * (finv (((y * y) * dE) + (fn 1)))], .oth (fun v => IsTV rE v [X] (.int .i64 7)), .oth (fun v => IsTV rE v [X] (.int .i64 7)), .val rE [X], .oth (fun v => v = .int .i64 7), .new 5, .st 14 rE [X], .oth (fun v => v = .int .i64 7)] W9b) (Keep [.val rE [y * y], .val rE [fn 1], .val rE [(y * y) - (fn 1)], .val rE [y * y], .val rE [dE], .val rE [(y * y) * dE], .val rE [fn 1], .val rE [((y * y) * dE) + (fn 1)], .val rE [finv (((y * y) * dE) + (fn 1))], .val rE [((y * y) - (fn 1)) * (finv (((y * y) * dE) + (fn 1)))], .oth (fun v => IsTV rE v [X] (.int .i64 7)), .oth (fun v => IsTV rE v [X] (.int .i64 7)), .val rE [X], .oth (fun v => v = .int .i64 7), .new 5, .st 14 rE [X], .oth (fun v => v = .int .i64 7)] W9b) (fun k => ((undef :: undef :: undef :: undef :: undef :: undef :: undef :: undef :: undef :: undef :: undef :: undef :: undef :: undef :: undef :: undef :: u6b 7 :: []) : List Value).getD k undef) (by kernel_rfl) (by kernel_rfl) ?_ (by rfl) Keep.drew (holds_soft (by kernel_rfl)) ?_ ?_
      · intro u i v h
        rcases i with _ | _ | _ | _ | _ | _ | _ | _ | _ | _ | _ | _ | _ | _ | _ | _ | _ | i
        all_goals first | (simp [Act.put, putV]; done) | (exfalso; simp at h; omega)
      · intro hs
        refine ⟨?_, ?_, ?_, ?_, ?_, ?_, ?_, ?_, ?_, ?_, ?_, ?_, ?_, ?_, ?_, ?_, ?_, trivial⟩
        · exact step_load q8 0 hs (wants_none rfl) rfl rfl tyE (fun _ => E8.out) hm8.lt hm8 (noSto_apart (by kernel_rfl))
        · exact step_load q7 0 hs (wants_none rfl) rfl rfl tyE (fun _ => E7.out) hm7.lt hm7 (noSto_apart (by kernel_rfl))
        · refine step_call hs (wants_none rfl) rfl fun L u W hJ hG hL hdep K hK => ?_
          have a0 := (show IsFs rE (u 0) [y * y] from hG 0 (hdep 0 (by kernel_rfl)))
          have a1 := (show IsFs rE (u 1) [fn 1] from hG 1 (hdep 1 (by kernel_rfl)))
          go_simp
          go_at_call 39
          (with_reducible refine (cSub a0 a1 _).mono ?_); rintro e w1 ⟨r, rfl, hr, hb⟩
          have hk := hK.out _ _ hr hb
          exact hk
        · exact step_load q8 0 hs (wants_none rfl) rfl rfl tyE (fun _ => E8.out) hm8.lt hm8 (noSto_apart (by kernel_rfl))
        · refine step_call hs (wants_none rfl) rfl fun L u W hJ hG hL hdep K hK => ?_
          go_simp
          go_at_call 40
          (with_reducible refine (cD _).mono ?_); rintro e w1 ⟨r, rfl, hr, hb⟩
          have hk := hK.out _ _ hr hb
          exact hk
        · refine step_call hs (wants_none rfl) rfl fun L u W hJ hG hL hdep K hK => ?_
          have a0 := (show IsFs rE (u 3) [y * y] from hG 3 (hdep 3 (by kernel_rfl)))
          have a1 := (show IsFs rE (u 4) [dE] from hG 4 (hdep 4 (by kernel_rfl)))
          go_simp
          go_at_call 38
          (with_reducible refine (cMul a0 a1 _).mono ?_); rintro e w1 ⟨r, rfl, hr, hb⟩
          have hk := hK.out _ _ hr hb
          exact hk
        · exact step_load q7 0 hs (wants_none rfl) rfl rfl tyE (fun _ => E7.out) hm7.lt hm7 (noSto_apart (by kernel_rfl))
        · refine step_call hs (wants_none rfl) rfl fun L u W hJ hG hL hdep K hK => ?_
          have a0 := (show IsFs rE (u 5) [(y * y) * dE] from hG 5 (hdep 5 (by kernel_rfl)))
          have a1 := (show IsFs rE (u 6) [fn 1] from hG 6 (hdep 6 (by kernel_rfl)))
          go_simp
          go_at_call 41
          (with_reducible refine (cAdd a0 a1 _).mono ?_); rintro e w1 ⟨r, rfl, hr, hb⟩
          have hk := hK.out _ _ hr hb
          exact hk
        · refine step_call hs (wants_none rfl) rfl fun L u W hJ hG hL hdep K hK => ?_
          have a0 := (show IsFs rE (u 7) [((y * y) * dE) + (fn 1)] from hG 7 (hdep 7 (by kernel_rfl)))
          go_simp
          go_at_call 42
          (with_reducible refine (cInv a0 _).mono ?_); rintro e w1 ⟨r, rfl, hr, hb⟩
          have hk := hK.out _ _ hr hb
          exact hk
        · refine step_call hs (wants_none rfl) rfl fun L u W hJ hG hL hdep K hK => ?_
          have a0 := (show IsFs rE (u 2) [(y * y) - (fn 1)] from hG 2 (hdep 2 (by kernel_rfl)))
          have a1 := (show IsFs rE (u 8) [finv (((y * y) * dE) + (fn 1))] from hG 8 (hdep 8 (by kernel_rfl)))
          go_simp
          go_at_call 38
          (with_reducible refine (cMul a0 a1 _).mono ?_); rintro e w1 ⟨r, rfl, hr, hb⟩
          have hk := hK.out _ _ hr hb
          exact hk
        · refine step_callO hs (wants_none rfl) rfl fun L u W hJ hG hL hdep K hK => ?_
          have a0 := xx_fs ((show IsFs rE (u 9) [((y * y) - (fn 1)) * (finv (((y * y) * dE) + (fn 1)))] from hG 9 (hdep 9 (by kernel_rfl))))
          go_simp
          go_at_call 43
          (with_reducible refine (cRootN HX.out HRC.out a0 _).mono ?_); rintro e w1 ⟨r, rfl, hr, hb⟩
          have hk := hK.out _ _ ⟨r, rfl, hr⟩ hb
          exact hk
        · exact step_pureO hs (wants_none rfl) rfl fun L u W hG hdep => ⟨_, run_move rfl, (show IsTV rE (u 10) [X] (.int .i64 7) from hG 10 (hdep 10 (by kernel_rfl)))⟩
        · exact step_pure hs (wants_none rfl) rfl fun L u W hG hdep => run_extractV0 rfl (show IsTV rE (u 11) [X] (.int .i64 7) from hG 11 (hdep 11 (by kernel_rfl)))
        · exact step_pureO hs (wants_none rfl) rfl fun L u W hG hdep => run_extractV1 rfl (show IsTV rE (u 11) [X] (.int .i64 7) from hG 11 (hdep 11 (by kernel_rfl)))
        · exact step_alloc hs (wants_none rfl) rfl rfl (by omega) rfl allocE
        · exact step_store 14 hs (by kernel_rfl) (wants_none rfl) rfl rfl rfl (by kernel_rfl) (by kernel_rfl) (by kernel_rfl) (by kernel_rfl) (fun _ => rfl) (gives_op 12 rfl (by kernel_rfl) (fun _ => rfl)) tyE rfl
        · exact step_pureO hs (wants_none rfl) rfl fun L u W hG hdep => ⟨_, run_assign rfl, (show u 13 = .int .i64 7 from hG 13 (hdep 13 (by kernel_rfl)))⟩
      intro L10 u10c W10c hall hJ hG
      obtain ⟨q9, e9, hq9, _, ht9⟩ := (show ∃ g, u10c 14 = .pointer (some ⟨g, 0, none⟩) ∧ W9b.heap.size ≤ g ∧ 0 < 5 ∧ W10c.there g 0 5 from hG 14 (by simp))
      have hm9 : HasFs rE W10c q9 0 [X] := by
        obtain ⟨g, e, _, h⟩ := (show ∃ g, u10c 14 = .pointer (some ⟨g, 0, none⟩) ∧ W9b.heap.size ≤ g ∧ HasFs rE W10c g 0 [X] from hG 15 (by simp))
        rw [e9] at e; cases e; exact h
      have HD9_q2 := Lib.hid (show q2 ≠ q9 by have := there_lt ht2 (by omega); omega)
      have HD9_q5 := Lib.hid (show q5 ≠ q9 by have := there_lt ht5 (by omega); omega)
      have HD9_q7 := Lib.hid (show q7 ≠ q9 by have := there_lt ht7 (by omega); omega)
      have HD9_q8 := Lib.hid (show q8 ≠ q9 by have := there_lt ht8 (by omega); omega)
      have hq9 : w.heap.size ≤ q9 := by have := hbel0.size; omega
      have E9 := Lib.hid e9; clear e9
      have hb := hJ.all rfl
      have hbel := Below.call hbel hb
      have hm5 := hm5.later hb
      have hm7 := hm7.later hb
      have hm8 := hm8.later hb
      have ht2 := there_later ht2 hb
      have ht5 := there_later ht5 hb
      have ht7 := there_later ht7 hb
      have ht8 := there_later ht8 hb
      have HKB := Lib.hid (HKB.out.below' hb)
      have HC6 := Lib.hid (show u10c 16 = .int .i64 7 from hG 16 (by simp))
      have hbel0 := hbel
      clear hJ hG hall hb
      go_upto_region 11 with fail
      refine wp_region_turn (fun u => (.slice (some ⟨gB, 0, none⟩) 32 cB :: undef :: u0 0 :: u0 1 :: u3 5 :: u6b 5 :: u10c 16 :: u9b 4 :: u9b 5 :: u10c 14 :: u1 0 :: u1 1 :: .bool false :: undef :: u3 0 :: u3 1 :: u3 2 :: u3 3 :: u3 4 :: .slice (some ⟨bb, q, none⟩) 32 cap :: .slice (some ⟨gB, 0, none⟩) 32 cB :: u5 0 :: u5 1 :: u5 2 :: u5 3 :: u5 4 :: u6b 2 :: u6b 0 :: u6b 1 :: u6b 3 :: u6b 4 :: u7b 0 :: .bool false :: undef :: u9b 0 :: u9b 1 :: u9b 2 :: u9b 3 :: u10c 11 :: u10c 0 :: u10c 1 :: u10c 2 :: u10c 3 :: u10c 4 :: u10c 5 :: u10c 6 :: u10c 7 :: u10c 8 :: u10c 9 :: u10c 10 :: u10c 12 :: u10c 13 :: u 0 :: u 1 :: u 2 :: u 3 :: u 4 :: u 5 :: u 6 :: u 7 :: u 8 :: u 9 :: undef :: undef :: undef :: undef :: undef :: undef :: undef :: undef :: []).toArray) (Holds [.oth (fun v => v = .int .i64 7), .oth (fun v => v = .bool true), .oth (fun v => v = .bool true), .oth (fun v => v = undef), .oth (fun v => v = undef), .oth (fun v => v = undef), .oth (fun v => v = undef), .oth (fun v => v = undef), .oth (fun v => v = undef), .oth (fun v => v = .bool true)] W10c) (Keep [.oth (fun v => v = .int .i64 7), .oth (fun v => v = .bool true), .oth (fun v => v = .bool true), .oth (fun v => v = undef), .oth (fun v => v = undef), .oth (fun v => v = undef), .oth (fun v => v = undef), .oth (fun v => v = undef), .oth (fun v => v = undef), .oth (fun v => v = .bool true)] W10c) (fun _ => undef) ?_ (by rfl) Keep.start (holds_soft (by kernel_rfl)) ?_ ?_
      · intro u i v h
        rcases i with _ | _ | _ | _ | _ | _ | _ | _ | _ | _ | i
        all_goals first | (simp [Act.put, putV]; done) | (exfalso; simp at h; omega)
      · intro hs
        refine ⟨?_, ?_, ?_, ?_, ?_, ?_, ?_, ?_, ?_, ?_, trivial⟩
        · exact step_pureO hs (wants_none rfl) rfl fun L u W hG hdep => ⟨_, run_move rfl, HC6.out⟩
        · refine step_pureO hs (wants_none rfl) rfl fun L u W hG hdep => ⟨_, ?_, rfl⟩
          have e0 := (show u 0 = .int .i64 7 from hG 0 (hdep 0 (by kernel_rfl)))
          go_simp
          try simp [bne]
        · exact step_pureO hs (wants_none rfl) rfl fun L u W hG hdep => ⟨_, run_move rfl, (show u 1 = .bool true from hG 1 (hdep 1 (by kernel_rfl)))⟩
        · exact step_outU hs (wants_off 2 rfl rfl rfl (by kernel_rfl) (fun _ => rfl)) rfl
        · exact step_outU hs (wants_off 2 rfl rfl rfl (by kernel_rfl) (fun _ => rfl)) rfl
        · exact step_outU hs (wants_offU 4 rfl rfl (by kernel_rfl) (fun _ => rfl)) rfl
        · exact step_outU hs (wants_offU 4 rfl rfl (by kernel_rfl) (fun _ => rfl)) rfl
        · exact step_outU hs (wants_offU 4 rfl rfl (by kernel_rfl) (fun _ => rfl)) rfl
        · exact step_outU hs (wants_off 2 rfl rfl rfl (by kernel_rfl) (fun _ => rfl)) rfl
        · exact step_pick true hs (wants_none rfl) rfl rfl (fun L u W hG hdep => (show u 2 = .bool true from hG 2 (hdep 2 (by kernel_rfl)))) (fun L u W hG hdep => rfl)
      intro L11 u11c W11c hall hJ hG
      have hb := hJ.all rfl
      have hbel := Below.call hbel hb
      have hm5 := hm5.later hb
      have hm7 := hm7.later hb
      have hm8 := hm8.later hb
      have hm9 := hm9.later hb
      have ht2 := there_later ht2 hb
      have ht5 := there_later ht5 hb
      have ht7 := there_later ht7 hb
      have ht8 := there_later ht8 hb
      have ht9 := there_later ht9 hb
      have HKB := Lib.hid (HKB.out.below' hb)
      have HC53 := Lib.hid (show u11c 1 = .bool true from hG 1 (by simp))
      have HC54 := Lib.hid (show u11c 2 = .bool true from hG 2 (by simp))
      have HC61 := Lib.hid (show u11c 9 = .bool true from hG 9 (by simp))
      have hbel0 := hbel
      clear hJ hG hall hb
      have hx : u11c 9 = .bool true := HC61.out
      go_wp2_with fail
      rw [hx]
      clear hx
      go_upto_region 12 with fail
      refine wp_region_turn (fun u => (.slice (some ⟨gB, 0, none⟩) 32 cB :: undef :: u0 0 :: u 2 :: u3 5 :: u6b 5 :: u10c 16 :: u9b 4 :: u9b 5 :: u10c 14 :: u1 0 :: u1 1 :: .bool false :: undef :: u3 0 :: u3 1 :: u3 2 :: u3 3 :: u3 4 :: .slice (some ⟨bb, q, none⟩) 32 cap :: .slice (some ⟨gB, 0, none⟩) 32 cB :: u5 0 :: u5 1 :: u5 2 :: u5 3 :: u5 4 :: u6b 2 :: u6b 0 :: u6b 1 :: u6b 3 :: u6b 4 :: u7b 0 :: .bool false :: undef :: u9b 0 :: u9b 1 :: u9b 2 :: u9b 3 :: u10c 11 :: u10c 0 :: u10c 1 :: u10c 2 :: u10c 3 :: u10c 4 :: u10c 5 :: u10c 6 :: u10c 7 :: u10c 8 :: u10c 9 :: u10c 10 :: u10c 12 :: u10c 13 :: u11c 0 :: u11c 1 :: u11c 2 :: u11c 3 :: u11c 4 :: u11c 5 :: u11c 6 :: u11c 7 :: u11c 8 :: .bool true :: u 0 :: undef :: undef :: undef :: undef :: undef :: undef :: undef :: []).toArray) (Holds [.val rP [Cp.zero], .sto q2 rP [Cp.zero], .oth (fun v => v = .int .i64 12)] W11c) (Keep [.val rP [Cp.zero], .sto q2 rP [Cp.zero], .oth (fun v => v = .int .i64 12)] W11c) (fun k => ((undef :: undef :: u0 1 :: []) : List Value).getD k undef) ?_ (by rfl) Keep.start (holds_soft (by kernel_rfl)) ?_ ?_
      · intro u i v h
        rcases i with _ | _ | _ | i
        all_goals first | (simp [Act.put, putV]; done) | (exfalso; simp at h; omega)
      · intro hs
        refine ⟨?_, ?_, ?_, trivial⟩
        · exact step_pure hs (wants_none rfl) rfl fun L u W hG hdep => run_build0 rfl (build_P0 W)
        · refine step_storeO q2 20 hs (wants_none rfl) rfl rfl (by kernel_rfl) (fun k hk => ?_) (fun _ => E2.out) (there_lt ht2 (by omega)) ht2 (gives_op 0 rfl (by kernel_rfl) (fun _ => rfl)) tyP rfl
          rcases k with _ | _ | _ | k
          all_goals first | (exact absurd rfl hk) | (intro e; cases e; done)
        · exact step_pureO hs (wants_none rfl) rfl fun L u W hG hdep => ⟨_, run_assign rfl, rfl⟩
      intro L12 u12c W12c hall hJ hG
      have hb : Below w.heap.size W11c W12c := hJ.below (by have := hbel.size; omega) (fun k b hf => by rcases k with _ | _ | _ | k <;> first | (cases hf; done) | (cases hf; omega))
      have hbel := hbel.trans hb
      have hm5 := hm5.blk (hJ.block _ (hm5.lt) (fun k hk => by rcases k with _ | _ | _ | k <;> first | (cases hk; done) | (cases hk; exact absurd rfl HD5_q2.out)))
      have hm7 := hm7.blk (hJ.block _ (hm7.lt) (fun k hk => by rcases k with _ | _ | _ | k <;> first | (cases hk; done) | (cases hk; exact absurd rfl HD7_q2.out)))
      have hm8 := hm8.blk (hJ.block _ (hm8.lt) (fun k hk => by rcases k with _ | _ | _ | k <;> first | (cases hk; done) | (cases hk; exact absurd rfl HD8_q2.out)))
      have hm9 := hm9.blk (hJ.block _ (hm9.lt) (fun k hk => by rcases k with _ | _ | _ | k <;> first | (cases hk; done) | (cases hk; exact absurd rfl HD9_q2.out)))
      have ht5 := there_blk ht5 (hJ.block _ (there_lt ht5 (by omega)) (fun k hk => by rcases k with _ | _ | _ | k <;> first | (cases hk; done) | (cases hk; exact absurd rfl HD5_q2.out)))
      have ht7 := there_blk ht7 (hJ.block _ (there_lt ht7 (by omega)) (fun k hk => by rcases k with _ | _ | _ | k <;> first | (cases hk; done) | (cases hk; exact absurd rfl HD7_q2.out)))
      have ht8 := there_blk ht8 (hJ.block _ (there_lt ht8 (by omega)) (fun k hk => by rcases k with _ | _ | _ | k <;> first | (cases hk; done) | (cases hk; exact absurd rfl HD8_q2.out)))
      have ht9 := there_blk ht9 (hJ.block _ (there_lt ht9 (by omega)) (fun k hk => by rcases k with _ | _ | _ | k <;> first | (cases hk; done) | (cases hk; exact absurd rfl HD9_q2.out)))
      have HKB := Lib.hid (blk_keep HKB.out (hJ.block _ (HKB.out.lt) (fun k hk => by rcases k with _ | _ | _ | k <;> first | (cases hk; done) | (cases hk; exact absurd rfl HE_q2.out))))
      obtain ⟨_, hs12_1t, hs12_1⟩ := (show _ ∧ W12c.there q2 0 20 ∧ HasFs rP W12c q2 0 [Cp.zero] from hG 1 (by simp))
      have HC3 := Lib.hid (show u12c 2 = .int .i64 12 from hG 2 (by simp))
      have hbel0 := hbel
      clear hJ hG hall hb
      go_wp2
      exact ret_cell_slot (R := rP) Try.results10 (by exact E2.out) (by exact HC3.out) hs12_1 tyP rfl (fun r hr => ⟨r, by rw [(dec_root HL.out HLW.out HY.out HR7.out).2], by rw [(dec_root HL.out HLW.out HY.out HR7.out).1]; exact hr, hbel⟩)
    · have HRC := Lib.hid hrc; clear hrc
      go_upto_region 10 with fail
      refine wp_region_mid (fun u => (.slice (some ⟨gB, 0, none⟩) 32 cB :: undef :: u0 0 :: u0 1 :: u3 5 :: u6b 5 :: u 16 :: u9b 4 :: u9b 5 :: u 14 :: u1 0 :: u1 1 :: .bool false :: undef :: u3 0 :: u3 1 :: u3 2 :: u3 3 :: u3 4 :: .slice (some ⟨bb, q, none⟩) 32 cap :: .slice (some ⟨gB, 0, none⟩) 32 cB :: u5 0 :: u5 1 :: u5 2 :: u5 3 :: u5 4 :: u6b 2 :: u6b 0 :: u6b 1 :: u6b 3 :: u6b 4 :: u7b 0 :: .bool false :: undef :: u9b 0 :: u9b 1 :: u9b 2 :: u9b 3 :: u 11 :: u 0 :: u 1 :: u 2 :: u 3 :: u 4 :: u 5 :: u 6 :: u 7 :: u 8 :: u 9 :: u 10 :: u 12 :: u 13 :: undef :: undef :: undef :: undef :: undef :: undef :: undef :: undef :: undef :: undef :: undef :: undef :: undef :: undef :: undef :: undef :: undef :: undef :: []).toArray) (Holds [.val rE [y * y], .val rE [fn 1], .val rE [(y * y) - (fn 1)], .val rE [y * y], .val rE [dE], .val rE [(y * y) * dE], .val rE [fn 1], .val rE [((y * y) * dE) + (fn 1)], .val rE [finv (((y * y) * dE) + (fn 1))], .val rE [((y * y) - (fn 1)) * (finv (((y * y) * dE) + (fn 1)))], .oth (fun v => IsTV rE v [X] (.int .i64 0)), .oth (fun v => IsTV rE v [X] (.int .i64 0)), .val rE [X], .oth (fun v => v = .int .i64 0), .new 5, .st 14 rE [X], .oth (fun v => v = .int .i64 0)] W9b) (Keep [.val rE [y * y], .val rE [fn 1], .val rE [(y * y) - (fn 1)], .val rE [y * y], .val rE [dE], .val rE [(y * y) * dE], .val rE [fn 1], .val rE [((y * y) * dE) + (fn 1)], .val rE [finv (((y * y) * dE) + (fn 1))], .val rE [((y * y) - (fn 1)) * (finv (((y * y) * dE) + (fn 1)))], .oth (fun v => IsTV rE v [X] (.int .i64 0)), .oth (fun v => IsTV rE v [X] (.int .i64 0)), .val rE [X], .oth (fun v => v = .int .i64 0), .new 5, .st 14 rE [X], .oth (fun v => v = .int .i64 0)] W9b) (fun k => ((undef :: undef :: undef :: undef :: undef :: undef :: undef :: undef :: undef :: undef :: undef :: undef :: undef :: undef :: undef :: undef :: u6b 7 :: []) : List Value).getD k undef) (by kernel_rfl) (by kernel_rfl) ?_ (by rfl) Keep.drew (holds_soft (by kernel_rfl)) ?_ ?_
      · intro u i v h
        rcases i with _ | _ | _ | _ | _ | _ | _ | _ | _ | _ | _ | _ | _ | _ | _ | _ | _ | i
        all_goals first | (simp [Act.put, putV]; done) | (exfalso; simp at h; omega)
      · intro hs
        refine ⟨?_, ?_, ?_, ?_, ?_, ?_, ?_, ?_, ?_, ?_, ?_, ?_, ?_, ?_, ?_, ?_, ?_, trivial⟩
        · exact step_load q8 0 hs (wants_none rfl) rfl rfl tyE (fun _ => E8.out) hm8.lt hm8 (noSto_apart (by kernel_rfl))
        · exact step_load q7 0 hs (wants_none rfl) rfl rfl tyE (fun _ => E7.out) hm7.lt hm7 (noSto_apart (by kernel_rfl))
        · refine step_call hs (wants_none rfl) rfl fun L u W hJ hG hL hdep K hK => ?_
          have a0 := (show IsFs rE (u 0) [y * y] from hG 0 (hdep 0 (by kernel_rfl)))
          have a1 := (show IsFs rE (u 1) [fn 1] from hG 1 (hdep 1 (by kernel_rfl)))
          go_simp
          go_at_call 39
          (with_reducible refine (cSub a0 a1 _).mono ?_); rintro e w1 ⟨r, rfl, hr, hb⟩
          have hk := hK.out _ _ hr hb
          exact hk
        · exact step_load q8 0 hs (wants_none rfl) rfl rfl tyE (fun _ => E8.out) hm8.lt hm8 (noSto_apart (by kernel_rfl))
        · refine step_call hs (wants_none rfl) rfl fun L u W hJ hG hL hdep K hK => ?_
          go_simp
          go_at_call 40
          (with_reducible refine (cD _).mono ?_); rintro e w1 ⟨r, rfl, hr, hb⟩
          have hk := hK.out _ _ hr hb
          exact hk
        · refine step_call hs (wants_none rfl) rfl fun L u W hJ hG hL hdep K hK => ?_
          have a0 := (show IsFs rE (u 3) [y * y] from hG 3 (hdep 3 (by kernel_rfl)))
          have a1 := (show IsFs rE (u 4) [dE] from hG 4 (hdep 4 (by kernel_rfl)))
          go_simp
          go_at_call 38
          (with_reducible refine (cMul a0 a1 _).mono ?_); rintro e w1 ⟨r, rfl, hr, hb⟩
          have hk := hK.out _ _ hr hb
          exact hk
        · exact step_load q7 0 hs (wants_none rfl) rfl rfl tyE (fun _ => E7.out) hm7.lt hm7 (noSto_apart (by kernel_rfl))
        · refine step_call hs (wants_none rfl) rfl fun L u W hJ hG hL hdep K hK => ?_
          have a0 := (show IsFs rE (u 5) [(y * y) * dE] from hG 5 (hdep 5 (by kernel_rfl)))
          have a1 := (show IsFs rE (u 6) [fn 1] from hG 6 (hdep 6 (by kernel_rfl)))
          go_simp
          go_at_call 41
          (with_reducible refine (cAdd a0 a1 _).mono ?_); rintro e w1 ⟨r, rfl, hr, hb⟩
          have hk := hK.out _ _ hr hb
          exact hk
        · refine step_call hs (wants_none rfl) rfl fun L u W hJ hG hL hdep K hK => ?_
          have a0 := (show IsFs rE (u 7) [((y * y) * dE) + (fn 1)] from hG 7 (hdep 7 (by kernel_rfl)))
          go_simp
          go_at_call 42
          (with_reducible refine (cInv a0 _).mono ?_); rintro e w1 ⟨r, rfl, hr, hb⟩
          have hk := hK.out _ _ hr hb
          exact hk
        · refine step_call hs (wants_none rfl) rfl fun L u W hJ hG hL hdep K hK => ?_
          have a0 := (show IsFs rE (u 2) [(y * y) - (fn 1)] from hG 2 (hdep 2 (by kernel_rfl)))
          have a1 := (show IsFs rE (u 8) [finv (((y * y) * dE) + (fn 1))] from hG 8 (hdep 8 (by kernel_rfl)))
          go_simp
          go_at_call 38
          (with_reducible refine (cMul a0 a1 _).mono ?_); rintro e w1 ⟨r, rfl, hr, hb⟩
          have hk := hK.out _ _ hr hb
          exact hk
        · refine step_callO hs (wants_none rfl) rfl fun L u W hJ hG hL hdep K hK => ?_
          have a0 := xx_fs ((show IsFs rE (u 9) [((y * y) - (fn 1)) * (finv (((y * y) * dE) + (fn 1)))] from hG 9 (hdep 9 (by kernel_rfl))))
          go_simp
          go_at_call 43
          (with_reducible refine (cRootN HX.out HRC.out a0 _).mono ?_); rintro e w1 ⟨r, rfl, hr, hb⟩
          have hk := hK.out _ _ ⟨r, rfl, hr⟩ hb
          exact hk
        · exact step_pureO hs (wants_none rfl) rfl fun L u W hG hdep => ⟨_, run_move rfl, (show IsTV rE (u 10) [X] (.int .i64 0) from hG 10 (hdep 10 (by kernel_rfl)))⟩
        · exact step_pure hs (wants_none rfl) rfl fun L u W hG hdep => run_extractV0 rfl (show IsTV rE (u 11) [X] (.int .i64 0) from hG 11 (hdep 11 (by kernel_rfl)))
        · exact step_pureO hs (wants_none rfl) rfl fun L u W hG hdep => run_extractV1 rfl (show IsTV rE (u 11) [X] (.int .i64 0) from hG 11 (hdep 11 (by kernel_rfl)))
        · exact step_alloc hs (wants_none rfl) rfl rfl (by omega) rfl allocE
        · exact step_store 14 hs (by kernel_rfl) (wants_none rfl) rfl rfl rfl (by kernel_rfl) (by kernel_rfl) (by kernel_rfl) (by kernel_rfl) (fun _ => rfl) (gives_op 12 rfl (by kernel_rfl) (fun _ => rfl)) tyE rfl
        · exact step_pureO hs (wants_none rfl) rfl fun L u W hG hdep => ⟨_, run_assign rfl, (show u 13 = .int .i64 0 from hG 13 (hdep 13 (by kernel_rfl)))⟩
      intro L10 u10d W10d hall hJ hG
      obtain ⟨q9, e9, hq9, _, ht9⟩ := (show ∃ g, u10d 14 = .pointer (some ⟨g, 0, none⟩) ∧ W9b.heap.size ≤ g ∧ 0 < 5 ∧ W10d.there g 0 5 from hG 14 (by simp))
      have hm9 : HasFs rE W10d q9 0 [X] := by
        obtain ⟨g, e, _, h⟩ := (show ∃ g, u10d 14 = .pointer (some ⟨g, 0, none⟩) ∧ W9b.heap.size ≤ g ∧ HasFs rE W10d g 0 [X] from hG 15 (by simp))
        rw [e9] at e; cases e; exact h
      have HD9_q2 := Lib.hid (show q2 ≠ q9 by have := there_lt ht2 (by omega); omega)
      have HD9_q5 := Lib.hid (show q5 ≠ q9 by have := there_lt ht5 (by omega); omega)
      have HD9_q7 := Lib.hid (show q7 ≠ q9 by have := there_lt ht7 (by omega); omega)
      have HD9_q8 := Lib.hid (show q8 ≠ q9 by have := there_lt ht8 (by omega); omega)
      have hq9 : w.heap.size ≤ q9 := by have := hbel0.size; omega
      have E9 := Lib.hid e9; clear e9
      have hb := hJ.all rfl
      have hbel := Below.call hbel hb
      have hm5 := hm5.later hb
      have hm7 := hm7.later hb
      have hm8 := hm8.later hb
      have ht2 := there_later ht2 hb
      have ht5 := there_later ht5 hb
      have ht7 := there_later ht7 hb
      have ht8 := there_later ht8 hb
      have HKB := Lib.hid (HKB.out.below' hb)
      have HC6 := Lib.hid (show u10d 16 = .int .i64 0 from hG 16 (by simp))
      have hbel0 := hbel
      clear hJ hG hall hb
      cases o
      · skip
        go_upto_region 11 with fail
        refine wp_region_turn (fun u => (.slice (some ⟨gB, 0, none⟩) 32 cB :: undef :: u0 0 :: u0 1 :: u3 5 :: u6b 5 :: u10d 16 :: u9b 4 :: u9b 5 :: u10d 14 :: u1 0 :: u1 1 :: .bool false :: undef :: u3 0 :: u3 1 :: u3 2 :: u3 3 :: u3 4 :: .slice (some ⟨bb, q, none⟩) 32 cap :: .slice (some ⟨gB, 0, none⟩) 32 cB :: u5 0 :: u5 1 :: u5 2 :: u5 3 :: u5 4 :: u6b 2 :: u6b 0 :: u6b 1 :: u6b 3 :: u6b 4 :: u7b 0 :: .bool false :: undef :: u9b 0 :: u9b 1 :: u9b 2 :: u9b 3 :: u10d 11 :: u10d 0 :: u10d 1 :: u10d 2 :: u10d 3 :: u10d 4 :: u10d 5 :: u10d 6 :: u10d 7 :: u10d 8 :: u10d 9 :: u10d 10 :: u10d 12 :: u10d 13 :: u 0 :: u 1 :: u 2 :: u 3 :: u 4 :: u 5 :: u 6 :: u 7 :: u 8 :: u 9 :: undef :: undef :: undef :: undef :: undef :: undef :: undef :: undef :: []).toArray) (Holds [.oth (fun v => v = .int .i64 0), .oth (fun v => v = .bool false), .oth (fun v => v = .bool false), .oth (fun v => v = .bool false), .oth (fun v => v = .bool false), .oth (fun v => v = undef), .oth (fun v => v = undef), .oth (fun v => v = undef), .oth (fun v => v = .bool false), .oth (fun v => v = .bool false)] W10d) (Keep [.oth (fun v => v = .int .i64 0), .oth (fun v => v = .bool false), .oth (fun v => v = .bool false), .oth (fun v => v = .bool false), .oth (fun v => v = .bool false), .oth (fun v => v = undef), .oth (fun v => v = undef), .oth (fun v => v = undef), .oth (fun v => v = .bool false), .oth (fun v => v = .bool false)] W10d) (fun _ => undef) ?_ (by rfl) Keep.start (holds_soft (by kernel_rfl)) ?_ ?_
        · intro u i v h
          rcases i with _ | _ | _ | _ | _ | _ | _ | _ | _ | _ | i
          all_goals first | (simp [Act.put, putV]; done) | (exfalso; simp at h; omega)
        · intro hs
          refine ⟨?_, ?_, ?_, ?_, ?_, ?_, ?_, ?_, ?_, ?_, trivial⟩
          · exact step_pureO hs (wants_none rfl) rfl fun L u W hG hdep => ⟨_, run_move rfl, HC6.out⟩
          · refine step_pureO hs (wants_none rfl) rfl fun L u W hG hdep => ⟨_, ?_, rfl⟩
            have e0 := (show u 0 = .int .i64 0 from hG 0 (hdep 0 (by kernel_rfl)))
            go_simp
            try simp [bne]
          · exact step_pureO hs (wants_none rfl) rfl fun L u W hG hdep => ⟨_, run_move rfl, (show u 1 = .bool false from hG 1 (hdep 1 (by kernel_rfl)))⟩
          · exact step_pureO hs (wants_on 2 rfl rfl (by kernel_rfl) (fun _ => rfl)) rfl fun L u W hG hdep => ⟨_, run_move rfl, HC4.out⟩
          · exact step_pureO hs (wants_on 2 rfl rfl (by kernel_rfl) (fun _ => rfl)) rfl fun L u W hG hdep => ⟨_, run_move rfl, (show u 3 = .bool false from hG 3 (hdep 3 (by kernel_rfl)))⟩
          · exact step_outU hs (wants_off 4 rfl rfl rfl (by kernel_rfl) (fun _ => rfl)) rfl
          · exact step_outU hs (wants_off 4 rfl rfl rfl (by kernel_rfl) (fun _ => rfl)) rfl
          · exact step_outU hs (wants_off 4 rfl rfl rfl (by kernel_rfl) (fun _ => rfl)) rfl
          · exact step_pick false hs (wants_on 2 rfl rfl (by kernel_rfl) (fun _ => rfl)) rfl rfl (fun L u W hG hdep => (show u 4 = .bool false from hG 4 (hdep 4 (by kernel_rfl)))) (fun L u W hG hdep => rfl)
          · exact step_pick false hs (wants_none rfl) rfl rfl (fun L u W hG hdep => (show u 2 = .bool false from hG 2 (hdep 2 (by kernel_rfl)))) (fun L u W hG hdep => (show u 8 = .bool false from hG 8 (hdep 8 (by kernel_rfl))))
        intro L11 u11n W11n hall hJ hG
        have hb := hJ.all rfl
        have hbel := Below.call hbel hb
        have hm5 := hm5.later hb
        have hm7 := hm7.later hb
        have hm8 := hm8.later hb
        have hm9 := hm9.later hb
        have ht2 := there_later ht2 hb
        have ht5 := there_later ht5 hb
        have ht7 := there_later ht7 hb
        have ht8 := there_later ht8 hb
        have ht9 := there_later ht9 hb
        have HKB := Lib.hid (HKB.out.below' hb)
        have HC53 := Lib.hid (show u11n 1 = .bool false from hG 1 (by simp))
        have HC54 := Lib.hid (show u11n 2 = .bool false from hG 2 (by simp))
        have HC55 := Lib.hid (show u11n 3 = .bool false from hG 3 (by simp))
        have HC56 := Lib.hid (show u11n 4 = .bool false from hG 4 (by simp))
        have HC60 := Lib.hid (show u11n 8 = .bool false from hG 8 (by simp))
        have HC61 := Lib.hid (show u11n 9 = .bool false from hG 9 (by simp))
        have hbel0 := hbel
        clear hJ hG hall hb
        have hx : u11n 9 = .bool false := HC61.out
        go_wp2_with fail
        rw [hx]
        clear hx
        go_upto_region 13 with fail
        refine wp_region_mid (fun u => (.slice (some ⟨gB, 0, none⟩) 32 cB :: undef :: u0 0 :: u 8 :: u3 5 :: u6b 5 :: u10d 16 :: u9b 4 :: u9b 5 :: u10d 14 :: u1 0 :: u1 1 :: .bool false :: undef :: u3 0 :: u3 1 :: u3 2 :: u3 3 :: u3 4 :: .slice (some ⟨bb, q, none⟩) 32 cap :: .slice (some ⟨gB, 0, none⟩) 32 cB :: u5 0 :: u5 1 :: u5 2 :: u5 3 :: u5 4 :: u6b 2 :: u6b 0 :: u6b 1 :: u6b 3 :: u6b 4 :: u7b 0 :: .bool false :: undef :: u9b 0 :: u9b 1 :: u9b 2 :: u9b 3 :: u10d 11 :: u10d 0 :: u10d 1 :: u10d 2 :: u10d 3 :: u10d 4 :: u10d 5 :: u10d 6 :: u10d 7 :: u10d 8 :: u10d 9 :: u10d 10 :: u10d 12 :: u10d 13 :: u11n 0 :: u11n 1 :: u11n 2 :: u11n 3 :: u11n 4 :: u11n 5 :: u11n 6 :: u11n 7 :: u11n 8 :: .bool false :: undef :: u 0 :: u 1 :: u 2 :: u 3 :: u 4 :: u 5 :: u 6 :: []).toArray) (Holds [.oth (fun v => v = .bool false), .val rE [X], .val rE [-X], .val rE [X], .val rE [X], .val rE [y], .val rE [X, y, fn 1, X * y], .sto q2 rE [X, y, fn 1, X * y], .oth (fun v => v = .int .i64 0)] W11n) (Keep [.oth (fun v => v = .bool false), .val rE [X], .val rE [-X], .val rE [X], .val rE [X], .val rE [y], .val rE [X, y, fn 1, X * y], .sto q2 rE [X, y, fn 1, X * y], .oth (fun v => v = .int .i64 0)] W11n) (fun k => ((undef :: undef :: undef :: undef :: undef :: undef :: undef :: undef :: u0 1 :: []) : List Value).getD k undef) (by kernel_rfl) (by kernel_rfl) ?_ (by rfl) Keep.drew (holds_soft (by kernel_rfl)) ?_ ?_
        · intro u i v h
          rcases i with _ | _ | _ | _ | _ | _ | _ | _ | _ | i
          all_goals first | (simp [Act.put, putV]; done) | (exfalso; simp at h; omega)
        · intro hs
          refine ⟨?_, ?_, ?_, ?_, ?_, ?_, ?_, ?_, ?_, trivial⟩
          · exact step_pureO hs (wants_none rfl) rfl fun L u W hG hdep => ⟨_, run_move rfl, HC4.out⟩
          · exact step_load q9 0 hs (wants_none rfl) rfl rfl tyE (fun _ => E9.out) hm9.lt hm9 (fun k g hk => by rcases k with _ | _ | _ | _ | _ | _ | _ | _ | _ | k <;> first | (cases hk; done) | (cases hk; exact .inr HD9_q2.out))
          · refine step_call hs (wants_none rfl) rfl fun L u W hJ hG hL hdep K hK => ?_
            have a0 := (show IsFs rE (u 1) [X] from hG 1 (hdep 1 (by kernel_rfl)))
            go_simp
            go_at_call 47
            (with_reducible refine (cNeg a0 _).mono ?_); rintro e w1 ⟨r, rfl, hr, hb⟩
            have hk := hK.out _ _ hr hb
            exact hk
          · exact step_load q9 0 hs (wants_none rfl) rfl rfl tyE (fun _ => E9.out) hm9.lt hm9 (fun k g hk => by rcases k with _ | _ | _ | _ | _ | _ | _ | _ | _ | k <;> first | (cases hk; done) | (cases hk; exact .inr HD9_q2.out))
          · refine step_call hs (wants_none rfl) rfl fun L u W hJ hG hL hdep K hK => ?_
            have a0 := (show IsFs rE (u 2) [-X] from hG 2 (hdep 2 (by kernel_rfl)))
            have a1 := (show IsFs rE (u 3) [X] from hG 3 (hdep 3 (by kernel_rfl)))
            have x0 := (show u 0 = .bool false from hG 0 (hdep 0 (by kernel_rfl)))
            go_simp
            go_at_call 46
            (with_reducible refine (cPick (b := false) rfl a0 a1 _).mono ?_); rintro e w1 ⟨r, rfl, hr, hb⟩
            have hk := hK.out _ _ hr hb
            simp only [x0] at hk
            exact hk
          · exact step_load q5 0 hs (wants_none rfl) rfl rfl tyE (fun _ => E5.out) hm5.lt hm5 (fun k g hk => by rcases k with _ | _ | _ | _ | _ | _ | _ | _ | _ | k <;> first | (cases hk; done) | (cases hk; exact .inr HD5_q2.out))
          · refine step_call hs (wants_none rfl) rfl fun L u W hJ hG hL hdep K hK => ?_
            have a0 := (show IsFs rE (u 4) [X] from hG 4 (hdep 4 (by kernel_rfl)))
            have a1 := (show IsFs rE (u 5) [y] from hG 5 (hdep 5 (by kernel_rfl)))
            go_simp
            go_at_call 45
            (with_reducible refine (cPoint a0 a1 _).mono ?_); rintro e w1 ⟨r, rfl, hr, hb⟩
            have hk := hK.out _ _ hr hb
            exact hk
          · refine step_storeO q2 20 hs (wants_none rfl) rfl rfl (by kernel_rfl) (fun k hk => ?_) (fun _ => E2.out) (there_lt ht2 (by omega)) ht2 (gives_op 6 rfl (by kernel_rfl) (fun _ => rfl)) tyP4 rfl
            rcases k with _ | _ | _ | _ | _ | _ | _ | _ | _ | k
            all_goals first | (exact absurd rfl hk) | (intro e; cases e; done)
          · exact step_pureO hs (wants_none rfl) rfl fun L u W hG hdep => ⟨_, run_assign rfl, rfl⟩
        intro L13 u13n W13n hall hJ hG
        have hb : Below w.heap.size W11n W13n := hJ.below (by have := hbel.size; omega) (fun k b hf => by rcases k with _ | _ | _ | _ | _ | _ | _ | _ | _ | k <;> first | (cases hf; done) | (cases hf; omega))
        have hbel := hbel.trans hb
        have hm5 := hm5.blk (hJ.block _ (hm5.lt) (fun k hk => by rcases k with _ | _ | _ | _ | _ | _ | _ | _ | _ | k <;> first | (cases hk; done) | (cases hk; exact absurd rfl HD5_q2.out)))
        have hm7 := hm7.blk (hJ.block _ (hm7.lt) (fun k hk => by rcases k with _ | _ | _ | _ | _ | _ | _ | _ | _ | k <;> first | (cases hk; done) | (cases hk; exact absurd rfl HD7_q2.out)))
        have hm8 := hm8.blk (hJ.block _ (hm8.lt) (fun k hk => by rcases k with _ | _ | _ | _ | _ | _ | _ | _ | _ | k <;> first | (cases hk; done) | (cases hk; exact absurd rfl HD8_q2.out)))
        have hm9 := hm9.blk (hJ.block _ (hm9.lt) (fun k hk => by rcases k with _ | _ | _ | _ | _ | _ | _ | _ | _ | k <;> first | (cases hk; done) | (cases hk; exact absurd rfl HD9_q2.out)))
        have ht5 := there_blk ht5 (hJ.block _ (there_lt ht5 (by omega)) (fun k hk => by rcases k with _ | _ | _ | _ | _ | _ | _ | _ | _ | k <;> first | (cases hk; done) | (cases hk; exact absurd rfl HD5_q2.out)))
        have ht7 := there_blk ht7 (hJ.block _ (there_lt ht7 (by omega)) (fun k hk => by rcases k with _ | _ | _ | _ | _ | _ | _ | _ | _ | k <;> first | (cases hk; done) | (cases hk; exact absurd rfl HD7_q2.out)))
        have ht8 := there_blk ht8 (hJ.block _ (there_lt ht8 (by omega)) (fun k hk => by rcases k with _ | _ | _ | _ | _ | _ | _ | _ | _ | k <;> first | (cases hk; done) | (cases hk; exact absurd rfl HD8_q2.out)))
        have ht9 := there_blk ht9 (hJ.block _ (there_lt ht9 (by omega)) (fun k hk => by rcases k with _ | _ | _ | _ | _ | _ | _ | _ | _ | k <;> first | (cases hk; done) | (cases hk; exact absurd rfl HD9_q2.out)))
        have HKB := Lib.hid (blk_keep HKB.out (hJ.block _ (HKB.out.lt) (fun k hk => by rcases k with _ | _ | _ | _ | _ | _ | _ | _ | _ | k <;> first | (cases hk; done) | (cases hk; exact absurd rfl HE_q2.out))))
        obtain ⟨_, hs13_7t, hs13_7⟩ := (show _ ∧ W13n.there q2 0 20 ∧ HasFs rE W13n q2 0 [X, y, fn 1, X * y] from hG 7 (by simp))
        have HC63 := Lib.hid (show u13n 0 = .bool false from hG 0 (by simp))
        have HC3 := Lib.hid (show u13n 8 = .int .i64 0 from hG 8 (by simp))
        have hbel0 := hbel
        clear hJ hG hall hb
        go_wp2
        exact ret_cell_slot (R := rE) Try.results10 (by exact E2.out) (by exact HC3.out) hs13_7 tyP4 rfl (fun r hr => ⟨r, by rw [(dec_yes HL.out HLW.out HY.out HRC.out HS.out (fun k => by cases k.1)).1], toP (isPr hr (dec_pext (by rw [(dec_yes HL.out HLW.out HY.out HRC.out HS.out (fun k => by cases k.1)).2.1, HX.out]; rfl) (dec_yes HL.out HLW.out HY.out HRC.out HS.out (fun k => by cases k.1)).2.2)), hbel⟩)
      · skip
        by_cases hx0 : X = 0
        · have HX0 := Lib.hid hx0; clear hx0
          go_upto_region 11 with fail
          refine wp_region_turn (fun u => (.slice (some ⟨gB, 0, none⟩) 32 cB :: undef :: u0 0 :: u0 1 :: u3 5 :: u6b 5 :: u10d 16 :: u9b 4 :: u9b 5 :: u10d 14 :: u1 0 :: u1 1 :: .bool false :: undef :: u3 0 :: u3 1 :: u3 2 :: u3 3 :: u3 4 :: .slice (some ⟨bb, q, none⟩) 32 cap :: .slice (some ⟨gB, 0, none⟩) 32 cB :: u5 0 :: u5 1 :: u5 2 :: u5 3 :: u5 4 :: u6b 2 :: u6b 0 :: u6b 1 :: u6b 3 :: u6b 4 :: u7b 0 :: .bool false :: undef :: u9b 0 :: u9b 1 :: u9b 2 :: u9b 3 :: u10d 11 :: u10d 0 :: u10d 1 :: u10d 2 :: u10d 3 :: u10d 4 :: u10d 5 :: u10d 6 :: u10d 7 :: u10d 8 :: u10d 9 :: u10d 10 :: u10d 12 :: u10d 13 :: u 0 :: u 1 :: u 2 :: u 3 :: u 4 :: u 5 :: u 6 :: u 7 :: u 8 :: u 9 :: undef :: undef :: undef :: undef :: undef :: undef :: undef :: undef :: []).toArray) (Holds [.oth (fun v => v = .int .i64 0), .oth (fun v => v = .bool false), .oth (fun v => v = .bool false), .oth (fun v => v = .bool true), .oth (fun v => v = .bool true), .val rE [X], .val rE [0], .oth (fun v => v = .bool true), .oth (fun v => v = .bool true), .oth (fun v => v = .bool true)] W10d) (Keep [.oth (fun v => v = .int .i64 0), .oth (fun v => v = .bool false), .oth (fun v => v = .bool false), .oth (fun v => v = .bool true), .oth (fun v => v = .bool true), .val rE [X], .val rE [0], .oth (fun v => v = .bool true), .oth (fun v => v = .bool true), .oth (fun v => v = .bool true)] W10d) (fun _ => undef) ?_ (by rfl) Keep.start (holds_soft (by kernel_rfl)) ?_ ?_
          · intro u i v h
            rcases i with _ | _ | _ | _ | _ | _ | _ | _ | _ | _ | i
            all_goals first | (simp [Act.put, putV]; done) | (exfalso; simp at h; omega)
          · intro hs
            refine ⟨?_, ?_, ?_, ?_, ?_, ?_, ?_, ?_, ?_, ?_, trivial⟩
            · exact step_pureO hs (wants_none rfl) rfl fun L u W hG hdep => ⟨_, run_move rfl, HC6.out⟩
            · refine step_pureO hs (wants_none rfl) rfl fun L u W hG hdep => ⟨_, ?_, rfl⟩
              have e0 := (show u 0 = .int .i64 0 from hG 0 (hdep 0 (by kernel_rfl)))
              go_simp
              try simp [bne]
            · exact step_pureO hs (wants_none rfl) rfl fun L u W hG hdep => ⟨_, run_move rfl, (show u 1 = .bool false from hG 1 (hdep 1 (by kernel_rfl)))⟩
            · exact step_pureO hs (wants_on 2 rfl rfl (by kernel_rfl) (fun _ => rfl)) rfl fun L u W hG hdep => ⟨_, run_move rfl, HC4.out⟩
            · exact step_pureO hs (wants_on 2 rfl rfl (by kernel_rfl) (fun _ => rfl)) rfl fun L u W hG hdep => ⟨_, run_move rfl, (show u 3 = .bool true from hG 3 (hdep 3 (by kernel_rfl)))⟩
            · exact step_load q9 0 hs (wants_on 4 rfl rfl (by kernel_rfl) (fun _ => rfl)) rfl rfl tyE (fun _ => E9.out) hm9.lt hm9 (noSto_apart (by kernel_rfl))
            · exact step_pure hs (wants_on 4 rfl rfl (by kernel_rfl) (fun _ => rfl)) rfl fun L u W hG hdep => run_build0 rfl (buildE0 W)
            · refine step_callO hs (wants_on 4 rfl rfl (by kernel_rfl) (fun _ => rfl)) rfl fun L u W hJ hG hL hdep K hK => ?_
              have a0 := (show IsFs rE (u 5) [X] from hG 5 (hdep 5 (by kernel_rfl)))
              have a1 := (show IsFs rE (u 6) [0] from hG 6 (hdep 6 (by kernel_rfl)))
              go_simp
              go_at_call 44
              (with_reducible refine (cSame (b := true) (decide_eq_true HX0.out) a0 a1 _).mono ?_); rintro e w1 ⟨rfl, hb⟩
              have hk := hK.out _ _ rfl hb
              exact hk
            · exact step_pick true hs (wants_on 2 rfl rfl (by kernel_rfl) (fun _ => rfl)) rfl rfl (fun L u W hG hdep => (show u 4 = .bool true from hG 4 (hdep 4 (by kernel_rfl)))) (fun L u W hG hdep => (show u 7 = .bool true from hG 7 (hdep 7 (by kernel_rfl))))
            · exact step_pick false hs (wants_none rfl) rfl rfl (fun L u W hG hdep => (show u 2 = .bool false from hG 2 (hdep 2 (by kernel_rfl)))) (fun L u W hG hdep => (show u 8 = .bool true from hG 8 (hdep 8 (by kernel_rfl))))
          intro L11 u11e W11e hall hJ hG
          have hb := hJ.all rfl
          have hbel := Below.call hbel hb
          have hm5 := hm5.later hb
          have hm7 := hm7.later hb
          have hm8 := hm8.later hb
          have hm9 := hm9.later hb
          have ht2 := there_later ht2 hb
          have ht5 := there_later ht5 hb
          have ht7 := there_later ht7 hb
          have ht8 := there_later ht8 hb
          have ht9 := there_later ht9 hb
          have HKB := Lib.hid (HKB.out.below' hb)
          have HC53 := Lib.hid (show u11e 1 = .bool false from hG 1 (by simp))
          have HC54 := Lib.hid (show u11e 2 = .bool false from hG 2 (by simp))
          have HC55 := Lib.hid (show u11e 3 = .bool true from hG 3 (by simp))
          have HC56 := Lib.hid (show u11e 4 = .bool true from hG 4 (by simp))
          have HC59 := Lib.hid (show u11e 7 = .bool true from hG 7 (by simp))
          have HC60 := Lib.hid (show u11e 8 = .bool true from hG 8 (by simp))
          have HC61 := Lib.hid (show u11e 9 = .bool true from hG 9 (by simp))
          have hbel0 := hbel
          clear hJ hG hall hb
          have hx : u11e 9 = .bool true := HC61.out
          go_wp2_with fail
          rw [hx]
          clear hx
          go_upto_region 12 with fail
          refine wp_region_turn (fun u => (.slice (some ⟨gB, 0, none⟩) 32 cB :: undef :: u0 0 :: u 2 :: u3 5 :: u6b 5 :: u10d 16 :: u9b 4 :: u9b 5 :: u10d 14 :: u1 0 :: u1 1 :: .bool false :: undef :: u3 0 :: u3 1 :: u3 2 :: u3 3 :: u3 4 :: .slice (some ⟨bb, q, none⟩) 32 cap :: .slice (some ⟨gB, 0, none⟩) 32 cB :: u5 0 :: u5 1 :: u5 2 :: u5 3 :: u5 4 :: u6b 2 :: u6b 0 :: u6b 1 :: u6b 3 :: u6b 4 :: u7b 0 :: .bool false :: undef :: u9b 0 :: u9b 1 :: u9b 2 :: u9b 3 :: u10d 11 :: u10d 0 :: u10d 1 :: u10d 2 :: u10d 3 :: u10d 4 :: u10d 5 :: u10d 6 :: u10d 7 :: u10d 8 :: u10d 9 :: u10d 10 :: u10d 12 :: u10d 13 :: u11e 0 :: u11e 1 :: u11e 2 :: u11e 3 :: u11e 4 :: u11e 5 :: u11e 6 :: u11e 7 :: u11e 8 :: .bool true :: u 0 :: undef :: undef :: undef :: undef :: undef :: undef :: undef :: []).toArray) (Holds [.val rP [Cp.zero], .sto q2 rP [Cp.zero], .oth (fun v => v = .int .i64 12)] W11e) (Keep [.val rP [Cp.zero], .sto q2 rP [Cp.zero], .oth (fun v => v = .int .i64 12)] W11e) (fun k => ((undef :: undef :: u0 1 :: []) : List Value).getD k undef) ?_ (by rfl) Keep.start (holds_soft (by kernel_rfl)) ?_ ?_
          · intro u i v h
            rcases i with _ | _ | _ | i
            all_goals first | (simp [Act.put, putV]; done) | (exfalso; simp at h; omega)
          · intro hs
            refine ⟨?_, ?_, ?_, trivial⟩
            · exact step_pure hs (wants_none rfl) rfl fun L u W hG hdep => run_build0 rfl (build_P0 W)
            · refine step_storeO q2 20 hs (wants_none rfl) rfl rfl (by kernel_rfl) (fun k hk => ?_) (fun _ => E2.out) (there_lt ht2 (by omega)) ht2 (gives_op 0 rfl (by kernel_rfl) (fun _ => rfl)) tyP rfl
              rcases k with _ | _ | _ | k
              all_goals first | (exact absurd rfl hk) | (intro e; cases e; done)
            · exact step_pureO hs (wants_none rfl) rfl fun L u W hG hdep => ⟨_, run_assign rfl, rfl⟩
          intro L12 u12e W12e hall hJ hG
          have hb : Below w.heap.size W11e W12e := hJ.below (by have := hbel.size; omega) (fun k b hf => by rcases k with _ | _ | _ | k <;> first | (cases hf; done) | (cases hf; omega))
          have hbel := hbel.trans hb
          have hm5 := hm5.blk (hJ.block _ (hm5.lt) (fun k hk => by rcases k with _ | _ | _ | k <;> first | (cases hk; done) | (cases hk; exact absurd rfl HD5_q2.out)))
          have hm7 := hm7.blk (hJ.block _ (hm7.lt) (fun k hk => by rcases k with _ | _ | _ | k <;> first | (cases hk; done) | (cases hk; exact absurd rfl HD7_q2.out)))
          have hm8 := hm8.blk (hJ.block _ (hm8.lt) (fun k hk => by rcases k with _ | _ | _ | k <;> first | (cases hk; done) | (cases hk; exact absurd rfl HD8_q2.out)))
          have hm9 := hm9.blk (hJ.block _ (hm9.lt) (fun k hk => by rcases k with _ | _ | _ | k <;> first | (cases hk; done) | (cases hk; exact absurd rfl HD9_q2.out)))
          have ht5 := there_blk ht5 (hJ.block _ (there_lt ht5 (by omega)) (fun k hk => by rcases k with _ | _ | _ | k <;> first | (cases hk; done) | (cases hk; exact absurd rfl HD5_q2.out)))
          have ht7 := there_blk ht7 (hJ.block _ (there_lt ht7 (by omega)) (fun k hk => by rcases k with _ | _ | _ | k <;> first | (cases hk; done) | (cases hk; exact absurd rfl HD7_q2.out)))
          have ht8 := there_blk ht8 (hJ.block _ (there_lt ht8 (by omega)) (fun k hk => by rcases k with _ | _ | _ | k <;> first | (cases hk; done) | (cases hk; exact absurd rfl HD8_q2.out)))
          have ht9 := there_blk ht9 (hJ.block _ (there_lt ht9 (by omega)) (fun k hk => by rcases k with _ | _ | _ | k <;> first | (cases hk; done) | (cases hk; exact absurd rfl HD9_q2.out)))
          have HKB := Lib.hid (blk_keep HKB.out (hJ.block _ (HKB.out.lt) (fun k hk => by rcases k with _ | _ | _ | k <;> first | (cases hk; done) | (cases hk; exact absurd rfl HE_q2.out))))
          obtain ⟨_, hs12_1t, hs12_1⟩ := (show _ ∧ W12e.there q2 0 20 ∧ HasFs rP W12e q2 0 [Cp.zero] from hG 1 (by simp))
          have HC3 := Lib.hid (show u12e 2 = .int .i64 12 from hG 2 (by simp))
          have hbel0 := hbel
          clear hJ hG hall hb
          go_wp2
          exact ret_cell_slot (R := rP) Try.results10 (by exact E2.out) (by exact HC3.out) hs12_1 tyP rfl (fun r hr => ⟨r, by rw [(dec_sgn HL.out HLW.out HY.out HRC.out HS.out (HX.out.trans HX0.out)).2], by rw [(dec_sgn HL.out HLW.out HY.out HRC.out HS.out (HX.out.trans HX0.out)).1]; exact hr, hbel⟩)
        · have HX0 := Lib.hid hx0; clear hx0
          go_upto_region 11 with fail
          refine wp_region_turn (fun u => (.slice (some ⟨gB, 0, none⟩) 32 cB :: undef :: u0 0 :: u0 1 :: u3 5 :: u6b 5 :: u10d 16 :: u9b 4 :: u9b 5 :: u10d 14 :: u1 0 :: u1 1 :: .bool false :: undef :: u3 0 :: u3 1 :: u3 2 :: u3 3 :: u3 4 :: .slice (some ⟨bb, q, none⟩) 32 cap :: .slice (some ⟨gB, 0, none⟩) 32 cB :: u5 0 :: u5 1 :: u5 2 :: u5 3 :: u5 4 :: u6b 2 :: u6b 0 :: u6b 1 :: u6b 3 :: u6b 4 :: u7b 0 :: .bool false :: undef :: u9b 0 :: u9b 1 :: u9b 2 :: u9b 3 :: u10d 11 :: u10d 0 :: u10d 1 :: u10d 2 :: u10d 3 :: u10d 4 :: u10d 5 :: u10d 6 :: u10d 7 :: u10d 8 :: u10d 9 :: u10d 10 :: u10d 12 :: u10d 13 :: u 0 :: u 1 :: u 2 :: u 3 :: u 4 :: u 5 :: u 6 :: u 7 :: u 8 :: u 9 :: undef :: undef :: undef :: undef :: undef :: undef :: undef :: undef :: []).toArray) (Holds [.oth (fun v => v = .int .i64 0), .oth (fun v => v = .bool false), .oth (fun v => v = .bool false), .oth (fun v => v = .bool true), .oth (fun v => v = .bool true), .val rE [X], .val rE [0], .oth (fun v => v = .bool false), .oth (fun v => v = .bool false), .oth (fun v => v = .bool false)] W10d) (Keep [.oth (fun v => v = .int .i64 0), .oth (fun v => v = .bool false), .oth (fun v => v = .bool false), .oth (fun v => v = .bool true), .oth (fun v => v = .bool true), .val rE [X], .val rE [0], .oth (fun v => v = .bool false), .oth (fun v => v = .bool false), .oth (fun v => v = .bool false)] W10d) (fun _ => undef) ?_ (by rfl) Keep.start (holds_soft (by kernel_rfl)) ?_ ?_
          · intro u i v h
            rcases i with _ | _ | _ | _ | _ | _ | _ | _ | _ | _ | i
            all_goals first | (simp [Act.put, putV]; done) | (exfalso; simp at h; omega)
          · intro hs
            refine ⟨?_, ?_, ?_, ?_, ?_, ?_, ?_, ?_, ?_, ?_, trivial⟩
            · exact step_pureO hs (wants_none rfl) rfl fun L u W hG hdep => ⟨_, run_move rfl, HC6.out⟩
            · refine step_pureO hs (wants_none rfl) rfl fun L u W hG hdep => ⟨_, ?_, rfl⟩
              have e0 := (show u 0 = .int .i64 0 from hG 0 (hdep 0 (by kernel_rfl)))
              go_simp
              try simp [bne]
            · exact step_pureO hs (wants_none rfl) rfl fun L u W hG hdep => ⟨_, run_move rfl, (show u 1 = .bool false from hG 1 (hdep 1 (by kernel_rfl)))⟩
            · exact step_pureO hs (wants_on 2 rfl rfl (by kernel_rfl) (fun _ => rfl)) rfl fun L u W hG hdep => ⟨_, run_move rfl, HC4.out⟩
            · exact step_pureO hs (wants_on 2 rfl rfl (by kernel_rfl) (fun _ => rfl)) rfl fun L u W hG hdep => ⟨_, run_move rfl, (show u 3 = .bool true from hG 3 (hdep 3 (by kernel_rfl)))⟩
            · exact step_load q9 0 hs (wants_on 4 rfl rfl (by kernel_rfl) (fun _ => rfl)) rfl rfl tyE (fun _ => E9.out) hm9.lt hm9 (noSto_apart (by kernel_rfl))
            · exact step_pure hs (wants_on 4 rfl rfl (by kernel_rfl) (fun _ => rfl)) rfl fun L u W hG hdep => run_build0 rfl (buildE0 W)
            · refine step_callO hs (wants_on 4 rfl rfl (by kernel_rfl) (fun _ => rfl)) rfl fun L u W hJ hG hL hdep K hK => ?_
              have a0 := (show IsFs rE (u 5) [X] from hG 5 (hdep 5 (by kernel_rfl)))
              have a1 := (show IsFs rE (u 6) [0] from hG 6 (hdep 6 (by kernel_rfl)))
              go_simp
              go_at_call 44
              (with_reducible refine (cSame (b := false) (decide_eq_false HX0.out) a0 a1 _).mono ?_); rintro e w1 ⟨rfl, hb⟩
              have hk := hK.out _ _ rfl hb
              exact hk
            · exact step_pick true hs (wants_on 2 rfl rfl (by kernel_rfl) (fun _ => rfl)) rfl rfl (fun L u W hG hdep => (show u 4 = .bool true from hG 4 (hdep 4 (by kernel_rfl)))) (fun L u W hG hdep => (show u 7 = .bool false from hG 7 (hdep 7 (by kernel_rfl))))
            · exact step_pick false hs (wants_none rfl) rfl rfl (fun L u W hG hdep => (show u 2 = .bool false from hG 2 (hdep 2 (by kernel_rfl)))) (fun L u W hG hdep => (show u 8 = .bool false from hG 8 (hdep 8 (by kernel_rfl))))
          intro L11 u11f W11f hall hJ hG
          have hb := hJ.all rfl
          have hbel := Below.call hbel hb
          have hm5 := hm5.later hb
          have hm7 := hm7.later hb
          have hm8 := hm8.later hb
          have hm9 := hm9.later hb
          have ht2 := there_later ht2 hb
          have ht5 := there_later ht5 hb
          have ht7 := there_later ht7 hb
          have ht8 := there_later ht8 hb
          have ht9 := there_later ht9 hb
          have HKB := Lib.hid (HKB.out.below' hb)
          have HC53 := Lib.hid (show u11f 1 = .bool false from hG 1 (by simp))
          have HC54 := Lib.hid (show u11f 2 = .bool false from hG 2 (by simp))
          have HC55 := Lib.hid (show u11f 3 = .bool true from hG 3 (by simp))
          have HC56 := Lib.hid (show u11f 4 = .bool true from hG 4 (by simp))
          have HC59 := Lib.hid (show u11f 7 = .bool false from hG 7 (by simp))
          have HC60 := Lib.hid (show u11f 8 = .bool false from hG 8 (by simp))
          have HC61 := Lib.hid (show u11f 9 = .bool false from hG 9 (by simp))
          have hbel0 := hbel
          clear hJ hG hall hb
          have hx : u11f 9 = .bool false := HC61.out
          go_wp2_with fail
          rw [hx]
          clear hx
          go_upto_region 13 with fail
          refine wp_region_mid (fun u => (.slice (some ⟨gB, 0, none⟩) 32 cB :: undef :: u0 0 :: u 8 :: u3 5 :: u6b 5 :: u10d 16 :: u9b 4 :: u9b 5 :: u10d 14 :: u1 0 :: u1 1 :: .bool false :: undef :: u3 0 :: u3 1 :: u3 2 :: u3 3 :: u3 4 :: .slice (some ⟨bb, q, none⟩) 32 cap :: .slice (some ⟨gB, 0, none⟩) 32 cB :: u5 0 :: u5 1 :: u5 2 :: u5 3 :: u5 4 :: u6b 2 :: u6b 0 :: u6b 1 :: u6b 3 :: u6b 4 :: u7b 0 :: .bool false :: undef :: u9b 0 :: u9b 1 :: u9b 2 :: u9b 3 :: u10d 11 :: u10d 0 :: u10d 1 :: u10d 2 :: u10d 3 :: u10d 4 :: u10d 5 :: u10d 6 :: u10d 7 :: u10d 8 :: u10d 9 :: u10d 10 :: u10d 12 :: u10d 13 :: u11f 0 :: u11f 1 :: u11f 2 :: u11f 3 :: u11f 4 :: u11f 5 :: u11f 6 :: u11f 7 :: u11f 8 :: .bool false :: undef :: u 0 :: u 1 :: u 2 :: u 3 :: u 4 :: u 5 :: u 6 :: []).toArray) (Holds [.oth (fun v => v = .bool true), .val rE [X], .val rE [-X], .val rE [X], .val rE [-X], .val rE [y], .val rE [-X, y, fn 1, (-X) * y], .sto q2 rE [-X, y, fn 1, (-X) * y], .oth (fun v => v = .int .i64 0)] W11f) (Keep [.oth (fun v => v = .bool true), .val rE [X], .val rE [-X], .val rE [X], .val rE [-X], .val rE [y], .val rE [-X, y, fn 1, (-X) * y], .sto q2 rE [-X, y, fn 1, (-X) * y], .oth (fun v => v = .int .i64 0)] W11f) (fun k => ((undef :: undef :: undef :: undef :: undef :: undef :: undef :: undef :: u0 1 :: []) : List Value).getD k undef) (by kernel_rfl) (by kernel_rfl) ?_ (by rfl) Keep.drew (holds_soft (by kernel_rfl)) ?_ ?_
          · intro u i v h
            rcases i with _ | _ | _ | _ | _ | _ | _ | _ | _ | i
            all_goals first | (simp [Act.put, putV]; done) | (exfalso; simp at h; omega)
          · intro hs
            refine ⟨?_, ?_, ?_, ?_, ?_, ?_, ?_, ?_, ?_, trivial⟩
            · exact step_pureO hs (wants_none rfl) rfl fun L u W hG hdep => ⟨_, run_move rfl, HC4.out⟩
            · exact step_load q9 0 hs (wants_none rfl) rfl rfl tyE (fun _ => E9.out) hm9.lt hm9 (fun k g hk => by rcases k with _ | _ | _ | _ | _ | _ | _ | _ | _ | k <;> first | (cases hk; done) | (cases hk; exact .inr HD9_q2.out))
            · refine step_call hs (wants_none rfl) rfl fun L u W hJ hG hL hdep K hK => ?_
              have a0 := (show IsFs rE (u 1) [X] from hG 1 (hdep 1 (by kernel_rfl)))
              go_simp
              go_at_call 47
              (with_reducible refine (cNeg a0 _).mono ?_); rintro e w1 ⟨r, rfl, hr, hb⟩
              have hk := hK.out _ _ hr hb
              exact hk
            · exact step_load q9 0 hs (wants_none rfl) rfl rfl tyE (fun _ => E9.out) hm9.lt hm9 (fun k g hk => by rcases k with _ | _ | _ | _ | _ | _ | _ | _ | _ | k <;> first | (cases hk; done) | (cases hk; exact .inr HD9_q2.out))
            · refine step_call hs (wants_none rfl) rfl fun L u W hJ hG hL hdep K hK => ?_
              have a0 := (show IsFs rE (u 2) [-X] from hG 2 (hdep 2 (by kernel_rfl)))
              have a1 := (show IsFs rE (u 3) [X] from hG 3 (hdep 3 (by kernel_rfl)))
              have x0 := (show u 0 = .bool true from hG 0 (hdep 0 (by kernel_rfl)))
              go_simp
              go_at_call 46
              (with_reducible refine (cPick (b := true) rfl a0 a1 _).mono ?_); rintro e w1 ⟨r, rfl, hr, hb⟩
              have hk := hK.out _ _ hr hb
              simp only [x0] at hk
              exact hk
            · exact step_load q5 0 hs (wants_none rfl) rfl rfl tyE (fun _ => E5.out) hm5.lt hm5 (fun k g hk => by rcases k with _ | _ | _ | _ | _ | _ | _ | _ | _ | k <;> first | (cases hk; done) | (cases hk; exact .inr HD5_q2.out))
            · refine step_call hs (wants_none rfl) rfl fun L u W hJ hG hL hdep K hK => ?_
              have a0 := (show IsFs rE (u 4) [-X] from hG 4 (hdep 4 (by kernel_rfl)))
              have a1 := (show IsFs rE (u 5) [y] from hG 5 (hdep 5 (by kernel_rfl)))
              go_simp
              go_at_call 45
              (with_reducible refine (cPoint a0 a1 _).mono ?_); rintro e w1 ⟨r, rfl, hr, hb⟩
              have hk := hK.out _ _ hr hb
              exact hk
            · refine step_storeO q2 20 hs (wants_none rfl) rfl rfl (by kernel_rfl) (fun k hk => ?_) (fun _ => E2.out) (there_lt ht2 (by omega)) ht2 (gives_op 6 rfl (by kernel_rfl) (fun _ => rfl)) tyP4 rfl
              rcases k with _ | _ | _ | _ | _ | _ | _ | _ | _ | k
              all_goals first | (exact absurd rfl hk) | (intro e; cases e; done)
            · exact step_pureO hs (wants_none rfl) rfl fun L u W hG hdep => ⟨_, run_assign rfl, rfl⟩
          intro L13 u13f W13f hall hJ hG
          have hb : Below w.heap.size W11f W13f := hJ.below (by have := hbel.size; omega) (fun k b hf => by rcases k with _ | _ | _ | _ | _ | _ | _ | _ | _ | k <;> first | (cases hf; done) | (cases hf; omega))
          have hbel := hbel.trans hb
          have hm5 := hm5.blk (hJ.block _ (hm5.lt) (fun k hk => by rcases k with _ | _ | _ | _ | _ | _ | _ | _ | _ | k <;> first | (cases hk; done) | (cases hk; exact absurd rfl HD5_q2.out)))
          have hm7 := hm7.blk (hJ.block _ (hm7.lt) (fun k hk => by rcases k with _ | _ | _ | _ | _ | _ | _ | _ | _ | k <;> first | (cases hk; done) | (cases hk; exact absurd rfl HD7_q2.out)))
          have hm8 := hm8.blk (hJ.block _ (hm8.lt) (fun k hk => by rcases k with _ | _ | _ | _ | _ | _ | _ | _ | _ | k <;> first | (cases hk; done) | (cases hk; exact absurd rfl HD8_q2.out)))
          have hm9 := hm9.blk (hJ.block _ (hm9.lt) (fun k hk => by rcases k with _ | _ | _ | _ | _ | _ | _ | _ | _ | k <;> first | (cases hk; done) | (cases hk; exact absurd rfl HD9_q2.out)))
          have ht5 := there_blk ht5 (hJ.block _ (there_lt ht5 (by omega)) (fun k hk => by rcases k with _ | _ | _ | _ | _ | _ | _ | _ | _ | k <;> first | (cases hk; done) | (cases hk; exact absurd rfl HD5_q2.out)))
          have ht7 := there_blk ht7 (hJ.block _ (there_lt ht7 (by omega)) (fun k hk => by rcases k with _ | _ | _ | _ | _ | _ | _ | _ | _ | k <;> first | (cases hk; done) | (cases hk; exact absurd rfl HD7_q2.out)))
          have ht8 := there_blk ht8 (hJ.block _ (there_lt ht8 (by omega)) (fun k hk => by rcases k with _ | _ | _ | _ | _ | _ | _ | _ | _ | k <;> first | (cases hk; done) | (cases hk; exact absurd rfl HD8_q2.out)))
          have ht9 := there_blk ht9 (hJ.block _ (there_lt ht9 (by omega)) (fun k hk => by rcases k with _ | _ | _ | _ | _ | _ | _ | _ | _ | k <;> first | (cases hk; done) | (cases hk; exact absurd rfl HD9_q2.out)))
          have HKB := Lib.hid (blk_keep HKB.out (hJ.block _ (HKB.out.lt) (fun k hk => by rcases k with _ | _ | _ | _ | _ | _ | _ | _ | _ | k <;> first | (cases hk; done) | (cases hk; exact absurd rfl HE_q2.out))))
          obtain ⟨_, hs13_7t, hs13_7⟩ := (show _ ∧ W13f.there q2 0 20 ∧ HasFs rE W13f q2 0 [-X, y, fn 1, (-X) * y] from hG 7 (by simp))
          have HC63 := Lib.hid (show u13f 0 = .bool true from hG 0 (by simp))
          have HC3 := Lib.hid (show u13f 8 = .int .i64 0 from hG 8 (by simp))
          have hbel0 := hbel
          clear hJ hG hall hb
          go_wp2
          exact ret_cell_slot (R := rE) Try.results10 (by exact E2.out) (by exact HC3.out) hs13_7 tyP4 rfl (fun r hr => ⟨r, by rw [(dec_yes HL.out HLW.out HY.out HRC.out HS.out (fun k => HX0.out (HX.out.symm.trans k.2))).1], toP (isPr hr (dec_pext (by rw [(dec_yes HL.out HLW.out HY.out HRC.out HS.out (fun k => HX0.out (HX.out.symm.trans k.2))).2.1, HX.out]; rfl) (dec_yes HL.out HLW.out HY.out HRC.out HS.out (fun k => HX0.out (HX.out.symm.trans k.2))).2.2)), hbel⟩)
theorem cDecode {a : Option Addr} {n cap : Nat} {l : List UInt8} {P : EP} {c : Int} {w : World} (hP : decV l = P) (hc : decC l = c) (h : RdB w a n cap l) :
    Calls Try.prog 10 #[.slice a n cap] w fun e w' => ∃ r, e = .returned (.tuple #[r, .int .i64 c]) ∧ IsFs rP r [P] ∧ Below w.heap.size w w' := by
  subst hP hc
  by_cases hn : n = 32
  · subst hn
    obtain ⟨b, q, rfl, hc0⟩ := h.get 31 (by rw [h.hlen]; omega)
    exact decode_32 w rfl h
  · obtain ⟨e1, e2⟩ := dec_len (b := l) (by rw [h.hlen]; exact hn)
    rw [e1, e2]
    exact decode_len w hn
end Go.Proofs.Ytjchdhpijopikaa
namespace Go.Proofs.Ytjchdhpijopikaa
open Go Go.RowKit
theorem dec_base : decV (88 :: List.replicate 31 102) = base ∧ decC (88 :: List.replicate 31 102) = 0 := by
  rw [← base_enc]
  unfold decV decC
  rw [decP_enc]
  exact ⟨rfl, rfl⟩
set_option maxRecDepth 100000 in
set_option maxHeartbeats 4000000 in
theorem cBase (w : World) : Calls Try.prog 16 #[] w fun e w' => ∃ r, e = .returned r ∧ IsFs rP r [base] ∧ Below w.heap.size w w' := by
  go_enter Try.func16, Try.ntmps16
  go_upto_region 3 with (go_at_call 63; go_must (refine (repeat_32' (k := w.heap.size + 1 + 1) (by simp) ?_).mono ?_; (focus (exact Blk.new' (cs := #[.int .u8 102]) (by simp))); rintro e w1 ⟨rfl, hB, hb⟩; have hN := hB.frozen 0; have hC : w1.cell? ⟨w.heap.size + 1 + 1, 0, none⟩ = some (.int .u8 102) := (by rw [hB.cell 0]; rfl); have HB := Lib.hid hB; have hbel : Below w.heap.size w w1 := Below.call (by repeat (first | (with_reducible refine Below.alloc' ?_ _) | (with_reducible refine Below.drew ?_) | (with_reducible refine below_drewN ?_ _) | ((with_reducible refine Below.setCell ?_ ?_ _); rotate_left; (focus (first | exact Nat.le_refl _ | (simp; done) | (simp; omega)))) | (with_reducible assumption) | (with_reducible exact Below.refl _ _))) hb; have htk : w1.there w.heap.size 0 20 := (fun j hj => (by have hO := (show Blk _ w.heap.size [.int .u64 0,.int .u64 0,.int .u64 0,.int .u64 0,.int .u64 0,.int .u64 0,.int .u64 0,.int .u64 0,.int .u64 0,.int .u64 0,.int .u64 0,.int .u64 0,.int .u64 0,.int .u64 0,.int .u64 0,.int .u64 0,.int .u64 0,.int .u64 0,.int .u64 0,.int .u64 0] 29 from (by repeat (first | (with_reducible refine Blk.drew ?_) | exact Blk.new' (by simp) | (with_reducible refine Blk.alloc ?_ _)))).below' hb; rw [Nat.zero_add, hO.cell, hO.frozen, List.getElem?_eq_getElem (by simp; omega)]; exact ⟨rfl, rfl⟩)); clear hb hB))
  have hD : Blk (w1.setCell ⟨w.heap.size + 1 + 1, 0, none⟩ (.int .u8 88)) (w.heap.size + 1 + 1) ((88 :: List.replicate 31 102).map bV ++ []) 5 := HB.out.set 0 (.int .u8 88)
  have hbel2 : Below w.heap.size w (w1.setCell ⟨w.heap.size + 1 + 1, 0, none⟩ (.int .u8 88)) := hbel.setCell (by simp; omega) _
  have htk2 : (w1.setCell ⟨w.heap.size + 1 + 1, 0, none⟩ (.int .u8 88)).there w.heap.size 0 20 := there_blk htk (set_other (by omega) _ _)
  clear hbel htk HB hN hC
  generalize w1.setCell ⟨w.heap.size + 1 + 1, 0, none⟩ (.int .u8 88) = W at *
  have hbel := hbel2
  have hbel0 := hbel
  have HD := Lib.hid hD
  clear hbel2 hD
  refine wp_region_turn (fun u => #[.pointer (some ⟨w.heap.size, 0, none⟩), .slice (some ⟨w.heap.size + 1 + 1, 0, none⟩) 32 32, u 5, u 7, .slice (some ⟨w.heap.size + 1, 0, none⟩) 1 1, .slice (some ⟨w.heap.size + 1 + 1, 0, none⟩) 32 32, .slice (some ⟨w.heap.size + 1 + 1, 0, none⟩) 32 32, .pointer (some ⟨w.heap.size + 1 + 1, 0, none⟩), u 2, u 0, u 1, u 3, u 4, undef]) (Holds [.oth (fun v => v = .slice (some ⟨w.heap.size + 1 + 1, 0, none⟩) 32 32), .oth (fun v => IsTV rP v [base] (.int .i64 0)), .oth (fun v => IsTV rP v [base] (.int .i64 0)), .val rP [base], .oth (fun v => v = .int .i64 0), .new 20, .st 5 rP [base], .oth (fun v => v = .int .i64 0)] W) (Keep [.oth (fun v => v = .slice (some ⟨w.heap.size + 1 + 1, 0, none⟩) 32 32), .oth (fun v => IsTV rP v [base] (.int .i64 0)), .oth (fun v => IsTV rP v [base] (.int .i64 0)), .val rP [base], .oth (fun v => v = .int .i64 0), .new 20, .st 5 rP [base], .oth (fun v => v = .int .i64 0)] W) (fun _ => undef) ?_ (by rfl) Keep.start (holds_soft (by kernel_rfl)) ?_ ?_
  · intro u i v h
    rcases i with _ | _ | _ | _ | _ | _ | _ | _ | i
    all_goals first | (simp [Act.put, putV]; done) | (exfalso; simp at h; omega)
  · intro hs
    refine ⟨?_, ?_, ?_, ?_, ?_, ?_, ?_, ?_, trivial⟩
    · exact step_pureO hs (wants_none rfl) rfl fun L u W hG hdep => ⟨_, run_move rfl, rfl⟩
    · refine step_callO hs (wants_none rfl) rfl fun L u W hJ hG hL hdep K hK => ?_
      have x0 := (show u 0 = .slice (some ⟨w.heap.size + 1 + 1, 0, none⟩) 32 32 from hG 0 (hdep 0 (by kernel_rfl)))
      have hRB0 := ((RdB.blk (n := 32) (cap := 32) [] HD.out (by rfl) (Nat.le_refl _) (by unfold maxLen; omega)).below (Below.refl _ _)).below (hJ.all rfl)
      go_simp
      go_at_call 10
      (with_reducible refine (cDecode dec_base.1 dec_base.2 hRB0).mono ?_); rintro e w1 ⟨r, rfl, hr, hb⟩
      have hk := hK.out _ _ ⟨r, rfl, hr⟩ hb
      simp only [x0] at hk
      exact hk
    · exact step_pureO hs (wants_none rfl) rfl fun L u W hG hdep => ⟨_, run_move rfl, (show IsTV rP (u 1) [base] (.int .i64 0) from hG 1 (hdep 1 (by kernel_rfl)))⟩
    · exact step_pure hs (wants_none rfl) rfl fun L u W hG hdep => run_extractV0 rfl (show IsTV rP (u 2) [base] (.int .i64 0) from hG 2 (hdep 2 (by kernel_rfl)))
    · exact step_pureO hs (wants_none rfl) rfl fun L u W hG hdep => run_extractV1 rfl (show IsTV rP (u 2) [base] (.int .i64 0) from hG 2 (hdep 2 (by kernel_rfl)))
    · exact step_alloc hs (wants_none rfl) rfl rfl (by omega) rfl allocP
    · exact step_store 5 hs (by kernel_rfl) (wants_none rfl) rfl rfl rfl (by kernel_rfl) (by kernel_rfl) (by kernel_rfl) (by kernel_rfl) (fun _ => rfl) (gives_op 3 rfl (by kernel_rfl) (fun _ => rfl)) tyP rfl
    · exact step_pureO hs (wants_none rfl) rfl fun L u W hG hdep => ⟨_, run_assign rfl, (show u 4 = .int .i64 0 from hG 4 (hdep 4 (by kernel_rfl)))⟩
  intro L3 u3 W3 hall hJ hG
  obtain ⟨q2, e2, hq2, _, ht2⟩ := (show ∃ g, u3 5 = .pointer (some ⟨g, 0, none⟩) ∧ W.heap.size ≤ g ∧ 0 < 20 ∧ W3.there g 0 20 from hG 5 (by simp))
  have hm2 : HasFs rP W3 q2 0 [base] := by
    obtain ⟨g, e, _, h⟩ := (show ∃ g, u3 5 = .pointer (some ⟨g, 0, none⟩) ∧ W.heap.size ≤ g ∧ HasFs rP W3 g 0 [base] from hG 6 (by simp))
    rw [e2] at e; cases e; exact h
  have HD2_wheapsize := Lib.hid (show w.heap.size ≠ q2 by have := there_lt htk2 (by omega); omega)
  have hq2 : w.heap.size ≤ q2 := by have := hbel0.size; omega
  have E2 := Lib.hid e2; clear e2
  have hb := hJ.all rfl
  have hbel := Below.call hbel hb
  have htk2 := there_later htk2 hb
  have HD := Lib.hid (HD.out.below' hb)
  have hbel0 := hbel
  clear hJ hG hall hb
  go_upto_region 4 with fail
  refine wp_region_turn (fun u => #[.pointer (some ⟨w.heap.size, 0, none⟩), .slice (some ⟨w.heap.size + 1 + 1, 0, none⟩) 32 32, u3 5, u3 7, .slice (some ⟨w.heap.size + 1, 0, none⟩) 1 1, .slice (some ⟨w.heap.size + 1 + 1, 0, none⟩) 32 32, .slice (some ⟨w.heap.size + 1 + 1, 0, none⟩) 32 32, .pointer (some ⟨w.heap.size + 1 + 1, 0, none⟩), u3 2, u3 0, u3 1, u3 3, u3 4, u 0]) (Holds [.val rP [base], .sto w.heap.size rP [base]] W3) (Keep [.val rP [base], .sto w.heap.size rP [base]] W3) (fun _ => undef) ?_ (by rfl) Keep.start (holds_soft (by kernel_rfl)) ?_ ?_
  · intro u i v h
    rcases i with _ | _ | i
    all_goals first | (simp [Act.put, putV]; done) | (exfalso; simp at h; omega)
  · intro hs
    refine ⟨?_, ?_, trivial⟩
    · exact step_load q2 0 hs (wants_none rfl) rfl rfl tyP (fun _ => E2.out) hm2.lt hm2 (fun k g hk => by rcases k with _ | _ | k <;> first | (cases hk; done) | (cases hk; exact .inr HD2_wheapsize.out))
    · refine step_storeO w.heap.size 20 hs (wants_none rfl) rfl rfl (by kernel_rfl) (fun k hk => ?_) (fun _ => rfl) (there_lt htk2 (by omega)) htk2 (gives_op 0 rfl (by kernel_rfl) (fun _ => rfl)) tyP rfl
      rcases k with _ | _ | k
      all_goals first | (exact absurd rfl hk) | (intro e; cases e; done)
  intro L4 u4 W4 hall hJ hG
  have hb : Below w.heap.size W3 W4 := hJ.below (by have := hbel.size; omega) (fun k b hf => by rcases k with _ | _ | k <;> first | (cases hf; done) | (cases hf; omega))
  have hbel := hbel.trans hb
  have hm2 := hm2.blk (hJ.block _ (hm2.lt) (fun k hk => by rcases k with _ | _ | k <;> first | (cases hk; done) | (cases hk; exact absurd rfl HD2_wheapsize.out)))
  have ht2 := there_blk ht2 (hJ.block _ (there_lt ht2 (by omega)) (fun k hk => by rcases k with _ | _ | k <;> first | (cases hk; done) | (cases hk; exact absurd rfl HD2_wheapsize.out)))
  obtain ⟨_, hs4_1t, hs4_1⟩ := (show _ ∧ W4.there w.heap.size 0 20 ∧ HasFs rP W4 w.heap.size 0 [base] from hG 1 (by simp))
  have hbel0 := hbel
  clear hJ hG hall hb
  go_wp2
  exact ret_cell1 (R := rP) Try.results16 (by exact rfl) hs4_1 tyP rfl (fun r hr => ⟨r, rfl, hr, hbel⟩)
end Go.Proofs.Ytjchdhpijopikaa
namespace Go.Proofs.Ytjchdhpijopikaa
open Go Go.RowKit
/-- a waits for b, through others. -/
inductive Path (wt : Nat → Nat → Bool) : Nat → Nat → Prop
  | one {a b : Nat} : wt a b = true → Path wt a b
  | cons {a c b : Nat} : wt a c = true → Path wt c b → Path wt a b
theorem Path.listed {wt : Nat → Nat → Bool} {L : Nat → Bool} (hcl : ∀ k d, L k = true → wt k d = true → L d = true) {a b : Nat} (h : Path wt a b) (ha : L a = true) : L b = true := by
  induction h with
  | one h => exact hcl _ _ ha h
  | cons h _ ih => exact ih (hcl _ _ ha h)
theorem Path.first {wt : Nat → Nat → Bool} {L : Nat → Bool} {a b : Nat} (hcl : ∀ k d, L k = true → wt k d = true → L d = true) (hdep : ∀ d, wt a d = true → L d = true) (h : Path wt a b) : L b = true := by
  cases h with
  | one h => exact hdep _ h
  | cons h h2 => exact h2.listed hcl (hdep _ h)
section
variable {α : Type} {R : Rp α} {ops : Array Oper} {wt : Nat → Nat → Bool} {Q : Exit → Act → World → Prop} {fr : (Nat → Value) → Array Value} {df : List Deferred} {l : List Fact} {W0 : World} {i : Nat} {o : Oper}
/-- A call that hands back bytes, for a while. -/
theorem step_callRt {bs : List UInt8} {v : Nat} (hs : Soft wt (Holds l W0)) (hg : Wants ops wt fr (Holds l W0) i o true) (hf : factAt l i = .rdt bs v)
    (h : ∀ L u w, Keep l W0 L u w → (∀ k, L k = true → Holds l W0 k L u w) → L i = false → (∀ d, wt i d = true → L d = true) → ∀ K : Act → World → Prop,
      Shut (∀ g n cap r w', w.heap.size ≤ g → Blk w' g (bs.map bV ++ r) 5 → bs.length = n → n ≤ cap → cap ≤ maxLen → Below w.heap.size w w' → K ((⟨fr u, df⟩ : Act).put o.dst (.slice (some ⟨g, 0, none⟩) n cap)) w') → Oper.wp Try.prog o ⟨fr u, df⟩ w K Q) :
    StepAt Try.prog ops wt Q fr df (Holds l W0) (Keep l W0) i o :=
  StepAt.soft hs hg fun L u W _ hJ hG hL hdep K hK => h L u W hJ hG hL hdep K (fun g n cap r w' h1 h2 h3 h4 h5 hb => hK.out _ w' hb (hJ.later hb (by rw [hf]; rfl)) (by
    unfold Holds; rw [hf]; simp only; rw [putV_same]
    exact ⟨g, n, cap, r, rfl, Nat.le_trans hJ.size h1, h3, h4, h5, fun _ => h2⟩))
/-- A slice that is written out. -/
theorem step_buildB {n : Nat} {m : List UInt8} (hs : Soft wt (Holds l W0)) (hg : Wants ops wt fr (Holds l W0) i o true) (hf : factAt l i = .rd m) (hm : m.length = n) (hM : n ≤ maxLen)
    (hr : ∀ L u w, (∀ k, L k = true → Holds l W0 k L u w) → (∀ d, wt i d = true → L d = true) → (execOp (⟨fr u, df⟩ : Act).eval o).run Try.prog w = .ok (.value (.slice (some ⟨w.heap.size, 0, none⟩) n n)) (w.alloc (.cells (m.map bV).toArray 5))) :
    StepAt Try.prog ops wt Q fr df (Holds l W0) (Keep l W0) i o := by
  refine StepAt.soft hs hg fun L u W hcl hJ hG hL hdep K hK => ?_
  unfold Oper.wp
  rw [hr L u W hG hdep]
  have hb : Below W.heap.size W (W.alloc (.cells (m.map bV).toArray 5)) := (Below.refl _ _).alloc (Nat.le_refl _) _
  refine hK.out _ _ hb (hJ.later hb (by rw [hf]; rfl)) ?_
  unfold Holds; rw [hf]; simp only; rw [putV_same]
  exact ⟨_, _, _, [], rfl, hJ.size, by have := Blk.new W (m.map bV).toArray 5; simpa using this, hm, Nat.le_refl _, hM⟩
end
end Go.Proofs.Ytjchdhpijopikaa
namespace Go.Proofs.Ytjchdhpijopikaa
open Go.RowKit
end Go.Proofs.Ytjchdhpijopikaa
namespace Go.Proofs.Ytjchdhpijopikaa
open Go Go.RowKit
end Go.Proofs.Ytjchdhpijopikaa
