/- The walks of the document's own field, fourteenth part: square roots, the walk. -/
import Derived.Test.YtfjaplggohflbaaRrp
import Derived.Test.YtfjaplggohflbaaRegs
namespace Go.Proofs.Ytfjaplggohflbaa
open Go Go.RowKit

theorem root_odd {x r : F} (hc : cand x = r) (h : r * r = x) (hp : r.val % 2 = 1) : rootV x = -r := by unfold rootV; rw [hc, if_pos h, if_pos hp]
theorem root_even {x r : F} (hc : cand x = r) (h : r * r = x) (hp : ¬ r.val % 2 = 1) : rootV x = r := by unfold rootV; rw [hc, if_pos h, if_neg hp]
theorem root_c0 {x r : F} (hc : cand x = r) (h : r * r = x) : rootC x = 0 := by unfold rootC; rw [hc, if_pos h]
theorem root_no {x r : F} (hc : cand x = r) (h : ¬ r * r = x) : rootV x = 0 ∧ rootC x = 7 := by unfold rootV rootC; rw [hc, if_neg h, if_neg h]; exact ⟨rfl, rfl⟩
set_option maxHeartbeats 4000000 in
theorem rroot_core (x r t : F) (hr : fpow x exp8 = r) (ht : fpow (fn 2) (beF (pwF 31 251) 32) = t) (hcd : cand x = if r * r = x then r else r * t) {v0 : Value} (h0 : IsFs rR v0 [x]) (w : World) :
    Calls Try.prog 35 #[v0] w fun e w' => ∃ s, e = .returned (.tuple #[s, .int .i64 (rootC x)]) ∧ IsFs rR s [rootV x] ∧ Below w.heap.size w w' := by
  have HR := Lib.hid hr
  have HT := Lib.hid ht
  have HCD := Lib.hid hcd
  clear hr ht hcd
  go_enter Try.func35, Try.ntmps35
  have hbel : Below w.heap.size w w := Below.refl _ _
  have hbel0 := hbel
  go_upto_region 0 with fail
  refine wp_region_turn (fun u => #[v0, u 0, u 1, u 2, undef, undef, undef, undef, undef, undef, undef, undef, undef, undef, undef, undef, undef, undef, undef, undef, undef, undef, undef, undef, undef, undef, undef, undef, undef, undef, undef]) (Holds [.box rR [x], .new 16, .oth (fun v => v = .int .i64 0)] w) (Keep [.box rR [x], .new 16, .oth (fun v => v = .int .i64 0)] w) (fun _ => undef) ?_ (by rfl) Keep.start (holds_soft (by kernel_rfl)) ?_ ?_
  · intro u i v h
    rcases i with _ | _ | _ | i
    all_goals first | (simp [Act.put, putV]; done) | (exfalso; simp at h; omega)
  · intro hs
    refine ⟨?_, ?_, ?_, trivial⟩
    · exact step_box hs (wants_none rfl) rfl rfl (gives_c h0 (fun _ => rfl))
    · exact step_alloc hs (wants_none rfl) rfl rfl (by omega) rfl allocFe
    · exact step_pureO hs (wants_none rfl) rfl fun L u W hG hdep => ⟨_, run_assign rfl, rfl⟩
  intro L0 u0 W0 hall hJ hG
  obtain ⟨q1, e1, ⟨hq1, _⟩, ht1, hm1⟩ := (show ∃ g, u0 0 = .pointer (some ⟨g, 0, none⟩) ∧ (w.heap.size ≤ g ∧ g < W0.heap.size) ∧ W0.there g 0 16 ∧ HasFs rR W0 g 0 [x] from hG 0 (by simp))
  have hq1 : w.heap.size ≤ q1 := by have := hbel0.size; omega
  have E1 := Lib.hid e1; clear e1
  obtain ⟨q2, e2, hq2, _, ht2⟩ := (show ∃ g, u0 1 = .pointer (some ⟨g, 0, none⟩) ∧ w.heap.size ≤ g ∧ 0 < 16 ∧ W0.there g 0 16 from hG 1 (by simp))
  have hq2 : w.heap.size ≤ q2 := by have := hbel0.size; omega
  have E2 := Lib.hid e2; clear e2
  have hb := hJ.all rfl
  have hbel := Below.call hbel hb
  have HN1_2 := Lib.hid (show q1 ≠ q2 from fun e => hJ.apart 0 1 _ (by omega) (hall _ (by simp)) (hall _ (by simp)) rfl rfl (E1.out.trans (by rw [e])) E2.out)
  have hbel0 := hbel
  clear hJ hG hall hb
  go_upto_region 1 with fail
  refine wp_region_mid (fun u => #[v0, u0 0, u0 1, u0 2, u 3, u 0, u 1, u 2, undef, undef, undef, undef, undef, undef, undef, undef, undef, undef, undef, undef, undef, undef, undef, undef, undef, undef, undef, undef, undef, undef, undef]) (Holds [.val rR [x], .tmp 32 (row 32 (uV (pwF 15 254))) 2, .val rR [r], .new 16, .st 3 rR [r]] W0) (Keep [.val rR [x], .tmp 32 (row 32 (uV (pwF 15 254))) 2, .val rR [r], .new 16, .st 3 rR [r]] W0) (fun _ => undef) (by kernel_rfl) (by kernel_rfl) ?_ (by rfl) Keep.drew (holds_soft (by kernel_rfl)) ?_ ?_
  · intro u i v h
    rcases i with _ | _ | _ | _ | _ | i
    all_goals first | (simp [Act.put, putV]; done) | (exfalso; simp at h; omega)
  · intro hs
    refine ⟨?_, ?_, ?_, ?_, ?_, trivial⟩
    · exact step_load q1 0 hs (wants_none rfl) rfl rfl tyFe (fun _ => E1.out) hm1.lt hm1 (noSto_apart (by kernel_rfl))
    · refine step_callT hs (wants_none rfl) rfl fun L u W hJ hG hdep K hK => ?_
      go_simp
      go_at_call 51
      (with_reducible refine (rpow15 _).mono ?_); rintro e w1 ⟨rfl, h1, hb⟩
      have hk := hK.out _ _ h1 hb
      exact hk
    · refine step_call hs (wants_none rfl) rfl fun L u W hJ hG hL hdep K hK => ?_
      have a0 := (show IsFs rR (u 0) [x] from hG 0 (hdep 0 (by kernel_rfl)))
      obtain ⟨gT, x0, hT⟩ := (show ∃ g, u 1 = .slice (some ⟨g, 0, none⟩) 32 32 ∧ (L 2 = false → Blk W g (row 32 (uV (pwF 15 254))) 5) from hG 1 (hdep 1 (by kernel_rfl)))
      have hT := hT hL
      go_simp
      go_at_call 50
      (with_reducible refine (kPow 15 254 exp8 (by omega) (by omega) be_8 HR.out a0 hT).mono ?_); rintro e w1 ⟨r, rfl, hr, hb⟩
      have hk := hK.out _ _ hr hb
      simp only [x0] at hk
      exact hk
    · exact step_alloc hs (wants_none rfl) rfl rfl (by omega) rfl allocFe
    · exact step_store 3 hs (by kernel_rfl) (wants_none rfl) rfl rfl rfl (by kernel_rfl) (by kernel_rfl) (by kernel_rfl) (by kernel_rfl) (fun _ => rfl) (gives_op 2 rfl (by kernel_rfl) (fun _ => rfl)) tyFe rfl
  intro L1 u1 W1 hall hJ hG
  obtain ⟨q4, e4, hq4, _, ht4⟩ := (show ∃ g, u1 3 = .pointer (some ⟨g, 0, none⟩) ∧ W0.heap.size ≤ g ∧ 0 < 16 ∧ W1.there g 0 16 from hG 3 (by simp))
  have hm4 : HasFs rR W1 q4 0 [r] := by
    obtain ⟨g, e, _, h⟩ := (show ∃ g, u1 3 = .pointer (some ⟨g, 0, none⟩) ∧ W0.heap.size ≤ g ∧ HasFs rR W1 g 0 [r] from hG 4 (by simp))
    rw [e4] at e; cases e; exact h
  have HD4_q1 := Lib.hid (show q1 ≠ q4 by have := there_lt ht1 (by omega); omega)
  have HD4_q2 := Lib.hid (show q2 ≠ q4 by have := there_lt ht2 (by omega); omega)
  have hq4 : w.heap.size ≤ q4 := by have := hbel0.size; omega
  have E4 := Lib.hid e4; clear e4
  have hb := hJ.all rfl
  have hbel := Below.call hbel hb
  have hm1 := hm1.later hb
  have ht1 := there_later ht1 hb
  have ht2 := there_later ht2 hb
  have hbel0 := hbel
  clear hJ hG hall hb
  go_upto_region 2 with fail
  refine wp_region_mid (fun u => #[v0, u0 0, u0 1, u0 2, u1 3, u1 0, u1 1, u1 2, u 0, u 1, u 2, u 3, u 4, undef, undef, undef, undef, undef, undef, undef, undef, undef, undef, undef, undef, undef, undef, undef, undef, undef, undef]) (Holds [.val rR [r], .val rR [r], .val rR [r * r], .val rR [x], .oth (fun v => v = .bool (!decide (r * r = x)))] W1) (Keep [.val rR [r], .val rR [r], .val rR [r * r], .val rR [x], .oth (fun v => v = .bool (!decide (r * r = x)))] W1) (fun _ => undef) (by kernel_rfl) (by kernel_rfl) ?_ (by rfl) Keep.drew (holds_soft (by kernel_rfl)) ?_ ?_
  · intro u i v h
    rcases i with _ | _ | _ | _ | _ | i
    all_goals first | (simp [Act.put, putV]; done) | (exfalso; simp at h; omega)
  · intro hs
    refine ⟨?_, ?_, ?_, ?_, ?_, trivial⟩
    · exact step_load q4 0 hs (wants_none rfl) rfl rfl tyFe (fun _ => E4.out) hm4.lt hm4 (noSto_apart (by kernel_rfl))
    · exact step_load q4 0 hs (wants_none rfl) rfl rfl tyFe (fun _ => E4.out) hm4.lt hm4 (noSto_apart (by kernel_rfl))
    · refine step_call hs (wants_none rfl) rfl fun L u W hJ hG hL hdep K hK => ?_
      have a0 := (show IsFs rR (u 0) [r] from hG 0 (hdep 0 (by kernel_rfl)))
      have a1 := (show IsFs rR (u 1) [r] from hG 1 (hdep 1 (by kernel_rfl)))
      go_simp
      go_at_call 32
      (with_reducible refine (kMul a0 a1 _).mono ?_); rintro e w1 ⟨r, rfl, hr, hb⟩
      have hk := hK.out _ _ hr hb
      exact hk
    · exact step_load q1 0 hs (wants_none rfl) rfl rfl tyFe (fun _ => E1.out) hm1.lt hm1 (noSto_apart (by kernel_rfl))
    · exact step_pureO hs (wants_none rfl) rfl fun L u W hG hdep => ⟨_, run_neqR rfl (show IsFs rR (u 2) [r * r] from hG 2 (hdep 2 (by kernel_rfl))) (show IsFs rR (u 3) [x] from hG 3 (hdep 3 (by kernel_rfl))), rfl⟩
  intro L2 u2 W2 hall hJ hG
  have hb := hJ.all rfl
  have hbel := Below.call hbel hb
  have hm1 := hm1.later hb
  have hm4 := hm4.later hb
  have ht1 := there_later ht1 hb
  have ht2 := there_later ht2 hb
  have ht4 := there_later ht4 hb
  have HC12 := Lib.hid (show u2 4 = .bool (!decide (r * r = x)) from hG 4 (by simp))
  have hbel0 := hbel
  clear hJ hG hall hb
  by_cases hq : r * r = x
  · have HQ := Lib.hid hq
    have HC : Hid (cand x = r) := Lib.hid (by rw [HCD.out, if_pos hq])
    clear hq
    have hx : u2 4 = .bool false := by rw [HC12.out, decide_eq_true HQ.out]; rfl
    go_wp2_with fail
    rw [hx]
    clear hx
    go_upto_region 4 with fail
    refine wp_region_mid (fun u => #[v0, u0 0, u0 1, u0 2, u1 3, u1 0, u1 1, u1 2, u2 0, u2 1, u2 2, u2 3, .bool false, undef, undef, undef, undef, undef, u 0, u 1, u 2, u 3, u 4, undef, undef, undef, undef, undef, undef, undef, undef]) (Holds [.val rR [r], .val rR [r], .val rR [r * r], .val rR [x], .oth (fun v => v = .bool (!decide (r * r = x)))] W2) (Keep [.val rR [r], .val rR [r], .val rR [r * r], .val rR [x], .oth (fun v => v = .bool (!decide (r * r = x)))] W2) (fun _ => undef) (by kernel_rfl) (by kernel_rfl) ?_ (by rfl) Keep.drew (holds_soft (by kernel_rfl)) ?_ ?_
    · intro u i v h
      rcases i with _ | _ | _ | _ | _ | i
      all_goals first | (simp [Act.put, putV]; done) | (exfalso; simp at h; omega)
    · intro hs
      refine ⟨?_, ?_, ?_, ?_, ?_, trivial⟩
      · exact step_load q4 0 hs (wants_none rfl) rfl rfl tyFe (fun _ => E4.out) hm4.lt hm4 (noSto_apart (by kernel_rfl))
      · exact step_load q4 0 hs (wants_none rfl) rfl rfl tyFe (fun _ => E4.out) hm4.lt hm4 (noSto_apart (by kernel_rfl))
      · refine step_call hs (wants_none rfl) rfl fun L u W hJ hG hL hdep K hK => ?_
        have a0 := (show IsFs rR (u 0) [r] from hG 0 (hdep 0 (by kernel_rfl)))
        have a1 := (show IsFs rR (u 1) [r] from hG 1 (hdep 1 (by kernel_rfl)))
        go_simp
        go_at_call 32
        (with_reducible refine (kMul a0 a1 _).mono ?_); rintro e w1 ⟨r, rfl, hr, hb⟩
        have hk := hK.out _ _ hr hb
        exact hk
      · exact step_load q1 0 hs (wants_none rfl) rfl rfl tyFe (fun _ => E1.out) hm1.lt hm1 (noSto_apart (by kernel_rfl))
      · exact step_pureO hs (wants_none rfl) rfl fun L u W hG hdep => ⟨_, run_neqR rfl (show IsFs rR (u 2) [r * r] from hG 2 (hdep 2 (by kernel_rfl))) (show IsFs rR (u 3) [x] from hG 3 (hdep 3 (by kernel_rfl))), rfl⟩
    intro L4 u4 W4 hall hJ hG
    have hb := hJ.all rfl
    have hbel := Below.call hbel hb
    have hm1 := hm1.later hb
    have hm4 := hm4.later hb
    have ht1 := there_later ht1 hb
    have ht2 := there_later ht2 hb
    have ht4 := there_later ht4 hb
    have HC22 := Lib.hid (show u4 4 = .bool (!decide (r * r = x)) from hG 4 (by simp))
    have hbel0 := hbel
    clear hJ hG hall hb
    have hx : u4 4 = .bool false := by rw [HC22.out, decide_eq_true HQ.out]; rfl
    go_wp2_with fail
    rw [hx]
    clear hx
    have e4 := E4.out
    have hc0 := hm4.cell0
    by_cases hp : (r).val % 2 = 1
    · have ho : (bits BinOp.and IntKind.u64 ((d16 (r).val 0 : Nat) : Int) 1 == 1) = true := by rw [odd16, hp]; rfl
      have HP := Lib.hid hp
      clear hp
      generalize hdd : d16 (r).val 0 = dd at *
      clear hdd
      go_upto_region 7 with fail
      clear e4 hc0 ho
      refine wp_region_turn (fun u => #[v0, u0 0, u0 1, u0 2, u1 3, u1 0, u1 1, u1 2, u2 0, u2 1, u2 2, u2 3, .bool false, undef, undef, undef, undef, undef, u4 0, u4 1, u4 2, u4 3, .bool false, undef, .pointer (some ⟨q4, 0, none⟩), .int .u64 (dd : Nat), .int .u64 (bits BinOp.and IntKind.u64 ((dd : Nat) : Int) 1), .bool true, u 0, u 1, undef]) (Holds [.val rR [r], .val rR [-r], .sto q4 rR [-r]] W4) (Keep [.val rR [r], .val rR [-r], .sto q4 rR [-r]] W4) (fun _ => undef) ?_ (by rfl) Keep.start (holds_soft (by kernel_rfl)) ?_ ?_
      · intro u i v h
        rcases i with _ | _ | _ | i
        all_goals first | (simp [Act.put, putV]; done) | (exfalso; simp at h; omega)
      · intro hs
        refine ⟨?_, ?_, ?_, trivial⟩
        · exact step_load q4 0 hs (wants_none rfl) rfl rfl tyFe (fun _ => E4.out) hm4.lt hm4 (fun k g R' ys hk => by rcases k with _ | _ | _ | k <;> first | (cases hk; done) | (cases hk; exact .inl (by kernel_rfl)))
        · refine step_call hs (wants_none rfl) rfl fun L u W hJ hG hL hdep K hK => ?_
          have a0 := (show IsFs rR (u 0) [r] from hG 0 (hdep 0 (by kernel_rfl)))
          go_simp
          go_at_call 33
          (with_reducible refine (kNeg a0 _).mono ?_); rintro e w1 ⟨r, rfl, hr, hb⟩
          have hk := hK.out _ _ hr hb
          exact hk
        · refine step_storeO q4 16 hs (wants_none rfl) rfl rfl (by kernel_rfl) (fun k R' ys hk => ?_) (fun _ => E4.out) (there_lt ht4 (by omega)) ht4 (gives_op 1 rfl (by kernel_rfl) (fun _ => rfl)) tyFe rfl
          rcases k with _ | _ | _ | k
          all_goals first | (exact absurd rfl hk) | (intro e; cases e; done)
      intro L7 u7 W7 hall hJ hG
      have hb : Below w.heap.size W4 W7 := hJ.below (by have := hbel.size; omega) (fun k b R xs hf => by rcases k with _ | _ | _ | k <;> first | (cases hf; done) | (injection hf; omega))
      have hbel := hbel.trans hb
      have hm1 := hm1.blk (hJ.block _ (hm1.lt) (fun k R' ys hk => by rcases k with _ | _ | _ | k <;> first | (cases hk; done) | (cases hk; exact absurd rfl (Ne.symm HD4_q1.out))))
      have ht1 := there_blk ht1 (hJ.block _ (there_lt ht1 (by omega)) (fun k R' ys hk => by rcases k with _ | _ | _ | k <;> first | (cases hk; done) | (cases hk; exact absurd rfl (Ne.symm HD4_q1.out))))
      have ht2 := there_blk ht2 (hJ.block _ (there_lt ht2 (by omega)) (fun k R' ys hk => by rcases k with _ | _ | _ | k <;> first | (cases hk; done) | (cases hk; exact absurd rfl (Ne.symm HD4_q2.out))))
      obtain ⟨_, hs7_2t, hs7_2⟩ := (show _ ∧ W7.there q4 0 16 ∧ HasFs rR W7 q4 0 [-r] from hG 2 (by simp))
      have hbel0 := hbel
      clear hJ hG hall hb
      go_upto_region 8 with fail
      refine wp_region_turn (fun u => #[v0, u0 0, u0 1, u 2, u1 3, u1 0, u1 1, u1 2, u2 0, u2 1, u2 2, u2 3, .bool false, undef, undef, undef, undef, undef, u4 0, u4 1, u4 2, u4 3, .bool false, undef, .pointer (some ⟨q4, 0, none⟩), .int .u64 (dd : Nat), .int .u64 (bits BinOp.and IntKind.u64 ((dd : Nat) : Int) 1), .bool true, u7 0, u7 1, u 0]) (Holds [.val rR [-r], .sto q2 rR [-r], .oth (fun v => v = .int .i64 0)] W7) (Keep [.val rR [-r], .sto q2 rR [-r], .oth (fun v => v = .int .i64 0)] W7) (fun k => ([undef, undef, u0 2] : List Value).getD k undef) ?_ (by rfl) Keep.start (holds_soft (by kernel_rfl)) ?_ ?_
      · intro u i v h
        rcases i with _ | _ | _ | i
        all_goals first | (simp [Act.put, putV]; done) | (exfalso; simp at h; omega)
      · intro hs
        refine ⟨?_, ?_, ?_, trivial⟩
        · exact step_load q4 0 hs (wants_none rfl) rfl rfl tyFe (fun _ => E4.out) hs7_2.lt hs7_2 (fun k g R' ys hk => by rcases k with _ | _ | _ | k <;> first | (cases hk; done) | (cases hk; exact .inr HD4_q2.out))
        · refine step_storeO q2 16 hs (wants_none rfl) rfl rfl (by kernel_rfl) (fun k R' ys hk => ?_) (fun _ => E2.out) (there_lt ht2 (by omega)) ht2 (gives_op 0 rfl (by kernel_rfl) (fun _ => rfl)) tyFe rfl
          rcases k with _ | _ | _ | k
          all_goals first | (exact absurd rfl hk) | (intro e; cases e; done)
        · exact step_pureO hs (wants_none rfl) rfl fun L u W hG hdep => ⟨_, run_assign rfl, rfl⟩
      intro L8 u8 W8 hall hJ hG
      have hb : Below w.heap.size W7 W8 := hJ.below (by have := hbel.size; omega) (fun k b R xs hf => by rcases k with _ | _ | _ | k <;> first | (cases hf; done) | (injection hf; omega))
      have hbel := hbel.trans hb
      have hm1 := hm1.blk (hJ.block _ (hm1.lt) (fun k R' ys hk => by rcases k with _ | _ | _ | k <;> first | (cases hk; done) | (cases hk; exact absurd rfl (Ne.symm HN1_2.out))))
      have hs7_2 := hs7_2.blk (hJ.block _ (hs7_2.lt) (fun k R' ys hk => by rcases k with _ | _ | _ | k <;> first | (cases hk; done) | (cases hk; exact absurd rfl HD4_q2.out)))
      have ht1 := there_blk ht1 (hJ.block _ (there_lt ht1 (by omega)) (fun k R' ys hk => by rcases k with _ | _ | _ | k <;> first | (cases hk; done) | (cases hk; exact absurd rfl (Ne.symm HN1_2.out))))
      have hs7_2t := there_blk hs7_2t (hJ.block _ (there_lt hs7_2t (by omega)) (fun k R' ys hk => by rcases k with _ | _ | _ | k <;> first | (cases hk; done) | (cases hk; exact absurd rfl HD4_q2.out)))
      obtain ⟨_, hs8_1t, hs8_1⟩ := (show _ ∧ W8.there q2 0 16 ∧ HasFs rR W8 q2 0 [-r] from hG 1 (by simp))
      have HC3 := Lib.hid (show u8 2 = .int .i64 0 from hG 2 (by simp))
      have hbel0 := hbel
      clear hJ hG hall hb
      go_wp2
      exact ret_cell_slot (R := rR) Try.results35 (by exact E2.out) (by exact HC3.out) hs8_1 tyFe rfl (fun s hs => ⟨s, by rw [root_c0 HC.out HQ.out], by rw [root_odd HC.out HQ.out HP.out]; exact hs, hbel⟩)
    · have ho : (bits BinOp.and IntKind.u64 ((d16 (r).val 0 : Nat) : Int) 1 == 1) = false := by rw [odd16, show (r).val % 2 = 0 by omega]; rfl
      have HP := Lib.hid hp
      clear hp
      generalize hdd : d16 (r).val 0 = dd at *
      clear hdd
      go_upto_region 8 with fail
      clear e4 hc0 ho
      refine wp_region_turn (fun u => #[v0, u0 0, u0 1, u 2, u1 3, u1 0, u1 1, u1 2, u2 0, u2 1, u2 2, u2 3, .bool false, undef, undef, undef, undef, undef, u4 0, u4 1, u4 2, u4 3, .bool false, undef, .pointer (some ⟨q4, 0, none⟩), .int .u64 (dd : Nat), .int .u64 (bits BinOp.and IntKind.u64 ((dd : Nat) : Int) 1), .bool false, undef, undef, u 0]) (Holds [.val rR [r], .sto q2 rR [r], .oth (fun v => v = .int .i64 0)] W4) (Keep [.val rR [r], .sto q2 rR [r], .oth (fun v => v = .int .i64 0)] W4) (fun k => ([undef, undef, u0 2] : List Value).getD k undef) ?_ (by rfl) Keep.start (holds_soft (by kernel_rfl)) ?_ ?_
      · intro u i v h
        rcases i with _ | _ | _ | i
        all_goals first | (simp [Act.put, putV]; done) | (exfalso; simp at h; omega)
      · intro hs
        refine ⟨?_, ?_, ?_, trivial⟩
        · exact step_load q4 0 hs (wants_none rfl) rfl rfl tyFe (fun _ => E4.out) hm4.lt hm4 (fun k g R' ys hk => by rcases k with _ | _ | _ | k <;> first | (cases hk; done) | (cases hk; exact .inr HD4_q2.out))
        · refine step_storeO q2 16 hs (wants_none rfl) rfl rfl (by kernel_rfl) (fun k R' ys hk => ?_) (fun _ => E2.out) (there_lt ht2 (by omega)) ht2 (gives_op 0 rfl (by kernel_rfl) (fun _ => rfl)) tyFe rfl
          rcases k with _ | _ | _ | k
          all_goals first | (exact absurd rfl hk) | (intro e; cases e; done)
        · exact step_pureO hs (wants_none rfl) rfl fun L u W hG hdep => ⟨_, run_assign rfl, rfl⟩
      intro L8 u8 W8 hall hJ hG
      have hb : Below w.heap.size W4 W8 := hJ.below (by have := hbel.size; omega) (fun k b R xs hf => by rcases k with _ | _ | _ | k <;> first | (cases hf; done) | (injection hf; omega))
      have hbel := hbel.trans hb
      have hm1 := hm1.blk (hJ.block _ (hm1.lt) (fun k R' ys hk => by rcases k with _ | _ | _ | k <;> first | (cases hk; done) | (cases hk; exact absurd rfl (Ne.symm HN1_2.out))))
      have hm4 := hm4.blk (hJ.block _ (hm4.lt) (fun k R' ys hk => by rcases k with _ | _ | _ | k <;> first | (cases hk; done) | (cases hk; exact absurd rfl HD4_q2.out)))
      have ht1 := there_blk ht1 (hJ.block _ (there_lt ht1 (by omega)) (fun k R' ys hk => by rcases k with _ | _ | _ | k <;> first | (cases hk; done) | (cases hk; exact absurd rfl (Ne.symm HN1_2.out))))
      have ht4 := there_blk ht4 (hJ.block _ (there_lt ht4 (by omega)) (fun k R' ys hk => by rcases k with _ | _ | _ | k <;> first | (cases hk; done) | (cases hk; exact absurd rfl HD4_q2.out)))
      obtain ⟨_, hs8_1t, hs8_1⟩ := (show _ ∧ W8.there q2 0 16 ∧ HasFs rR W8 q2 0 [r] from hG 1 (by simp))
      have HC3 := Lib.hid (show u8 2 = .int .i64 0 from hG 2 (by simp))
      have hbel0 := hbel
      clear hJ hG hall hb
      go_wp2
      exact ret_cell_slot (R := rR) Try.results35 (by exact E2.out) (by exact HC3.out) hs8_1 tyFe rfl (fun s hs => ⟨s, by rw [root_c0 HC.out HQ.out], by rw [root_even HC.out HQ.out HP.out]; exact hs, hbel⟩)
  · have HQ := Lib.hid hq
    have HC : Hid (cand x = r * t) := Lib.hid (by rw [HCD.out, if_neg hq])
    clear hq
    have hx : u2 4 = .bool true := by rw [HC12.out, decide_eq_false HQ.out]; rfl
    go_wp2_with fail
    rw [hx]
    clear hx
    go_upto_region 3 with fail
    refine wp_region_mid (fun u => #[v0, u0 0, u0 1, u0 2, u1 3, u1 0, u1 1, u1 2, u2 0, u2 1, u2 2, u2 3, .bool true, u 0, u 1, u 2, u 3, u 4, undef, undef, undef, undef, undef, undef, undef, undef, undef, undef, undef, undef, undef]) (Holds [.val rR [r], .val rR [fn 2], .tmp 32 (row 32 (uV (pwF 31 251))) 3, .val rR [t], .val rR [r * t], .sto q4 rR [r * t]] W2) (Keep [.val rR [r], .val rR [fn 2], .tmp 32 (row 32 (uV (pwF 31 251))) 3, .val rR [t], .val rR [r * t], .sto q4 rR [r * t]] W2) (fun _ => undef) (by kernel_rfl) (by kernel_rfl) ?_ (by rfl) Keep.drew (holds_soft (by kernel_rfl)) ?_ ?_
    · intro u i v h
      rcases i with _ | _ | _ | _ | _ | _ | i
      all_goals first | (simp [Act.put, putV]; done) | (exfalso; simp at h; omega)
    · intro hs
      refine ⟨?_, ?_, ?_, ?_, ?_, ?_, trivial⟩
      · exact step_load q4 0 hs (wants_none rfl) rfl rfl tyFe (fun _ => E4.out) hm4.lt hm4 (fun k g R' ys hk => by rcases k with _ | _ | _ | _ | _ | _ | k <;> first | (cases hk; done) | (cases hk; exact .inl (by kernel_rfl)))
      · refine step_call hs (wants_none rfl) rfl fun L u W hJ hG hL hdep K hK => ?_
        go_simp
        go_at_call 29
        (with_reducible refine (kSmallI (n := 2) (z := 2) rfl (by omega) _).mono ?_); rintro e w1 ⟨r, rfl, hr, hb⟩
        have hk := hK.out _ _ hr hb
        exact hk
      · refine step_callT hs (wants_none rfl) rfl fun L u W hJ hG hdep K hK => ?_
        go_simp
        go_at_call 51
        (with_reducible refine (rpow31 _).mono ?_); rintro e w1 ⟨rfl, h1, hb⟩
        have hk := hK.out _ _ h1 hb
        exact hk
      · refine step_call hs (wants_none rfl) rfl fun L u W hJ hG hL hdep K hK => ?_
        have a0 := (show IsFs rR (u 1) [fn 2] from hG 1 (hdep 1 (by kernel_rfl)))
        obtain ⟨gT, x0, hT⟩ := (show ∃ g, u 2 = .slice (some ⟨g, 0, none⟩) 32 32 ∧ (L 3 = false → Blk W g (row 32 (uV (pwF 31 251))) 5) from hG 2 (hdep 2 (by kernel_rfl)))
        have hT := hT hL
        go_simp
        go_at_call 50
        (with_reducible refine (kPow 31 251 _ (by omega) (by omega) rfl HT.out a0 hT).mono ?_); rintro e w1 ⟨r, rfl, hr, hb⟩
        have hk := hK.out _ _ hr hb
        simp only [x0] at hk
        exact hk
      · refine step_call hs (wants_none rfl) rfl fun L u W hJ hG hL hdep K hK => ?_
        have a0 := (show IsFs rR (u 0) [r] from hG 0 (hdep 0 (by kernel_rfl)))
        have a1 := (show IsFs rR (u 3) [t] from hG 3 (hdep 3 (by kernel_rfl)))
        go_simp
        go_at_call 32
        (with_reducible refine (kMul a0 a1 _).mono ?_); rintro e w1 ⟨r, rfl, hr, hb⟩
        have hk := hK.out _ _ hr hb
        exact hk
      · refine step_storeO q4 16 hs (wants_none rfl) rfl rfl (by kernel_rfl) (fun k R' ys hk => ?_) (fun _ => E4.out) (there_lt ht4 (by omega)) ht4 (gives_op 4 rfl (by kernel_rfl) (fun _ => rfl)) tyFe rfl
        rcases k with _ | _ | _ | _ | _ | _ | k
        all_goals first | (exact absurd rfl hk) | (intro e; cases e; done)
    intro L3 u3 W3 hall hJ hG
    have hb : Below w.heap.size W2 W3 := hJ.below (by have := hbel.size; omega) (fun k b R xs hf => by rcases k with _ | _ | _ | _ | _ | _ | k <;> first | (cases hf; done) | (injection hf; omega))
    have hbel := hbel.trans hb
    have hm1 := hm1.blk (hJ.block _ (hm1.lt) (fun k R' ys hk => by rcases k with _ | _ | _ | _ | _ | _ | k <;> first | (cases hk; done) | (cases hk; exact absurd rfl (Ne.symm HD4_q1.out))))
    have ht1 := there_blk ht1 (hJ.block _ (there_lt ht1 (by omega)) (fun k R' ys hk => by rcases k with _ | _ | _ | _ | _ | _ | k <;> first | (cases hk; done) | (cases hk; exact absurd rfl (Ne.symm HD4_q1.out))))
    have ht2 := there_blk ht2 (hJ.block _ (there_lt ht2 (by omega)) (fun k R' ys hk => by rcases k with _ | _ | _ | _ | _ | _ | k <;> first | (cases hk; done) | (cases hk; exact absurd rfl (Ne.symm HD4_q2.out))))
    obtain ⟨_, hs3_5t, hs3_5⟩ := (show _ ∧ W3.there q4 0 16 ∧ HasFs rR W3 q4 0 [r * t] from hG 5 (by simp))
    have hbel0 := hbel
    clear hJ hG hall hb
    go_upto_region 4 with fail
    refine wp_region_mid (fun u => #[v0, u0 0, u0 1, u0 2, u1 3, u1 0, u1 1, u1 2, u2 0, u2 1, u2 2, u2 3, .bool true, u3 0, u3 1, u3 2, u3 3, u3 4, u 0, u 1, u 2, u 3, u 4, undef, undef, undef, undef, undef, undef, undef, undef]) (Holds [.val rR [r * t], .val rR [r * t], .val rR [(r * t) * (r * t)], .val rR [x], .oth (fun v => v = .bool (!decide ((r * t) * (r * t) = x)))] W3) (Keep [.val rR [r * t], .val rR [r * t], .val rR [(r * t) * (r * t)], .val rR [x], .oth (fun v => v = .bool (!decide ((r * t) * (r * t) = x)))] W3) (fun _ => undef) (by kernel_rfl) (by kernel_rfl) ?_ (by rfl) Keep.drew (holds_soft (by kernel_rfl)) ?_ ?_
    · intro u i v h
      rcases i with _ | _ | _ | _ | _ | i
      all_goals first | (simp [Act.put, putV]; done) | (exfalso; simp at h; omega)
    · intro hs
      refine ⟨?_, ?_, ?_, ?_, ?_, trivial⟩
      · exact step_load q4 0 hs (wants_none rfl) rfl rfl tyFe (fun _ => E4.out) hs3_5.lt hs3_5 (noSto_apart (by kernel_rfl))
      · exact step_load q4 0 hs (wants_none rfl) rfl rfl tyFe (fun _ => E4.out) hs3_5.lt hs3_5 (noSto_apart (by kernel_rfl))
      · refine step_call hs (wants_none rfl) rfl fun L u W hJ hG hL hdep K hK => ?_
        have a0 := (show IsFs rR (u 0) [r * t] from hG 0 (hdep 0 (by kernel_rfl)))
        have a1 := (show IsFs rR (u 1) [r * t] from hG 1 (hdep 1 (by kernel_rfl)))
        go_simp
        go_at_call 32
        (with_reducible refine (kMul a0 a1 _).mono ?_); rintro e w1 ⟨r, rfl, hr, hb⟩
        have hk := hK.out _ _ hr hb
        exact hk
      · exact step_load q1 0 hs (wants_none rfl) rfl rfl tyFe (fun _ => E1.out) hm1.lt hm1 (noSto_apart (by kernel_rfl))
      · exact step_pureO hs (wants_none rfl) rfl fun L u W hG hdep => ⟨_, run_neqR rfl (show IsFs rR (u 2) [(r * t) * (r * t)] from hG 2 (hdep 2 (by kernel_rfl))) (show IsFs rR (u 3) [x] from hG 3 (hdep 3 (by kernel_rfl))), rfl⟩
    intro L4 u4 W4 hall hJ hG
    have hb := hJ.all rfl
    have hbel := Below.call hbel hb
    have hm1 := hm1.later hb
    have hs3_5 := hs3_5.later hb
    have ht1 := there_later ht1 hb
    have ht2 := there_later ht2 hb
    have hs3_5t := there_later hs3_5t hb
    have HC22 := Lib.hid (show u4 4 = .bool (!decide ((r * t) * (r * t) = x)) from hG 4 (by simp))
    have hbel0 := hbel
    clear hJ hG hall hb
    by_cases hq2 : r * t * (r * t) = x
    · have HQ2 := Lib.hid hq2
      clear hq2
      have hx : u4 4 = .bool false := by rw [HC22.out, decide_eq_true HQ2.out]; rfl
      go_wp2_with fail
      rw [hx]
      clear hx
      have e4 := E4.out
      have hc0 := hs3_5.cell0
      by_cases hp : (r * t).val % 2 = 1
      · have ho : (bits BinOp.and IntKind.u64 ((d16 (r * t).val 0 : Nat) : Int) 1 == 1) = true := by rw [odd16, hp]; rfl
        have HP := Lib.hid hp
        clear hp
        generalize hdd : d16 (r * t).val 0 = dd at *
        clear hdd
        go_upto_region 7 with fail
        clear e4 hc0 ho
        refine wp_region_turn (fun u => #[v0, u0 0, u0 1, u0 2, u1 3, u1 0, u1 1, u1 2, u2 0, u2 1, u2 2, u2 3, .bool true, u3 0, u3 1, u3 2, u3 3, u3 4, u4 0, u4 1, u4 2, u4 3, .bool false, undef, .pointer (some ⟨q4, 0, none⟩), .int .u64 (dd : Nat), .int .u64 (bits BinOp.and IntKind.u64 ((dd : Nat) : Int) 1), .bool true, u 0, u 1, undef]) (Holds [.val rR [r * t], .val rR [-(r * t)], .sto q4 rR [-(r * t)]] W4) (Keep [.val rR [r * t], .val rR [-(r * t)], .sto q4 rR [-(r * t)]] W4) (fun _ => undef) ?_ (by rfl) Keep.start (holds_soft (by kernel_rfl)) ?_ ?_
        · intro u i v h
          rcases i with _ | _ | _ | i
          all_goals first | (simp [Act.put, putV]; done) | (exfalso; simp at h; omega)
        · intro hs
          refine ⟨?_, ?_, ?_, trivial⟩
          · exact step_load q4 0 hs (wants_none rfl) rfl rfl tyFe (fun _ => E4.out) hs3_5.lt hs3_5 (fun k g R' ys hk => by rcases k with _ | _ | _ | k <;> first | (cases hk; done) | (cases hk; exact .inl (by kernel_rfl)))
          · refine step_call hs (wants_none rfl) rfl fun L u W hJ hG hL hdep K hK => ?_
            have a0 := (show IsFs rR (u 0) [r * t] from hG 0 (hdep 0 (by kernel_rfl)))
            go_simp
            go_at_call 33
            (with_reducible refine (kNeg a0 _).mono ?_); rintro e w1 ⟨r, rfl, hr, hb⟩
            have hk := hK.out _ _ hr hb
            exact hk
          · refine step_storeO q4 16 hs (wants_none rfl) rfl rfl (by kernel_rfl) (fun k R' ys hk => ?_) (fun _ => E4.out) (there_lt hs3_5t (by omega)) hs3_5t (gives_op 1 rfl (by kernel_rfl) (fun _ => rfl)) tyFe rfl
            rcases k with _ | _ | _ | k
            all_goals first | (exact absurd rfl hk) | (intro e; cases e; done)
        intro L7 u7 W7 hall hJ hG
        have hb : Below w.heap.size W4 W7 := hJ.below (by have := hbel.size; omega) (fun k b R xs hf => by rcases k with _ | _ | _ | k <;> first | (cases hf; done) | (injection hf; omega))
        have hbel := hbel.trans hb
        have hm1 := hm1.blk (hJ.block _ (hm1.lt) (fun k R' ys hk => by rcases k with _ | _ | _ | k <;> first | (cases hk; done) | (cases hk; exact absurd rfl (Ne.symm HD4_q1.out))))
        have ht1 := there_blk ht1 (hJ.block _ (there_lt ht1 (by omega)) (fun k R' ys hk => by rcases k with _ | _ | _ | k <;> first | (cases hk; done) | (cases hk; exact absurd rfl (Ne.symm HD4_q1.out))))
        have ht2 := there_blk ht2 (hJ.block _ (there_lt ht2 (by omega)) (fun k R' ys hk => by rcases k with _ | _ | _ | k <;> first | (cases hk; done) | (cases hk; exact absurd rfl (Ne.symm HD4_q2.out))))
        obtain ⟨_, hs7_2t, hs7_2⟩ := (show _ ∧ W7.there q4 0 16 ∧ HasFs rR W7 q4 0 [-(r * t)] from hG 2 (by simp))
        have hbel0 := hbel
        clear hJ hG hall hb
        go_upto_region 8 with fail
        refine wp_region_turn (fun u => #[v0, u0 0, u0 1, u 2, u1 3, u1 0, u1 1, u1 2, u2 0, u2 1, u2 2, u2 3, .bool true, u3 0, u3 1, u3 2, u3 3, u3 4, u4 0, u4 1, u4 2, u4 3, .bool false, undef, .pointer (some ⟨q4, 0, none⟩), .int .u64 (dd : Nat), .int .u64 (bits BinOp.and IntKind.u64 ((dd : Nat) : Int) 1), .bool true, u7 0, u7 1, u 0]) (Holds [.val rR [-(r * t)], .sto q2 rR [-(r * t)], .oth (fun v => v = .int .i64 0)] W7) (Keep [.val rR [-(r * t)], .sto q2 rR [-(r * t)], .oth (fun v => v = .int .i64 0)] W7) (fun k => ([undef, undef, u0 2] : List Value).getD k undef) ?_ (by rfl) Keep.start (holds_soft (by kernel_rfl)) ?_ ?_
        · intro u i v h
          rcases i with _ | _ | _ | i
          all_goals first | (simp [Act.put, putV]; done) | (exfalso; simp at h; omega)
        · intro hs
          refine ⟨?_, ?_, ?_, trivial⟩
          · exact step_load q4 0 hs (wants_none rfl) rfl rfl tyFe (fun _ => E4.out) hs7_2.lt hs7_2 (fun k g R' ys hk => by rcases k with _ | _ | _ | k <;> first | (cases hk; done) | (cases hk; exact .inr HD4_q2.out))
          · refine step_storeO q2 16 hs (wants_none rfl) rfl rfl (by kernel_rfl) (fun k R' ys hk => ?_) (fun _ => E2.out) (there_lt ht2 (by omega)) ht2 (gives_op 0 rfl (by kernel_rfl) (fun _ => rfl)) tyFe rfl
            rcases k with _ | _ | _ | k
            all_goals first | (exact absurd rfl hk) | (intro e; cases e; done)
          · exact step_pureO hs (wants_none rfl) rfl fun L u W hG hdep => ⟨_, run_assign rfl, rfl⟩
        intro L8 u8 W8 hall hJ hG
        have hb : Below w.heap.size W7 W8 := hJ.below (by have := hbel.size; omega) (fun k b R xs hf => by rcases k with _ | _ | _ | k <;> first | (cases hf; done) | (injection hf; omega))
        have hbel := hbel.trans hb
        have hm1 := hm1.blk (hJ.block _ (hm1.lt) (fun k R' ys hk => by rcases k with _ | _ | _ | k <;> first | (cases hk; done) | (cases hk; exact absurd rfl (Ne.symm HN1_2.out))))
        have hs7_2 := hs7_2.blk (hJ.block _ (hs7_2.lt) (fun k R' ys hk => by rcases k with _ | _ | _ | k <;> first | (cases hk; done) | (cases hk; exact absurd rfl HD4_q2.out)))
        have ht1 := there_blk ht1 (hJ.block _ (there_lt ht1 (by omega)) (fun k R' ys hk => by rcases k with _ | _ | _ | k <;> first | (cases hk; done) | (cases hk; exact absurd rfl (Ne.symm HN1_2.out))))
        have hs7_2t := there_blk hs7_2t (hJ.block _ (there_lt hs7_2t (by omega)) (fun k R' ys hk => by rcases k with _ | _ | _ | k <;> first | (cases hk; done) | (cases hk; exact absurd rfl HD4_q2.out)))
        obtain ⟨_, hs8_1t, hs8_1⟩ := (show _ ∧ W8.there q2 0 16 ∧ HasFs rR W8 q2 0 [-(r * t)] from hG 1 (by simp))
        have HC3 := Lib.hid (show u8 2 = .int .i64 0 from hG 2 (by simp))
        have hbel0 := hbel
        clear hJ hG hall hb
        go_wp2
        exact ret_cell_slot (R := rR) Try.results35 (by exact E2.out) (by exact HC3.out) hs8_1 tyFe rfl (fun s hs => ⟨s, by rw [root_c0 HC.out HQ2.out], by rw [root_odd HC.out HQ2.out HP.out]; exact hs, hbel⟩)
      · have ho : (bits BinOp.and IntKind.u64 ((d16 (r * t).val 0 : Nat) : Int) 1 == 1) = false := by rw [odd16, show (r * t).val % 2 = 0 by omega]; rfl
        have HP := Lib.hid hp
        clear hp
        generalize hdd : d16 (r * t).val 0 = dd at *
        clear hdd
        go_upto_region 8 with fail
        clear e4 hc0 ho
        refine wp_region_turn (fun u => #[v0, u0 0, u0 1, u 2, u1 3, u1 0, u1 1, u1 2, u2 0, u2 1, u2 2, u2 3, .bool true, u3 0, u3 1, u3 2, u3 3, u3 4, u4 0, u4 1, u4 2, u4 3, .bool false, undef, .pointer (some ⟨q4, 0, none⟩), .int .u64 (dd : Nat), .int .u64 (bits BinOp.and IntKind.u64 ((dd : Nat) : Int) 1), .bool false, undef, undef, u 0]) (Holds [.val rR [r * t], .sto q2 rR [r * t], .oth (fun v => v = .int .i64 0)] W4) (Keep [.val rR [r * t], .sto q2 rR [r * t], .oth (fun v => v = .int .i64 0)] W4) (fun k => ([undef, undef, u0 2] : List Value).getD k undef) ?_ (by rfl) Keep.start (holds_soft (by kernel_rfl)) ?_ ?_
        · intro u i v h
          rcases i with _ | _ | _ | i
          all_goals first | (simp [Act.put, putV]; done) | (exfalso; simp at h; omega)
        · intro hs
          refine ⟨?_, ?_, ?_, trivial⟩
          · exact step_load q4 0 hs (wants_none rfl) rfl rfl tyFe (fun _ => E4.out) hs3_5.lt hs3_5 (fun k g R' ys hk => by rcases k with _ | _ | _ | k <;> first | (cases hk; done) | (cases hk; exact .inr HD4_q2.out))
          · refine step_storeO q2 16 hs (wants_none rfl) rfl rfl (by kernel_rfl) (fun k R' ys hk => ?_) (fun _ => E2.out) (there_lt ht2 (by omega)) ht2 (gives_op 0 rfl (by kernel_rfl) (fun _ => rfl)) tyFe rfl
            rcases k with _ | _ | _ | k
            all_goals first | (exact absurd rfl hk) | (intro e; cases e; done)
          · exact step_pureO hs (wants_none rfl) rfl fun L u W hG hdep => ⟨_, run_assign rfl, rfl⟩
        intro L8 u8 W8 hall hJ hG
        have hb : Below w.heap.size W4 W8 := hJ.below (by have := hbel.size; omega) (fun k b R xs hf => by rcases k with _ | _ | _ | k <;> first | (cases hf; done) | (injection hf; omega))
        have hbel := hbel.trans hb
        have hm1 := hm1.blk (hJ.block _ (hm1.lt) (fun k R' ys hk => by rcases k with _ | _ | _ | k <;> first | (cases hk; done) | (cases hk; exact absurd rfl (Ne.symm HN1_2.out))))
        have hs3_5 := hs3_5.blk (hJ.block _ (hs3_5.lt) (fun k R' ys hk => by rcases k with _ | _ | _ | k <;> first | (cases hk; done) | (cases hk; exact absurd rfl HD4_q2.out)))
        have ht1 := there_blk ht1 (hJ.block _ (there_lt ht1 (by omega)) (fun k R' ys hk => by rcases k with _ | _ | _ | k <;> first | (cases hk; done) | (cases hk; exact absurd rfl (Ne.symm HN1_2.out))))
        have hs3_5t := there_blk hs3_5t (hJ.block _ (there_lt hs3_5t (by omega)) (fun k R' ys hk => by rcases k with _ | _ | _ | k <;> first | (cases hk; done) | (cases hk; exact absurd rfl HD4_q2.out)))
        obtain ⟨_, hs8_1t, hs8_1⟩ := (show _ ∧ W8.there q2 0 16 ∧ HasFs rR W8 q2 0 [r * t] from hG 1 (by simp))
        have HC3 := Lib.hid (show u8 2 = .int .i64 0 from hG 2 (by simp))
        have hbel0 := hbel
        clear hJ hG hall hb
        go_wp2
        exact ret_cell_slot (R := rR) Try.results35 (by exact E2.out) (by exact HC3.out) hs8_1 tyFe rfl (fun s hs => ⟨s, by rw [root_c0 HC.out HQ2.out], by rw [root_even HC.out HQ2.out HP.out]; exact hs, hbel⟩)
    · have HQ2 := Lib.hid hq2
      clear hq2
      have hx : u4 4 = .bool true := by rw [HC22.out, decide_eq_false HQ2.out]; rfl
      go_wp2_with fail
      rw [hx]
      clear hx
      go_upto_region 5 with fail
      refine wp_region_turn (fun u => #[v0, u0 0, u0 1, u 2, u1 3, u1 0, u1 1, u1 2, u2 0, u2 1, u2 2, u2 3, .bool true, u3 0, u3 1, u3 2, u3 3, u3 4, u4 0, u4 1, u4 2, u4 3, .bool true, u 0, undef, undef, undef, undef, undef, undef, undef]) (Holds [.val rR [0], .sto q2 rR [0], .oth (fun v => v = .int .i64 7)] W4) (Keep [.val rR [0], .sto q2 rR [0], .oth (fun v => v = .int .i64 7)] W4) (fun k => ([undef, undef, u0 2] : List Value).getD k undef) ?_ (by rfl) Keep.start (holds_soft (by kernel_rfl)) ?_ ?_
      · intro u i v h
        rcases i with _ | _ | _ | i
        all_goals first | (simp [Act.put, putV]; done) | (exfalso; simp at h; omega)
      · intro hs
        refine ⟨?_, ?_, ?_, trivial⟩
        · exact step_pure hs (wants_none rfl) rfl fun L u W hG hdep => run_build0 rfl (buildFe0 W)
        · refine step_storeO q2 16 hs (wants_none rfl) rfl rfl (by kernel_rfl) (fun k R' ys hk => ?_) (fun _ => E2.out) (there_lt ht2 (by omega)) ht2 (gives_op 0 rfl (by kernel_rfl) (fun _ => rfl)) tyFe rfl
          rcases k with _ | _ | _ | k
          all_goals first | (exact absurd rfl hk) | (intro e; cases e; done)
        · exact step_pureO hs (wants_none rfl) rfl fun L u W hG hdep => ⟨_, run_assign rfl, rfl⟩
      intro L5 u5 W5 hall hJ hG
      have hb : Below w.heap.size W4 W5 := hJ.below (by have := hbel.size; omega) (fun k b R xs hf => by rcases k with _ | _ | _ | k <;> first | (cases hf; done) | (injection hf; omega))
      have hbel := hbel.trans hb
      have hm1 := hm1.blk (hJ.block _ (hm1.lt) (fun k R' ys hk => by rcases k with _ | _ | _ | k <;> first | (cases hk; done) | (cases hk; exact absurd rfl (Ne.symm HN1_2.out))))
      have hs3_5 := hs3_5.blk (hJ.block _ (hs3_5.lt) (fun k R' ys hk => by rcases k with _ | _ | _ | k <;> first | (cases hk; done) | (cases hk; exact absurd rfl HD4_q2.out)))
      have ht1 := there_blk ht1 (hJ.block _ (there_lt ht1 (by omega)) (fun k R' ys hk => by rcases k with _ | _ | _ | k <;> first | (cases hk; done) | (cases hk; exact absurd rfl (Ne.symm HN1_2.out))))
      have hs3_5t := there_blk hs3_5t (hJ.block _ (there_lt hs3_5t (by omega)) (fun k R' ys hk => by rcases k with _ | _ | _ | k <;> first | (cases hk; done) | (cases hk; exact absurd rfl HD4_q2.out)))
      obtain ⟨_, hs5_1t, hs5_1⟩ := (show _ ∧ W5.there q2 0 16 ∧ HasFs rR W5 q2 0 [0] from hG 1 (by simp))
      have HC3 := Lib.hid (show u5 2 = .int .i64 7 from hG 2 (by simp))
      have hbel0 := hbel
      clear hJ hG hall hb
      go_wp2
      exact ret_cell_slot (R := rR) Try.results35 (by exact E2.out) (by exact HC3.out) hs5_1 tyFe rfl (fun s hs => ⟨s, by rw [(root_no HC.out HQ2.out).2], by rw [(root_no HC.out HQ2.out).1]; exact hs, hbel⟩)
theorem rrootM {v : Value} {x : F} (h : IsFs rR v [x]) (w : World) :
    Calls Try.prog 35 #[v] w fun e w' => ∃ s, e = .returned (.tuple #[s, .int .i64 (rootC x)]) ∧ IsFs rR s [rootV x] ∧ Below w.heap.size w w' :=
  rroot_core x _ sqm1 rfl two_turn rfl h w
end Go.Proofs.Ytfjaplggohflbaa
