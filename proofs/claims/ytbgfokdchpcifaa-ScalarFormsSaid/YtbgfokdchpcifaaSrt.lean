/- The document's own scalars: reading strictly. -/
import Derived.Test.YtbgfokdchpcifaaSrp
namespace Go.Proofs.Ytbgfokdchpcifaa
open Go Go.RowKit

theorem scOk_len {l : List UInt8} (h : l.length ≠ 32) : scOk l = false := by simp [scOk, h]
theorem wS_32 {l : List UInt8} (h : l.length = 32) : (wS l).val = leN l % Lq := by
  unfold wS
  rw [fn_sc (Nat.mod_lt _ Lq_0), leN_first, List.take_of_length_le (by omega)]
theorem scOk_back (l : List UInt8) (h : l.length = 32) : decide (leB 32 (wS l).val = l) = scOk l := by
  rw [wS_32 h]
  unfold scOk
  rw [decide_eq_true h, Bool.true_and, decide_eq_decide]
  exact sc_back l h
theorem wS_ok {l : List UInt8} (h : scOk l = true) : wS l = fn (leN l) := by
  simp only [scOk, Bool.and_eq_true, decide_eq_true_eq] at h
  apply F.ext'
  rw [wS_32 h.1, fn_sc h.2, Nat.mod_eq_of_lt h.2]
set_option maxHeartbeats 4000000 in
theorem rstrictSc_len {a : Option Addr} {n cap : Nat} (w : World) (hn : n ≠ 32) :
    Calls Try.prog 17 #[.slice a n cap] w fun e w' => ∃ r, e = .returned (.tuple #[r, .int .i64 2]) ∧ IsFs rC r [0] ∧ Below w.heap.size w w' := by
  have f1 : (((n : Nat) : Int) != 32) = true := by simp; omega
  have F1 := Lib.hid f1
  clear hn f1
  go_enter Try.func17, Try.ntmps17
  have hbel : Below w.heap.size w w := Below.refl _ _
  have hbel0 := hbel
  go_upto_region 0 with fail
  refine wp_region_turn (fun u => #[.slice a n cap, undef, u 0, u 1, undef, undef, undef, undef, undef, undef, undef, undef, undef, undef, undef, undef, undef, undef, undef]) (Holds [.new 32, .oth (fun v => v = .int .i64 0)] w) (Keep [.new 32, .oth (fun v => v = .int .i64 0)] w) (fun _ => undef) ?_ (by rfl) Keep.start (holds_soft (by kernel_rfl)) ?_ ?_
  · intro u i v h
    rcases i with _ | _ | i
    all_goals first | (simp [Act.put, putV]; done) | (exfalso; simp at h; omega)
  · intro hs
    refine ⟨?_, ?_, trivial⟩
    · exact step_alloc hs (wants_none rfl) rfl rfl (by omega) rfl allocSc
    · exact step_pureO hs (wants_none rfl) rfl fun L u W hG hdep => ⟨_, run_assign rfl, rfl⟩
  intro L0 u0 W0 hall hJ hG
  obtain ⟨q2, e2, hq2, _, ht2⟩ := (show ∃ g, u0 0 = .pointer (some ⟨g, 0, none⟩) ∧ w.heap.size ≤ g ∧ 0 < 32 ∧ W0.there g 0 32 from hG 0 (by simp))
  have hq2 : w.heap.size ≤ q2 := by have := hbel0.size; omega
  have E2 := Lib.hid e2; clear e2
  have hb := hJ.all rfl
  have hbel := Below.call hbel hb
  have HC3 := Lib.hid (show u0 1 = .int .i64 0 from hG 1 (by simp))
  have hbel0 := hbel
  clear hJ hG hall hb
  go_upto_region 1 with fail
  refine wp_region_mid (fun u => #[.slice a n cap, undef, u0 0, u0 1, u 0, u 1, u 2, u 3, u 4, u 5, u 6, u 7, u 8, u 9, u 10, u 11, undef, undef, undef]) (Holds [.oth (fun v => v = .slice a n cap), .oth (fun v => v = .int .i64 (n : Nat)), .oth (fun v => v = .bool true), .oth (fun v => v = .bool true), .any, .any, .any, .any, .any, .any, .any, .oth (fun v => v = .bool true)] W0) (Keep [.oth (fun v => v = .slice a n cap), .oth (fun v => v = .int .i64 (n : Nat)), .oth (fun v => v = .bool true), .oth (fun v => v = .bool true), .any, .any, .any, .any, .any, .any, .any, .oth (fun v => v = .bool true)] W0) (fun _ => undef) (by kernel_rfl) (by kernel_rfl) ?_ (by rfl) Keep.drew (holds_soft (by kernel_rfl)) ?_ ?_
  · intro u i v h
    rcases i with _ | _ | _ | _ | _ | _ | _ | _ | _ | _ | _ | _ | i
    all_goals first | (simp [Act.put, putV]; done) | (exfalso; simp at h; omega)
  · intro hs
    refine ⟨?_, ?_, ?_, ?_, ?_, ?_, ?_, ?_, ?_, ?_, ?_, ?_, trivial⟩
    · exact step_pureO hs (wants_none rfl) rfl fun L u W hG hdep => ⟨_, run_move rfl, rfl⟩
    · refine step_pureO hs (wants_none rfl) rfl fun L u W hG hdep => ⟨_, ?_, rfl⟩
      have e0 := (show u 0 = .slice a n cap from hG 0 (hdep 0 (by kernel_rfl)))
      go_simp
    · refine step_pureO hs (wants_none rfl) rfl fun L u W hG hdep => ⟨_, ?_, rfl⟩
      have e0 := (show u 1 = .int .i64 (n : Nat) from hG 1 (hdep 1 (by kernel_rfl)))
      have f1 := F1.out
      go_simp
    · exact step_pureO hs (wants_none rfl) rfl fun L u W hG hdep => ⟨_, run_move rfl, (show u 2 = .bool true from hG 2 (hdep 2 (by kernel_rfl)))⟩
    · exact step_out hs (wants_off 3 rfl rfl rfl (by kernel_rfl) (fun _ => rfl)) rfl
    · exact step_out hs (wants_off 3 rfl rfl rfl (by kernel_rfl) (fun _ => rfl)) rfl
    · exact step_out hs (wants_off 3 rfl rfl rfl (by kernel_rfl) (fun _ => rfl)) rfl
    · exact step_out hs (wants_off 3 rfl rfl rfl (by kernel_rfl) (fun _ => rfl)) rfl
    · exact step_out hs (wants_off 3 rfl rfl rfl (by kernel_rfl) (fun _ => rfl)) rfl
    · exact step_out hs (wants_off 3 rfl rfl rfl (by kernel_rfl) (fun _ => rfl)) rfl
    · exact step_out hs (wants_off 3 rfl rfl rfl (by kernel_rfl) (fun _ => rfl)) rfl
    · exact step_pick true hs (wants_none rfl) rfl rfl (fun L u W hG hdep => (show u 3 = .bool true from hG 3 (hdep 3 (by kernel_rfl)))) (fun L u W hG hdep => rfl)
  intro L1 u1 W1 hall hJ hG
  have hb := hJ.all rfl
  have hbel := Below.call hbel hb
  have ht2 := there_later ht2 hb
  have HC6 := Lib.hid (show u1 2 = .bool true from hG 2 (by simp))
  have HC7 := Lib.hid (show u1 3 = .bool true from hG 3 (by simp))
  have HC15 := Lib.hid (show u1 11 = .bool true from hG 11 (by simp))
  have hbel0 := hbel
  clear hJ hG hall hb
  have hx : u1 11 = .bool true := HC15.out
  go_wp2_with fail
  rw [hx]
  clear hx
  go_upto_region 2 with fail
  refine wp_region_turn (fun u => #[.slice a n cap, undef, u0 0, u 2, u1 0, u1 1, u1 2, u1 3, u1 4, u1 5, u1 6, u1 7, u1 8, u1 9, u1 10, .bool true, u 0, undef, undef]) (Holds [.val rC [0], .sto q2 rC [0], .oth (fun v => v = .int .i64 2)] W1) (Keep [.val rC [0], .sto q2 rC [0], .oth (fun v => v = .int .i64 2)] W1) (fun k => ([undef, undef, u0 1] : List Value).getD k undef) ?_ (by rfl) Keep.start (holds_soft (by kernel_rfl)) ?_ ?_
  · intro u i v h
    rcases i with _ | _ | _ | i
    all_goals first | (simp [Act.put, putV]; done) | (exfalso; simp at h; omega)
  · intro hs
    refine ⟨?_, ?_, ?_, trivial⟩
    · exact step_pure hs (wants_none rfl) rfl fun L u W hG hdep => run_build0 rfl (buildSc0 W)
    · refine step_storeO q2 32 hs (wants_none rfl) rfl rfl (by kernel_rfl) (fun k hk => ?_) (fun _ => E2.out) (there_lt ht2 (by omega)) ht2 (gives_op 0 rfl (by kernel_rfl) (fun _ => rfl)) tySc rfl
      rcases k with _ | _ | _ | k
      all_goals first | (exact absurd rfl hk) | (intro e; cases e; done)
    · exact step_pureO hs (wants_none rfl) rfl fun L u W hG hdep => ⟨_, run_assign rfl, rfl⟩
  intro L2 u2 W2 hall hJ hG
  have hb : Below w.heap.size W1 W2 := hJ.below (by have := hbel.size; omega) (fun k b hf => by rcases k with _ | _ | _ | k <;> first | (cases hf; done) | (cases hf; omega))
  have hbel := hbel.trans hb
  obtain ⟨_, hs2_1t, hs2_1⟩ := (show _ ∧ W2.there q2 0 32 ∧ HasFs rC W2 q2 0 [0] from hG 1 (by simp))
  have HC3 := Lib.hid (show u2 2 = .int .i64 2 from hG 2 (by simp))
  have hbel0 := hbel
  clear hJ hG hall hb
  go_wp2
  exact ret_cell_slot (R := rC) Try.results17 (by exact E2.out) (by exact HC3.out) hs2_1 tySc rfl (fun s hs => ⟨s, rfl, hs, hbel⟩)
set_option maxHeartbeats 4000000 in
theorem rstrictSc_yes {a : Option Addr} {n cap : Nat} {l : List UInt8} (w : World) (ha : RdB w a n cap l) (hn : n = 32) (hok : scOk l = true) :
    Calls Try.prog 17 #[.slice a n cap] w fun e w' => ∃ r, e = .returned (.tuple #[r, .int .i64 0]) ∧ IsFs rC r [wS l] ∧ Below w.heap.size w w' := by
  have HQ := Lib.hid (show decide (leB 32 (wS l).val = l) = true from by rw [scOk_back l (by rw [ha.hlen, hn]), hok])
  subst hn
  clear hok
  go_enter Try.func17, Try.ntmps17
  have hbel : Below w.heap.size w w := Below.refl _ _
  have hbel0 := hbel
  go_upto_region 0 with fail
  refine wp_region_turn (fun u => #[.slice a 32 cap, undef, u 0, u 1, undef, undef, undef, undef, undef, undef, undef, undef, undef, undef, undef, undef, undef, undef, undef]) (Holds [.new 32, .oth (fun v => v = .int .i64 0)] w) (Keep [.new 32, .oth (fun v => v = .int .i64 0)] w) (fun _ => undef) ?_ (by rfl) Keep.start (holds_soft (by kernel_rfl)) ?_ ?_
  · intro u i v h
    rcases i with _ | _ | i
    all_goals first | (simp [Act.put, putV]; done) | (exfalso; simp at h; omega)
  · intro hs
    refine ⟨?_, ?_, trivial⟩
    · exact step_alloc hs (wants_none rfl) rfl rfl (by omega) rfl allocSc
    · exact step_pureO hs (wants_none rfl) rfl fun L u W hG hdep => ⟨_, run_assign rfl, rfl⟩
  intro L0 u0 W0 hall hJ hG
  obtain ⟨q2, e2, hq2, _, ht2⟩ := (show ∃ g, u0 0 = .pointer (some ⟨g, 0, none⟩) ∧ w.heap.size ≤ g ∧ 0 < 32 ∧ W0.there g 0 32 from hG 0 (by simp))
  have hq2 : w.heap.size ≤ q2 := by have := hbel0.size; omega
  have E2 := Lib.hid e2; clear e2
  have hb := hJ.all rfl
  have hbel := Below.call hbel hb
  have HC3 := Lib.hid (show u0 1 = .int .i64 0 from hG 1 (by simp))
  have hbel0 := hbel
  clear hJ hG hall hb
  go_upto_region 1 with fail
  refine wp_region_mid (fun u => #[.slice a 32 cap, undef, u0 0, u0 1, u 0, u 1, u 2, u 3, u 4, u 5, u 6, u 7, u 8, u 9, u 10, u 11, undef, undef, undef]) (Holds [.oth (fun v => v = .slice a 32 cap), .oth (fun v => v = .int .i64 32), .oth (fun v => v = .bool false), .oth (fun v => v = .bool false), .oth (fun v => v = .slice a 32 cap), .val rC [wS l], .rd (leB 32 (wS l).val), .oth (fun v => v = (.string (bs (leB 32 (wS l).val)))), .oth (fun v => v = .slice a 32 cap), .oth (fun v => v = (.string (bs l))), .oth (fun v => v = .bool false), .oth (fun v => v = .bool false)] W0) (Keep [.oth (fun v => v = .slice a 32 cap), .oth (fun v => v = .int .i64 32), .oth (fun v => v = .bool false), .oth (fun v => v = .bool false), .oth (fun v => v = .slice a 32 cap), .val rC [wS l], .rd (leB 32 (wS l).val), .oth (fun v => v = (.string (bs (leB 32 (wS l).val)))), .oth (fun v => v = .slice a 32 cap), .oth (fun v => v = (.string (bs l))), .oth (fun v => v = .bool false), .oth (fun v => v = .bool false)] W0) (fun _ => undef) (by kernel_rfl) (by kernel_rfl) ?_ (by rfl) Keep.drew (holds_soft (by kernel_rfl)) ?_ ?_
  · intro u i v h
    rcases i with _ | _ | _ | _ | _ | _ | _ | _ | _ | _ | _ | _ | i
    all_goals first | (simp [Act.put, putV]; done) | (exfalso; simp at h; omega)
  · intro hs
    refine ⟨?_, ?_, ?_, ?_, ?_, ?_, ?_, ?_, ?_, ?_, ?_, ?_, trivial⟩
    · exact step_pureO hs (wants_none rfl) rfl fun L u W hG hdep => ⟨_, run_move rfl, rfl⟩
    · refine step_pureO hs (wants_none rfl) rfl fun L u W hG hdep => ⟨_, ?_, rfl⟩
      have e0 := (show u 0 = .slice a 32 cap from hG 0 (hdep 0 (by kernel_rfl)))
      go_simp
    · refine step_pureO hs (wants_none rfl) rfl fun L u W hG hdep => ⟨_, ?_, rfl⟩
      have e0 := (show u 1 = .int .i64 32 from hG 1 (hdep 1 (by kernel_rfl)))
      go_simp
      try simp [bne]
    · exact step_pureO hs (wants_none rfl) rfl fun L u W hG hdep => ⟨_, run_move rfl, (show u 2 = .bool false from hG 2 (hdep 2 (by kernel_rfl)))⟩
    · exact step_pureO hs (wants_on 3 rfl rfl (by kernel_rfl) (fun _ => rfl)) rfl fun L u W hG hdep => ⟨_, run_move rfl, rfl⟩
    · refine step_call hs (wants_on 3 rfl rfl (by kernel_rfl) (fun _ => rfl)) rfl fun L u W hJ hG hL hdep K hK => ?_
      have x0 := (show u 4 = .slice a 32 cap from hG 4 (hdep 4 (by kernel_rfl)))
      have hRB0 := (ha.below hbel).below (hJ.all rfl)
      go_simp
      go_at_call 16
      (with_reducible refine (kWide rfl hRB0).mono ?_); rintro e w1 ⟨r, rfl, hr, hb⟩
      have hk := hK.out _ _ hr hb
      simp only [x0] at hk
      exact hk
    · refine step_callB hs (wants_on 3 rfl rfl (by kernel_rfl) (fun _ => rfl)) rfl fun L u W hJ hG hdep K hK => ?_
      have a0 := (show IsFs rC (u 5) [wS l] from hG 5 (hdep 5 (by kernel_rfl)))
      go_simp
      go_at_call 35
      (with_reducible refine (kScBytes a0 _).mono ?_); rintro e w1 ⟨g, n, cap, r, rfl, h1, h2, h3, h4, h5, hb⟩
      have hk := hK.out _ _ _ _ _ h1 h2 h3 h4 h5 hb
      exact hk
    · exact step_conv 6 hs (wants_on 3 rfl rfl (by kernel_rfl) (fun _ => rfl)) rfl rfl rfl (by kernel_rfl) (fun _ => rfl)
    · exact step_pureO hs (wants_on 3 rfl rfl (by kernel_rfl) (fun _ => rfl)) rfl fun L u W hG hdep => ⟨_, run_move rfl, rfl⟩
    · exact step_convC hs (wants_on 3 rfl rfl (by kernel_rfl) (fun _ => rfl)) rfl rfl (ha.below hbel) (by kernel_rfl) (fun L u W hG hdep => (show u 8 = .slice a 32 cap from hG 8 (hdep 8 (by kernel_rfl))))
    · exact step_pureO hs (wants_on 3 rfl rfl (by kernel_rfl) (fun _ => rfl)) rfl fun L u W hG hdep => ⟨_, run_neqS rfl (show u 7 = (.string (bs (leB 32 (wS l).val))) from hG 7 (hdep 7 (by kernel_rfl))) (show u 9 = (.string (bs l)) from hG 9 (hdep 9 (by kernel_rfl))), by rw [HQ.out]; rfl⟩
    · exact step_pick false hs (wants_none rfl) rfl rfl (fun L u W hG hdep => (show u 3 = .bool false from hG 3 (hdep 3 (by kernel_rfl)))) (fun L u W hG hdep => (show u 10 = .bool false from hG 10 (hdep 10 (by kernel_rfl))))
  intro L1 u1 W1 hall hJ hG
  have hb := hJ.all rfl
  have hbel := Below.call hbel hb
  have ht2 := there_later ht2 hb
  have HC6 := Lib.hid (show u1 2 = .bool false from hG 2 (by simp))
  have HC7 := Lib.hid (show u1 3 = .bool false from hG 3 (by simp))
  have HC14 := Lib.hid (show u1 10 = .bool false from hG 10 (by simp))
  have HC15 := Lib.hid (show u1 11 = .bool false from hG 11 (by simp))
  have hbel0 := hbel
  clear hJ hG hall hb
  have hx : u1 11 = .bool false := HC15.out
  go_wp2_with fail
  rw [hx]
  clear hx
  go_upto_region 3 with fail
  refine wp_region_turn (fun u => #[.slice a 32 cap, undef, u0 0, u 3, u1 0, u1 1, u1 2, u1 3, u1 4, u1 5, u1 6, u1 7, u1 8, u1 9, u1 10, .bool false, undef, u 0, u 1]) (Holds [.oth (fun v => v = .slice a 32 cap), .val rC [wS l], .sto q2 rC [wS l], .oth (fun v => v = .int .i64 0)] W1) (Keep [.oth (fun v => v = .slice a 32 cap), .val rC [wS l], .sto q2 rC [wS l], .oth (fun v => v = .int .i64 0)] W1) (fun k => ([undef, undef, undef, u0 1] : List Value).getD k undef) ?_ (by rfl) Keep.start (holds_soft (by kernel_rfl)) ?_ ?_
  · intro u i v h
    rcases i with _ | _ | _ | _ | i
    all_goals first | (simp [Act.put, putV]; done) | (exfalso; simp at h; omega)
  · intro hs
    refine ⟨?_, ?_, ?_, ?_, trivial⟩
    · exact step_pureO hs (wants_none rfl) rfl fun L u W hG hdep => ⟨_, run_move rfl, rfl⟩
    · refine step_call hs (wants_none rfl) rfl fun L u W hJ hG hL hdep K hK => ?_
      have x0 := (show u 0 = .slice a 32 cap from hG 0 (hdep 0 (by kernel_rfl)))
      have hRB0 := (ha.below (hbel.trans (hJ.below (by have := hbel.size; omega) (fun k b hf => by rcases k with _ | _ | _ | _ | k <;> first | (cases hf; done) | (cases hf; omega)))))
      go_simp
      go_at_call 16
      (with_reducible refine (kWide rfl hRB0).mono ?_); rintro e w1 ⟨r, rfl, hr, hb⟩
      have hk := hK.out _ _ hr hb
      simp only [x0] at hk
      exact hk
    · refine step_storeO q2 32 hs (wants_none rfl) rfl rfl (by kernel_rfl) (fun k hk => ?_) (fun _ => E2.out) (there_lt ht2 (by omega)) ht2 (gives_op 1 rfl (by kernel_rfl) (fun _ => rfl)) tySc rfl
      rcases k with _ | _ | _ | _ | k
      all_goals first | (exact absurd rfl hk) | (intro e; cases e; done)
    · exact step_pureO hs (wants_none rfl) rfl fun L u W hG hdep => ⟨_, run_assign rfl, rfl⟩
  intro L3 u3 W3 hall hJ hG
  have hb : Below w.heap.size W1 W3 := hJ.below (by have := hbel.size; omega) (fun k b hf => by rcases k with _ | _ | _ | _ | k <;> first | (cases hf; done) | (cases hf; omega))
  have hbel := hbel.trans hb
  obtain ⟨_, hs3_2t, hs3_2⟩ := (show _ ∧ W3.there q2 0 32 ∧ HasFs rC W3 q2 0 [wS l] from hG 2 (by simp))
  have HC3 := Lib.hid (show u3 3 = .int .i64 0 from hG 3 (by simp))
  have hbel0 := hbel
  clear hJ hG hall hb
  go_wp2
  exact ret_cell_slot (R := rC) Try.results17 (by exact E2.out) (by exact HC3.out) hs3_2 tySc rfl (fun s hs => ⟨s, rfl, hs, hbel⟩)
set_option maxHeartbeats 4000000 in
theorem rstrictSc_no {a : Option Addr} {n cap : Nat} {l : List UInt8} (w : World) (ha : RdB w a n cap l) (hn : n = 32) (hok : scOk l = false) :
    Calls Try.prog 17 #[.slice a n cap] w fun e w' => ∃ r, e = .returned (.tuple #[r, .int .i64 2]) ∧ IsFs rC r [0] ∧ Below w.heap.size w w' := by
  have HQ := Lib.hid (show decide (leB 32 (wS l).val = l) = false from by rw [scOk_back l (by rw [ha.hlen, hn]), hok])
  subst hn
  clear hok
  go_enter Try.func17, Try.ntmps17
  have hbel : Below w.heap.size w w := Below.refl _ _
  have hbel0 := hbel
  go_upto_region 0 with fail
  refine wp_region_turn (fun u => #[.slice a 32 cap, undef, u 0, u 1, undef, undef, undef, undef, undef, undef, undef, undef, undef, undef, undef, undef, undef, undef, undef]) (Holds [.new 32, .oth (fun v => v = .int .i64 0)] w) (Keep [.new 32, .oth (fun v => v = .int .i64 0)] w) (fun _ => undef) ?_ (by rfl) Keep.start (holds_soft (by kernel_rfl)) ?_ ?_
  · intro u i v h
    rcases i with _ | _ | i
    all_goals first | (simp [Act.put, putV]; done) | (exfalso; simp at h; omega)
  · intro hs
    refine ⟨?_, ?_, trivial⟩
    · exact step_alloc hs (wants_none rfl) rfl rfl (by omega) rfl allocSc
    · exact step_pureO hs (wants_none rfl) rfl fun L u W hG hdep => ⟨_, run_assign rfl, rfl⟩
  intro L0 u0 W0 hall hJ hG
  obtain ⟨q2, e2, hq2, _, ht2⟩ := (show ∃ g, u0 0 = .pointer (some ⟨g, 0, none⟩) ∧ w.heap.size ≤ g ∧ 0 < 32 ∧ W0.there g 0 32 from hG 0 (by simp))
  have hq2 : w.heap.size ≤ q2 := by have := hbel0.size; omega
  have E2 := Lib.hid e2; clear e2
  have hb := hJ.all rfl
  have hbel := Below.call hbel hb
  have HC3 := Lib.hid (show u0 1 = .int .i64 0 from hG 1 (by simp))
  have hbel0 := hbel
  clear hJ hG hall hb
  go_upto_region 1 with fail
  refine wp_region_mid (fun u => #[.slice a 32 cap, undef, u0 0, u0 1, u 0, u 1, u 2, u 3, u 4, u 5, u 6, u 7, u 8, u 9, u 10, u 11, undef, undef, undef]) (Holds [.oth (fun v => v = .slice a 32 cap), .oth (fun v => v = .int .i64 32), .oth (fun v => v = .bool false), .oth (fun v => v = .bool false), .oth (fun v => v = .slice a 32 cap), .val rC [wS l], .rd (leB 32 (wS l).val), .oth (fun v => v = (.string (bs (leB 32 (wS l).val)))), .oth (fun v => v = .slice a 32 cap), .oth (fun v => v = (.string (bs l))), .oth (fun v => v = .bool true), .oth (fun v => v = .bool true)] W0) (Keep [.oth (fun v => v = .slice a 32 cap), .oth (fun v => v = .int .i64 32), .oth (fun v => v = .bool false), .oth (fun v => v = .bool false), .oth (fun v => v = .slice a 32 cap), .val rC [wS l], .rd (leB 32 (wS l).val), .oth (fun v => v = (.string (bs (leB 32 (wS l).val)))), .oth (fun v => v = .slice a 32 cap), .oth (fun v => v = (.string (bs l))), .oth (fun v => v = .bool true), .oth (fun v => v = .bool true)] W0) (fun _ => undef) (by kernel_rfl) (by kernel_rfl) ?_ (by rfl) Keep.drew (holds_soft (by kernel_rfl)) ?_ ?_
  · intro u i v h
    rcases i with _ | _ | _ | _ | _ | _ | _ | _ | _ | _ | _ | _ | i
    all_goals first | (simp [Act.put, putV]; done) | (exfalso; simp at h; omega)
  · intro hs
    refine ⟨?_, ?_, ?_, ?_, ?_, ?_, ?_, ?_, ?_, ?_, ?_, ?_, trivial⟩
    · exact step_pureO hs (wants_none rfl) rfl fun L u W hG hdep => ⟨_, run_move rfl, rfl⟩
    · refine step_pureO hs (wants_none rfl) rfl fun L u W hG hdep => ⟨_, ?_, rfl⟩
      have e0 := (show u 0 = .slice a 32 cap from hG 0 (hdep 0 (by kernel_rfl)))
      go_simp
    · refine step_pureO hs (wants_none rfl) rfl fun L u W hG hdep => ⟨_, ?_, rfl⟩
      have e0 := (show u 1 = .int .i64 32 from hG 1 (hdep 1 (by kernel_rfl)))
      go_simp
      try simp [bne]
    · exact step_pureO hs (wants_none rfl) rfl fun L u W hG hdep => ⟨_, run_move rfl, (show u 2 = .bool false from hG 2 (hdep 2 (by kernel_rfl)))⟩
    · exact step_pureO hs (wants_on 3 rfl rfl (by kernel_rfl) (fun _ => rfl)) rfl fun L u W hG hdep => ⟨_, run_move rfl, rfl⟩
    · refine step_call hs (wants_on 3 rfl rfl (by kernel_rfl) (fun _ => rfl)) rfl fun L u W hJ hG hL hdep K hK => ?_
      have x0 := (show u 4 = .slice a 32 cap from hG 4 (hdep 4 (by kernel_rfl)))
      have hRB0 := (ha.below hbel).below (hJ.all rfl)
      go_simp
      go_at_call 16
      (with_reducible refine (kWide rfl hRB0).mono ?_); rintro e w1 ⟨r, rfl, hr, hb⟩
      have hk := hK.out _ _ hr hb
      simp only [x0] at hk
      exact hk
    · refine step_callB hs (wants_on 3 rfl rfl (by kernel_rfl) (fun _ => rfl)) rfl fun L u W hJ hG hdep K hK => ?_
      have a0 := (show IsFs rC (u 5) [wS l] from hG 5 (hdep 5 (by kernel_rfl)))
      go_simp
      go_at_call 35
      (with_reducible refine (kScBytes a0 _).mono ?_); rintro e w1 ⟨g, n, cap, r, rfl, h1, h2, h3, h4, h5, hb⟩
      have hk := hK.out _ _ _ _ _ h1 h2 h3 h4 h5 hb
      exact hk
    · exact step_conv 6 hs (wants_on 3 rfl rfl (by kernel_rfl) (fun _ => rfl)) rfl rfl rfl (by kernel_rfl) (fun _ => rfl)
    · exact step_pureO hs (wants_on 3 rfl rfl (by kernel_rfl) (fun _ => rfl)) rfl fun L u W hG hdep => ⟨_, run_move rfl, rfl⟩
    · exact step_convC hs (wants_on 3 rfl rfl (by kernel_rfl) (fun _ => rfl)) rfl rfl (ha.below hbel) (by kernel_rfl) (fun L u W hG hdep => (show u 8 = .slice a 32 cap from hG 8 (hdep 8 (by kernel_rfl))))
    · exact step_pureO hs (wants_on 3 rfl rfl (by kernel_rfl) (fun _ => rfl)) rfl fun L u W hG hdep => ⟨_, run_neqS rfl (show u 7 = (.string (bs (leB 32 (wS l).val))) from hG 7 (hdep 7 (by kernel_rfl))) (show u 9 = (.string (bs l)) from hG 9 (hdep 9 (by kernel_rfl))), by rw [HQ.out]; rfl⟩
    · exact step_pick false hs (wants_none rfl) rfl rfl (fun L u W hG hdep => (show u 3 = .bool false from hG 3 (hdep 3 (by kernel_rfl)))) (fun L u W hG hdep => (show u 10 = .bool true from hG 10 (hdep 10 (by kernel_rfl))))
  intro L1 u1 W1 hall hJ hG
  have hb := hJ.all rfl
  have hbel := Below.call hbel hb
  have ht2 := there_later ht2 hb
  have HC6 := Lib.hid (show u1 2 = .bool false from hG 2 (by simp))
  have HC7 := Lib.hid (show u1 3 = .bool false from hG 3 (by simp))
  have HC14 := Lib.hid (show u1 10 = .bool true from hG 10 (by simp))
  have HC15 := Lib.hid (show u1 11 = .bool true from hG 11 (by simp))
  have hbel0 := hbel
  clear hJ hG hall hb
  have hx : u1 11 = .bool true := HC15.out
  go_wp2_with fail
  rw [hx]
  clear hx
  go_upto_region 2 with fail
  refine wp_region_turn (fun u => #[.slice a 32 cap, undef, u0 0, u 2, u1 0, u1 1, u1 2, u1 3, u1 4, u1 5, u1 6, u1 7, u1 8, u1 9, u1 10, .bool true, u 0, undef, undef]) (Holds [.val rC [0], .sto q2 rC [0], .oth (fun v => v = .int .i64 2)] W1) (Keep [.val rC [0], .sto q2 rC [0], .oth (fun v => v = .int .i64 2)] W1) (fun k => ([undef, undef, u0 1] : List Value).getD k undef) ?_ (by rfl) Keep.start (holds_soft (by kernel_rfl)) ?_ ?_
  · intro u i v h
    rcases i with _ | _ | _ | i
    all_goals first | (simp [Act.put, putV]; done) | (exfalso; simp at h; omega)
  · intro hs
    refine ⟨?_, ?_, ?_, trivial⟩
    · exact step_pure hs (wants_none rfl) rfl fun L u W hG hdep => run_build0 rfl (buildSc0 W)
    · refine step_storeO q2 32 hs (wants_none rfl) rfl rfl (by kernel_rfl) (fun k hk => ?_) (fun _ => E2.out) (there_lt ht2 (by omega)) ht2 (gives_op 0 rfl (by kernel_rfl) (fun _ => rfl)) tySc rfl
      rcases k with _ | _ | _ | k
      all_goals first | (exact absurd rfl hk) | (intro e; cases e; done)
    · exact step_pureO hs (wants_none rfl) rfl fun L u W hG hdep => ⟨_, run_assign rfl, rfl⟩
  intro L2 u2 W2 hall hJ hG
  have hb : Below w.heap.size W1 W2 := hJ.below (by have := hbel.size; omega) (fun k b hf => by rcases k with _ | _ | _ | k <;> first | (cases hf; done) | (cases hf; omega))
  have hbel := hbel.trans hb
  obtain ⟨_, hs2_1t, hs2_1⟩ := (show _ ∧ W2.there q2 0 32 ∧ HasFs rC W2 q2 0 [0] from hG 1 (by simp))
  have HC3 := Lib.hid (show u2 2 = .int .i64 2 from hG 2 (by simp))
  have hbel0 := hbel
  clear hJ hG hall hb
  go_wp2
  exact ret_cell_slot (R := rC) Try.results17 (by exact E2.out) (by exact HC3.out) hs2_1 tySc rfl (fun s hs => ⟨s, rfl, hs, hbel⟩)
theorem kScStrict {a : Option Addr} {n cap : Nat} {l : List UInt8} {x : F} {c : Int} {w : World} (hx : ssV l = x) (hc : ssC l = c) (h : RdB w a n cap l) :
    Calls Try.prog 17 #[.slice a n cap] w fun e w' => ∃ r, e = .returned (.tuple #[r, .int .i64 c]) ∧ IsFs rC r [x] ∧ Below w.heap.size w w' := by
  subst hx hc
  have hlen := h.hlen
  by_cases hn : n = 32
  · cases e : scOk l
    · rw [ssV, ssC, e]
      exact rstrictSc_no w h hn e
    · rw [ssV, ssC, e, if_pos rfl, if_pos rfl, ← wS_ok e]
      exact rstrictSc_yes w h hn e
  · have e := scOk_len (l := l) (by omega)
    rw [ssV, ssC, e]
    exact rstrictSc_len w hn
end Go.Proofs.Ytbgfokdchpcifaa
