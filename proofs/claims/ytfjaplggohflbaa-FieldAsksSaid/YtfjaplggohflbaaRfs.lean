/- The document's own field: reading strictly; the bytes of its numbers. -/
import Derived.Test.YtfjaplggohflbaaRrp
import Derived.Test.YtfjaplggohflbaaRegs
import Derived.Test.YtfjaplggohflbaaFrs
namespace Go.Proofs.Ytfjaplggohflbaa
open Go Go.RowKit

theorem run_eqlR {ev : Operand → Value} {o : Oper} {W : World} {x y : F} {a b : Operand} {t : TypeId} (ho : o.op = .binOp .eql 46 a b t) (ha : IsFs rR (ev a) [x]) (hb : IsFs rR (ev b) [y]) :
    (execOp ev o).run Try.prog W = .ok (.value (.bool (decide (x = y)))) W := by
  have hg : Try.prog.eqGuardType Try.prog.depth 46 = false := by kernel_rfl
  have h1 := of_isR ha
  have h2 := of_isR hb
  unfold execOp
  simp only [ho, h1, h2]
  simp [eqGuard, binOp, hg, eq_row]
theorem kOf' {a : Option Addr} {n cap : Nat} {l : List UInt8} {x : F} {w : World} (hx : feF l = x) (h : RdB w a n cap l) :
    Calls Try.prog 26 #[.slice a n cap] w fun e w' => ∃ r, e = .returned r ∧ IsFs rR r [x] ∧ Below w.heap.size w w' := by
  subst hx
  exact (rofM w h).mono fun _ _ ⟨he, hb⟩ => ⟨_, he, isR _, hb⟩
theorem kBytes {v : Value} {x : F} (h : IsFs rR v [x]) (w : World) :
    Calls Try.prog 47 #[v] w fun e w' => ∃ g n cap r, e = .returned (.slice (some ⟨g, 0, none⟩) n cap) ∧ w.heap.size ≤ g ∧ Blk w' g ((leB 32 x.val).map bV ++ r) 5 ∧ (leB 32 x.val).length = n ∧ n ≤ cap ∧ cap ≤ maxLen ∧ Below w.heap.size w w' := by
  rw [of_isR h]
  exact (rbytes_any x.val w).mono fun _ _ ⟨g, cap, r, he, hg, hB, h1, h2, hb⟩ => ⟨g, 32, cap, r, he, hg, hB, leB_len _ _, h1, h2, hb⟩
theorem feOk_len {l : List UInt8} (h : l.length ≠ 32) : feOk l = false := by simp [feOk, h]
theorem feOk_high {l : List UInt8} (h : l.length = 32) (h2 : 127 < (l[31]'(by omega)).toNat) : feOk l = false := by
  have h3 := leN_take l 31 (by omega)
  rw [List.take_of_length_le (by omega)] at h3
  have : Pq ≤ leN l := by
    rw [h3]
    have : Pq ≤ 128 * 256 ^ 31 := by decide +kernel
    refine Nat.le_trans this (Nat.le_trans (Nat.mul_le_mul_right _ ?_) (Nat.le_add_left _ _))
    omega
  simp [feOk]; omega
set_option maxHeartbeats 4000000 in
theorem rstrict_len {a : Option Addr} {n cap : Nat} {l : List UInt8} (w : World) (ha : RdB w a n cap l) (hn : n ≠ 32) :
    Calls Try.prog 27 #[.slice a n cap] w fun e w' => ∃ r, e = .returned (.tuple #[r, .int .i64 2]) ∧ IsFs rR r [0] ∧ Below w.heap.size w w' := by
  have f1 : (((n : Nat) : Int) != 32) = true := by simp; omega
  have F1 := Lib.hid f1
  clear hn f1
  go_enter Try.func27, Try.ntmps27
  have hbel : Below w.heap.size w w := Below.refl _ _
  have hbel0 := hbel
  go_upto_region 0 with fail
  refine wp_region_turn (fun u => #[.slice a n cap, undef, u 0, u 1, undef, undef, undef, undef, undef, undef, undef, undef, undef, undef, undef, undef, undef, undef, undef, undef, undef, undef, undef, undef, undef]) (Holds [.new 16, .oth (fun v => v = .int .i64 0)] w) (Keep [.new 16, .oth (fun v => v = .int .i64 0)] w) (fun _ => undef) ?_ (by rfl) Keep.start (holds_soft (by kernel_rfl)) ?_ ?_
  · intro u i v h
    rcases i with _ | _ | i
    all_goals first | (simp [Act.put, putV]; done) | (exfalso; simp at h; omega)
  · intro hs
    refine ⟨?_, ?_, trivial⟩
    · exact step_alloc hs (wants_none rfl) rfl rfl (by omega) rfl allocFe
    · exact step_pureO hs (wants_none rfl) rfl fun L u W hG hdep => ⟨_, run_assign rfl, rfl⟩
  intro L0 u0 W0 hall hJ hG
  obtain ⟨q2, e2, hq2, _, ht2⟩ := (show ∃ g, u0 0 = .pointer (some ⟨g, 0, none⟩) ∧ w.heap.size ≤ g ∧ 0 < 16 ∧ W0.there g 0 16 from hG 0 (by simp))
  have hq2 : w.heap.size ≤ q2 := by have := hbel0.size; omega
  have E2 := Lib.hid e2; clear e2
  have hb := hJ.all rfl
  have hbel := Below.call hbel hb
  have HC3 := Lib.hid (show u0 1 = .int .i64 0 from hG 1 (by simp))
  have hbel0 := hbel
  clear hJ hG hall hb
  go_upto_region 1 with fail
  refine wp_region_mid (fun u => #[.slice a n cap, undef, u0 0, u0 1, u 0, u 1, u 2, u 3, u 4, u 5, u 6, u 7, u 8, u 9, u 10, u 11, u 12, u 13, u 14, u 15, u 16, u 17, undef, undef, undef]) (Holds [.oth (fun v => v = .slice a n cap), .oth (fun v => v = .int .i64 (n : Nat)), .oth (fun v => v = .bool true), .oth (fun v => v = .bool true), .any, .any, .any, .any, .oth (fun v => v = .bool true), .oth (fun v => v = .bool true), .any, .any, .any, .any, .any, .any, .any, .oth (fun v => v = .bool true)] W0) (Keep [.oth (fun v => v = .slice a n cap), .oth (fun v => v = .int .i64 (n : Nat)), .oth (fun v => v = .bool true), .oth (fun v => v = .bool true), .any, .any, .any, .any, .oth (fun v => v = .bool true), .oth (fun v => v = .bool true), .any, .any, .any, .any, .any, .any, .any, .oth (fun v => v = .bool true)] W0) (fun _ => undef) (by kernel_rfl) (by kernel_rfl) ?_ (by rfl) Keep.drew (holds_soft (by kernel_rfl)) ?_ ?_
  · intro u i v h
    rcases i with _ | _ | _ | _ | _ | _ | _ | _ | _ | _ | _ | _ | _ | _ | _ | _ | _ | _ | i
    all_goals first | (simp [Act.put, putV]; done) | (exfalso; simp at h; omega)
  · intro hs
    refine ⟨?_, ?_, ?_, ?_, ?_, ?_, ?_, ?_, ?_, ?_, ?_, ?_, ?_, ?_, ?_, ?_, ?_, ?_, trivial⟩
    · exact step_pureO hs (wants_none rfl) rfl fun L u W hG hdep => ⟨_, run_move rfl, rfl⟩
    · refine step_pureO hs (wants_none rfl) rfl fun L u W hG hdep => ⟨_, ?_, rfl⟩
      have e0 := (show u 0 = .slice a n cap from hG 0 (hdep 0 (by kernel_rfl)))
      go_simp
    · refine step_pureO hs (wants_none rfl) rfl fun L u W hG hdep => ⟨_, ?_, rfl⟩
      have e0 := (show u 1 = .int .i64 (n : Nat) from hG 1 (hdep 1 (by kernel_rfl)))
      have f1 := F1.out
      go_simp
    · exact step_pureO hs (wants_none rfl) rfl fun L u W hG hdep => ⟨_, run_move rfl, (show u 2 = .bool true from hG 2 (hdep 2 (by kernel_rfl)))⟩
    · exact step_out hs (wants_off 3 rfl rfl rfl (by kernel_rfl) (fun _ => rfl)) rfl
    · exact step_out hs (wants_off 3 rfl rfl rfl (by kernel_rfl) (fun _ => rfl)) rfl
    · exact step_out hs (wants_off 3 rfl rfl rfl (by kernel_rfl) (fun _ => rfl)) rfl
    · exact step_out hs (wants_off 3 rfl rfl rfl (by kernel_rfl) (fun _ => rfl)) rfl
    · exact step_pick true hs (wants_none rfl) rfl rfl (fun L u W hG hdep => (show u 3 = .bool true from hG 3 (hdep 3 (by kernel_rfl)))) (fun L u W hG hdep => rfl)
    · exact step_pureO hs (wants_none rfl) rfl fun L u W hG hdep => ⟨_, run_move rfl, (show u 8 = .bool true from hG 8 (hdep 8 (by kernel_rfl)))⟩
    · exact step_out hs (wants_off 9 rfl rfl rfl (by kernel_rfl) (fun _ => rfl)) rfl
    · exact step_out hs (wants_off 9 rfl rfl rfl (by kernel_rfl) (fun _ => rfl)) rfl
    · exact step_out hs (wants_off 9 rfl rfl rfl (by kernel_rfl) (fun _ => rfl)) rfl
    · exact step_out hs (wants_off 9 rfl rfl rfl (by kernel_rfl) (fun _ => rfl)) rfl
    · exact step_out hs (wants_off 9 rfl rfl rfl (by kernel_rfl) (fun _ => rfl)) rfl
    · exact step_out hs (wants_off 9 rfl rfl rfl (by kernel_rfl) (fun _ => rfl)) rfl
    · exact step_out hs (wants_off 9 rfl rfl rfl (by kernel_rfl) (fun _ => rfl)) rfl
    · exact step_pick true hs (wants_none rfl) rfl rfl (fun L u W hG hdep => (show u 9 = .bool true from hG 9 (hdep 9 (by kernel_rfl)))) (fun L u W hG hdep => rfl)
  intro L1 u1 W1 hall hJ hG
  have hb := hJ.all rfl
  have hbel := Below.call hbel hb
  have ht2 := there_later ht2 hb
  have HC6 := Lib.hid (show u1 2 = .bool true from hG 2 (by simp))
  have HC7 := Lib.hid (show u1 3 = .bool true from hG 3 (by simp))
  have HC12 := Lib.hid (show u1 8 = .bool true from hG 8 (by simp))
  have HC13 := Lib.hid (show u1 9 = .bool true from hG 9 (by simp))
  have HC21 := Lib.hid (show u1 17 = .bool true from hG 17 (by simp))
  have hbel0 := hbel
  clear hJ hG hall hb
  have hx : u1 17 = .bool true := HC21.out
  go_wp2_with fail
  rw [hx]
  clear hx
  go_upto_region 2 with fail
  refine wp_region_turn (fun u => #[.slice a n cap, undef, u0 0, u 2, u1 0, u1 1, u1 2, u1 3, u1 4, u1 5, u1 6, u1 7, u1 8, u1 9, u1 10, u1 11, u1 12, u1 13, u1 14, u1 15, u1 16, .bool true, u 0, undef, undef]) (Holds [.val rR [0], .sto q2 rR [0], .oth (fun v => v = .int .i64 2)] W1) (Keep [.val rR [0], .sto q2 rR [0], .oth (fun v => v = .int .i64 2)] W1) (fun k => ([undef, undef, u0 1] : List Value).getD k undef) ?_ (by rfl) Keep.start (holds_soft (by kernel_rfl)) ?_ ?_
  · intro u i v h
    rcases i with _ | _ | _ | i
    all_goals first | (simp [Act.put, putV]; done) | (exfalso; simp at h; omega)
  · intro hs
    refine ⟨?_, ?_, ?_, trivial⟩
    · exact step_pure hs (wants_none rfl) rfl fun L u W hG hdep => run_build0 rfl (buildFe0 W)
    · refine step_storeO q2 16 hs (wants_none rfl) rfl rfl (by kernel_rfl) (fun k R' ys hk => ?_) (fun _ => E2.out) (there_lt ht2 (by omega)) ht2 (gives_op 0 rfl (by kernel_rfl) (fun _ => rfl)) tyFe rfl
      rcases k with _ | _ | _ | k
      all_goals first | (exact absurd rfl hk) | (intro e; cases e; done)
    · exact step_pureO hs (wants_none rfl) rfl fun L u W hG hdep => ⟨_, run_assign rfl, rfl⟩
  intro L2 u2 W2 hall hJ hG
  have hb : Below w.heap.size W1 W2 := hJ.below (by have := hbel.size; omega) (fun k b R xs hf => by rcases k with _ | _ | _ | k <;> first | (cases hf; done) | (injection hf; omega))
  have hbel := hbel.trans hb
  obtain ⟨_, hs2_1t, hs2_1⟩ := (show _ ∧ W2.there q2 0 16 ∧ HasFs rR W2 q2 0 [0] from hG 1 (by simp))
  have HC3 := Lib.hid (show u2 2 = .int .i64 2 from hG 2 (by simp))
  have hbel0 := hbel
  clear hJ hG hall hb
  go_wp2
  exact ret_cell_slot (R := rR) Try.results27 (by exact E2.out) (by exact HC3.out) hs2_1 tyFe rfl (fun s hs => ⟨s, rfl, hs, hbel⟩)
set_option maxHeartbeats 4000000 in
theorem rstrict_high {a : Option Addr} {n cap : Nat} {l : List UInt8} (w : World) (ha : RdB w a n cap l) (hn : n = 32) (h2 : 127 < (l[31]'(by have := ha.hlen; omega)).toNat) :
    Calls Try.prog 27 #[.slice a n cap] w fun e w' => ∃ r, e = .returned (.tuple #[r, .int .i64 2]) ∧ IsFs rR r [0] ∧ Below w.heap.size w w' := by
  subst hn
  obtain ⟨b, o, ho, hc⟩ := ha.get 31 (by have := ha.hlen; omega)
  have hl : l.length = 32 := ha.hlen
  generalize hcc : l[31] = c at *
  subst ho
  have HCL := Lib.hid hc
  have hcl := c.toNat_lt
  clear hc hcc
  have H2 := Lib.hid (show decide ((127 : Int) < (c.toNat : Int)) = true by simp; omega)
  clear h2
  go_enter Try.func27, Try.ntmps27
  have hbel : Below w.heap.size w w := Below.refl _ _
  have hbel0 := hbel
  go_upto_region 0 with fail
  refine wp_region_turn (fun u => #[.slice (some ⟨b, o, none⟩) 32 cap, undef, u 0, u 1, undef, undef, undef, undef, undef, undef, undef, undef, undef, undef, undef, undef, undef, undef, undef, undef, undef, undef, undef, undef, undef]) (Holds [.new 16, .oth (fun v => v = .int .i64 0)] w) (Keep [.new 16, .oth (fun v => v = .int .i64 0)] w) (fun _ => undef) ?_ (by rfl) Keep.start (holds_soft (by kernel_rfl)) ?_ ?_
  · intro u i v h
    rcases i with _ | _ | i
    all_goals first | (simp [Act.put, putV]; done) | (exfalso; simp at h; omega)
  · intro hs
    refine ⟨?_, ?_, trivial⟩
    · exact step_alloc hs (wants_none rfl) rfl rfl (by omega) rfl allocFe
    · exact step_pureO hs (wants_none rfl) rfl fun L u W hG hdep => ⟨_, run_assign rfl, rfl⟩
  intro L0 u0 W0 hall hJ hG
  obtain ⟨q2, e2, hq2, _, ht2⟩ := (show ∃ g, u0 0 = .pointer (some ⟨g, 0, none⟩) ∧ w.heap.size ≤ g ∧ 0 < 16 ∧ W0.there g 0 16 from hG 0 (by simp))
  have hq2 : w.heap.size ≤ q2 := by have := hbel0.size; omega
  have E2 := Lib.hid e2; clear e2
  have hb := hJ.all rfl
  have hbel := Below.call hbel hb
  have HC3 := Lib.hid (show u0 1 = .int .i64 0 from hG 1 (by simp))
  have hbel0 := hbel
  clear hJ hG hall hb
  go_upto_region 1 with fail
  refine wp_region_mid (fun u => #[.slice (some ⟨b, o, none⟩) 32 cap, undef, u0 0, u0 1, u 0, u 1, u 2, u 3, u 4, u 5, u 6, u 7, u 8, u 9, u 10, u 11, u 12, u 13, u 14, u 15, u 16, u 17, undef, undef, undef]) (Holds [.oth (fun v => v = .slice (some ⟨b, o, none⟩) 32 cap), .oth (fun v => v = .int .i64 32), .oth (fun v => v = .bool false), .oth (fun v => v = .bool false), .oth (fun v => v = .slice (some ⟨b, o, none⟩) 32 cap), .oth (fun v => v = .pointer (some ⟨b, o + 31, none⟩)), .oth (fun v => v = .int .u8 (c.toNat : Int)), .oth (fun v => v = .bool true), .oth (fun v => v = .bool true), .oth (fun v => v = .bool true), .any, .any, .any, .any, .any, .any, .any, .oth (fun v => v = .bool true)] W0) (Keep [.oth (fun v => v = .slice (some ⟨b, o, none⟩) 32 cap), .oth (fun v => v = .int .i64 32), .oth (fun v => v = .bool false), .oth (fun v => v = .bool false), .oth (fun v => v = .slice (some ⟨b, o, none⟩) 32 cap), .oth (fun v => v = .pointer (some ⟨b, o + 31, none⟩)), .oth (fun v => v = .int .u8 (c.toNat : Int)), .oth (fun v => v = .bool true), .oth (fun v => v = .bool true), .oth (fun v => v = .bool true), .any, .any, .any, .any, .any, .any, .any, .oth (fun v => v = .bool true)] W0) (fun _ => undef) (by kernel_rfl) (by kernel_rfl) ?_ (by rfl) Keep.drew (holds_soft (by kernel_rfl)) ?_ ?_
  · intro u i v h
    rcases i with _ | _ | _ | _ | _ | _ | _ | _ | _ | _ | _ | _ | _ | _ | _ | _ | _ | _ | i
    all_goals first | (simp [Act.put, putV]; done) | (exfalso; simp at h; omega)
  · intro hs
    refine ⟨?_, ?_, ?_, ?_, ?_, ?_, ?_, ?_, ?_, ?_, ?_, ?_, ?_, ?_, ?_, ?_, ?_, ?_, trivial⟩
    · exact step_pureO hs (wants_none rfl) rfl fun L u W hG hdep => ⟨_, run_move rfl, rfl⟩
    · refine step_pureO hs (wants_none rfl) rfl fun L u W hG hdep => ⟨_, ?_, rfl⟩
      have e0 := (show u 0 = .slice (some ⟨b, o, none⟩) 32 cap from hG 0 (hdep 0 (by kernel_rfl)))
      go_simp
    · refine step_pureO hs (wants_none rfl) rfl fun L u W hG hdep => ⟨_, ?_, rfl⟩
      have e0 := (show u 1 = .int .i64 32 from hG 1 (hdep 1 (by kernel_rfl)))
      go_simp
      try simp [bne]
    · exact step_pureO hs (wants_none rfl) rfl fun L u W hG hdep => ⟨_, run_move rfl, (show u 2 = .bool false from hG 2 (hdep 2 (by kernel_rfl)))⟩
    · exact step_pureO hs (wants_on 3 rfl rfl (by kernel_rfl) (fun _ => rfl)) rfl fun L u W hG hdep => ⟨_, run_move rfl, rfl⟩
    · refine step_pureO hs (wants_on 3 rfl rfl (by kernel_rfl) (fun _ => rfl)) rfl fun L u W hG hdep => ⟨_, ?_, rfl⟩
      have e0 := (show u 4 = .slice (some ⟨b, o, none⟩) 32 cap from hG 4 (hdep 4 (by kernel_rfl)))
      have f0 : (31 : Nat) < 32 := by omega
      go_simp
    · exact step_cell b (o + 31) hs (wants_on 3 rfl rfl (by kernel_rfl) (fun _ => rfl)) rfl rfl (fun _ h => load_u8 h) (fun L u W hG hdep => (show u 5 = .pointer (some ⟨b, o + 31, none⟩) from hG 5 (hdep 5 (by kernel_rfl)))) (cell_keep HCL.out hbel) (noSto_apart (by kernel_rfl))
    · refine step_pureO hs (wants_on 3 rfl rfl (by kernel_rfl) (fun _ => rfl)) rfl fun L u W hG hdep => ⟨_, ?_, rfl⟩
      have e0 := (show u 6 = .int .u8 (c.toNat : Int) from hG 6 (hdep 6 (by kernel_rfl)))
      have f1 := H2.out
      go_simp
    · exact step_pick false hs (wants_none rfl) rfl rfl (fun L u W hG hdep => (show u 3 = .bool false from hG 3 (hdep 3 (by kernel_rfl)))) (fun L u W hG hdep => (show u 7 = .bool true from hG 7 (hdep 7 (by kernel_rfl))))
    · exact step_pureO hs (wants_none rfl) rfl fun L u W hG hdep => ⟨_, run_move rfl, (show u 8 = .bool true from hG 8 (hdep 8 (by kernel_rfl)))⟩
    · exact step_out hs (wants_off 9 rfl rfl rfl (by kernel_rfl) (fun _ => rfl)) rfl
    · exact step_out hs (wants_off 9 rfl rfl rfl (by kernel_rfl) (fun _ => rfl)) rfl
    · exact step_out hs (wants_off 9 rfl rfl rfl (by kernel_rfl) (fun _ => rfl)) rfl
    · exact step_out hs (wants_off 9 rfl rfl rfl (by kernel_rfl) (fun _ => rfl)) rfl
    · exact step_out hs (wants_off 9 rfl rfl rfl (by kernel_rfl) (fun _ => rfl)) rfl
    · exact step_out hs (wants_off 9 rfl rfl rfl (by kernel_rfl) (fun _ => rfl)) rfl
    · exact step_out hs (wants_off 9 rfl rfl rfl (by kernel_rfl) (fun _ => rfl)) rfl
    · exact step_pick true hs (wants_none rfl) rfl rfl (fun L u W hG hdep => (show u 9 = .bool true from hG 9 (hdep 9 (by kernel_rfl)))) (fun L u W hG hdep => rfl)
  intro L1 u1 W1 hall hJ hG
  have hb := hJ.all rfl
  have hbel := Below.call hbel hb
  have ht2 := there_later ht2 hb
  have HC6 := Lib.hid (show u1 2 = .bool false from hG 2 (by simp))
  have HC7 := Lib.hid (show u1 3 = .bool false from hG 3 (by simp))
  have HC11 := Lib.hid (show u1 7 = .bool true from hG 7 (by simp))
  have HC12 := Lib.hid (show u1 8 = .bool true from hG 8 (by simp))
  have HC13 := Lib.hid (show u1 9 = .bool true from hG 9 (by simp))
  have HC21 := Lib.hid (show u1 17 = .bool true from hG 17 (by simp))
  have hbel0 := hbel
  clear hJ hG hall hb
  have hx : u1 17 = .bool true := HC21.out
  go_wp2_with fail
  rw [hx]
  clear hx
  go_upto_region 2 with fail
  refine wp_region_turn (fun u => #[.slice (some ⟨b, o, none⟩) 32 cap, undef, u0 0, u 2, u1 0, u1 1, u1 2, u1 3, u1 4, u1 5, u1 6, u1 7, u1 8, u1 9, u1 10, u1 11, u1 12, u1 13, u1 14, u1 15, u1 16, .bool true, u 0, undef, undef]) (Holds [.val rR [0], .sto q2 rR [0], .oth (fun v => v = .int .i64 2)] W1) (Keep [.val rR [0], .sto q2 rR [0], .oth (fun v => v = .int .i64 2)] W1) (fun k => ([undef, undef, u0 1] : List Value).getD k undef) ?_ (by rfl) Keep.start (holds_soft (by kernel_rfl)) ?_ ?_
  · intro u i v h
    rcases i with _ | _ | _ | i
    all_goals first | (simp [Act.put, putV]; done) | (exfalso; simp at h; omega)
  · intro hs
    refine ⟨?_, ?_, ?_, trivial⟩
    · exact step_pure hs (wants_none rfl) rfl fun L u W hG hdep => run_build0 rfl (buildFe0 W)
    · refine step_storeO q2 16 hs (wants_none rfl) rfl rfl (by kernel_rfl) (fun k R' ys hk => ?_) (fun _ => E2.out) (there_lt ht2 (by omega)) ht2 (gives_op 0 rfl (by kernel_rfl) (fun _ => rfl)) tyFe rfl
      rcases k with _ | _ | _ | k
      all_goals first | (exact absurd rfl hk) | (intro e; cases e; done)
    · exact step_pureO hs (wants_none rfl) rfl fun L u W hG hdep => ⟨_, run_assign rfl, rfl⟩
  intro L2 u2 W2 hall hJ hG
  have hb : Below w.heap.size W1 W2 := hJ.below (by have := hbel.size; omega) (fun k b R xs hf => by rcases k with _ | _ | _ | k <;> first | (cases hf; done) | (injection hf; omega))
  have hbel := hbel.trans hb
  obtain ⟨_, hs2_1t, hs2_1⟩ := (show _ ∧ W2.there q2 0 16 ∧ HasFs rR W2 q2 0 [0] from hG 1 (by simp))
  have HC3 := Lib.hid (show u2 2 = .int .i64 2 from hG 2 (by simp))
  have hbel0 := hbel
  clear hJ hG hall hb
  go_wp2
  exact ret_cell_slot (R := rR) Try.results27 (by exact E2.out) (by exact HC3.out) hs2_1 tyFe rfl (fun s hs => ⟨s, rfl, hs, hbel⟩)
set_option maxHeartbeats 4000000 in
theorem rstrict_yes {a : Option Addr} {n cap : Nat} {l : List UInt8} (w : World) (ha : RdB w a n cap l) (hn : n = 32) (h2 : ¬ 127 < (l[31]'(by have := ha.hlen; omega)).toNat) (hok : feOk l = true) :
    Calls Try.prog 27 #[.slice a n cap] w fun e w' => ∃ r, e = .returned (.tuple #[r, .int .i64 0]) ∧ IsFs rR r [feF l] ∧ Below w.heap.size w w' := by
  subst hn
  obtain ⟨b, o, ho, hc⟩ := ha.get 31 (by have := ha.hlen; omega)
  have hl : l.length = 32 := ha.hlen
  generalize hcc : l[31] = c at *
  subst ho
  have HCL := Lib.hid hc
  have hcl := c.toNat_lt
  clear hc hcc
  have H2 := Lib.hid (show decide ((127 : Int) < (c.toNat : Int)) = false by simp; omega)
  have HQ := Lib.hid (show decide (leB 32 (feF l).val = l) = true from by rw [feOk_back, hok])
  clear h2 hok
  go_enter Try.func27, Try.ntmps27
  have hbel : Below w.heap.size w w := Below.refl _ _
  have hbel0 := hbel
  go_upto_region 0 with fail
  refine wp_region_turn (fun u => #[.slice (some ⟨b, o, none⟩) 32 cap, undef, u 0, u 1, undef, undef, undef, undef, undef, undef, undef, undef, undef, undef, undef, undef, undef, undef, undef, undef, undef, undef, undef, undef, undef]) (Holds [.new 16, .oth (fun v => v = .int .i64 0)] w) (Keep [.new 16, .oth (fun v => v = .int .i64 0)] w) (fun _ => undef) ?_ (by rfl) Keep.start (holds_soft (by kernel_rfl)) ?_ ?_
  · intro u i v h
    rcases i with _ | _ | i
    all_goals first | (simp [Act.put, putV]; done) | (exfalso; simp at h; omega)
  · intro hs
    refine ⟨?_, ?_, trivial⟩
    · exact step_alloc hs (wants_none rfl) rfl rfl (by omega) rfl allocFe
    · exact step_pureO hs (wants_none rfl) rfl fun L u W hG hdep => ⟨_, run_assign rfl, rfl⟩
  intro L0 u0 W0 hall hJ hG
  obtain ⟨q2, e2, hq2, _, ht2⟩ := (show ∃ g, u0 0 = .pointer (some ⟨g, 0, none⟩) ∧ w.heap.size ≤ g ∧ 0 < 16 ∧ W0.there g 0 16 from hG 0 (by simp))
  have hq2 : w.heap.size ≤ q2 := by have := hbel0.size; omega
  have E2 := Lib.hid e2; clear e2
  have hb := hJ.all rfl
  have hbel := Below.call hbel hb
  have HC3 := Lib.hid (show u0 1 = .int .i64 0 from hG 1 (by simp))
  have hbel0 := hbel
  clear hJ hG hall hb
  go_upto_region 1 with fail
  refine wp_region_mid (fun u => #[.slice (some ⟨b, o, none⟩) 32 cap, undef, u0 0, u0 1, u 0, u 1, u 2, u 3, u 4, u 5, u 6, u 7, u 8, u 9, u 10, u 11, u 12, u 13, u 14, u 15, u 16, u 17, undef, undef, undef]) (Holds [.oth (fun v => v = .slice (some ⟨b, o, none⟩) 32 cap), .oth (fun v => v = .int .i64 32), .oth (fun v => v = .bool false), .oth (fun v => v = .bool false), .oth (fun v => v = .slice (some ⟨b, o, none⟩) 32 cap), .oth (fun v => v = .pointer (some ⟨b, o + 31, none⟩)), .oth (fun v => v = .int .u8 (c.toNat : Int)), .oth (fun v => v = .bool false), .oth (fun v => v = .bool false), .oth (fun v => v = .bool false), .oth (fun v => v = .slice (some ⟨b, o, none⟩) 32 cap), .val rR [feF l], .rd (leB 32 (feF l).val), .oth (fun v => v = (.string (bs (leB 32 (feF l).val)))), .oth (fun v => v = .slice (some ⟨b, o, none⟩) 32 cap), .oth (fun v => v = (.string (bs l))), .oth (fun v => v = .bool false), .oth (fun v => v = .bool false)] W0) (Keep [.oth (fun v => v = .slice (some ⟨b, o, none⟩) 32 cap), .oth (fun v => v = .int .i64 32), .oth (fun v => v = .bool false), .oth (fun v => v = .bool false), .oth (fun v => v = .slice (some ⟨b, o, none⟩) 32 cap), .oth (fun v => v = .pointer (some ⟨b, o + 31, none⟩)), .oth (fun v => v = .int .u8 (c.toNat : Int)), .oth (fun v => v = .bool false), .oth (fun v => v = .bool false), .oth (fun v => v = .bool false), .oth (fun v => v = .slice (some ⟨b, o, none⟩) 32 cap), .val rR [feF l], .rd (leB 32 (feF l).val), .oth (fun v => v = (.string (bs (leB 32 (feF l).val)))), .oth (fun v => v = .slice (some ⟨b, o, none⟩) 32 cap), .oth (fun v => v = (.string (bs l))), .oth (fun v => v = .bool false), .oth (fun v => v = .bool false)] W0) (fun _ => undef) (by kernel_rfl) (by kernel_rfl) ?_ (by rfl) Keep.drew (holds_soft (by kernel_rfl)) ?_ ?_
  · intro u i v h
    rcases i with _ | _ | _ | _ | _ | _ | _ | _ | _ | _ | _ | _ | _ | _ | _ | _ | _ | _ | i
    all_goals first | (simp [Act.put, putV]; done) | (exfalso; simp at h; omega)
  · intro hs
    refine ⟨?_, ?_, ?_, ?_, ?_, ?_, ?_, ?_, ?_, ?_, ?_, ?_, ?_, ?_, ?_, ?_, ?_, ?_, trivial⟩
    · exact step_pureO hs (wants_none rfl) rfl fun L u W hG hdep => ⟨_, run_move rfl, rfl⟩
    · refine step_pureO hs (wants_none rfl) rfl fun L u W hG hdep => ⟨_, ?_, rfl⟩
      have e0 := (show u 0 = .slice (some ⟨b, o, none⟩) 32 cap from hG 0 (hdep 0 (by kernel_rfl)))
      go_simp
    · refine step_pureO hs (wants_none rfl) rfl fun L u W hG hdep => ⟨_, ?_, rfl⟩
      have e0 := (show u 1 = .int .i64 32 from hG 1 (hdep 1 (by kernel_rfl)))
      go_simp
      try simp [bne]
    · exact step_pureO hs (wants_none rfl) rfl fun L u W hG hdep => ⟨_, run_move rfl, (show u 2 = .bool false from hG 2 (hdep 2 (by kernel_rfl)))⟩
    · exact step_pureO hs (wants_on 3 rfl rfl (by kernel_rfl) (fun _ => rfl)) rfl fun L u W hG hdep => ⟨_, run_move rfl, rfl⟩
    · refine step_pureO hs (wants_on 3 rfl rfl (by kernel_rfl) (fun _ => rfl)) rfl fun L u W hG hdep => ⟨_, ?_, rfl⟩
      have e0 := (show u 4 = .slice (some ⟨b, o, none⟩) 32 cap from hG 4 (hdep 4 (by kernel_rfl)))
      have f0 : (31 : Nat) < 32 := by omega
      go_simp
    · exact step_cell b (o + 31) hs (wants_on 3 rfl rfl (by kernel_rfl) (fun _ => rfl)) rfl rfl (fun _ h => load_u8 h) (fun L u W hG hdep => (show u 5 = .pointer (some ⟨b, o + 31, none⟩) from hG 5 (hdep 5 (by kernel_rfl)))) (cell_keep HCL.out hbel) (noSto_apart (by kernel_rfl))
    · refine step_pureO hs (wants_on 3 rfl rfl (by kernel_rfl) (fun _ => rfl)) rfl fun L u W hG hdep => ⟨_, ?_, rfl⟩
      have e0 := (show u 6 = .int .u8 (c.toNat : Int) from hG 6 (hdep 6 (by kernel_rfl)))
      have f1 := H2.out
      go_simp
    · exact step_pick false hs (wants_none rfl) rfl rfl (fun L u W hG hdep => (show u 3 = .bool false from hG 3 (hdep 3 (by kernel_rfl)))) (fun L u W hG hdep => (show u 7 = .bool false from hG 7 (hdep 7 (by kernel_rfl))))
    · exact step_pureO hs (wants_none rfl) rfl fun L u W hG hdep => ⟨_, run_move rfl, (show u 8 = .bool false from hG 8 (hdep 8 (by kernel_rfl)))⟩
    · exact step_pureO hs (wants_on 9 rfl rfl (by kernel_rfl) (fun _ => rfl)) rfl fun L u W hG hdep => ⟨_, run_move rfl, rfl⟩
    · refine step_call hs (wants_on 9 rfl rfl (by kernel_rfl) (fun _ => rfl)) rfl fun L u W hJ hG hL hdep K hK => ?_
      have x0 := (show u 10 = .slice (some ⟨b, o, none⟩) 32 cap from hG 10 (hdep 10 (by kernel_rfl)))
      have hRB0 := (ha.below hbel).below (hJ.all rfl)
      go_simp
      go_at_call 26
      (with_reducible refine (kOf' rfl hRB0).mono ?_); rintro e w1 ⟨r, rfl, hr, hb⟩
      have hk := hK.out _ _ hr hb
      simp only [x0] at hk
      exact hk
    · refine step_callB hs (wants_on 9 rfl rfl (by kernel_rfl) (fun _ => rfl)) rfl fun L u W hJ hG hdep K hK => ?_
      have a0 := (show IsFs rR (u 11) [feF l] from hG 11 (hdep 11 (by kernel_rfl)))
      go_simp
      go_at_call 47
      (with_reducible refine (kBytes a0 _).mono ?_); rintro e w1 ⟨g, n, cap, r, rfl, h1, h2, h3, h4, h5, hb⟩
      have hk := hK.out _ _ _ _ _ h1 h2 h3 h4 h5 hb
      exact hk
    · exact step_conv 12 hs (wants_on 9 rfl rfl (by kernel_rfl) (fun _ => rfl)) rfl rfl rfl (by kernel_rfl) (fun _ => rfl)
    · exact step_pureO hs (wants_on 9 rfl rfl (by kernel_rfl) (fun _ => rfl)) rfl fun L u W hG hdep => ⟨_, run_move rfl, rfl⟩
    · exact step_convC hs (wants_on 9 rfl rfl (by kernel_rfl) (fun _ => rfl)) rfl rfl (ha.below hbel) (by kernel_rfl) (fun L u W hG hdep => (show u 14 = .slice (some ⟨b, o, none⟩) 32 cap from hG 14 (hdep 14 (by kernel_rfl))))
    · exact step_pureO hs (wants_on 9 rfl rfl (by kernel_rfl) (fun _ => rfl)) rfl fun L u W hG hdep => ⟨_, run_neqS rfl (show u 13 = (.string (bs (leB 32 (feF l).val))) from hG 13 (hdep 13 (by kernel_rfl))) (show u 15 = (.string (bs l)) from hG 15 (hdep 15 (by kernel_rfl))), by rw [HQ.out]; rfl⟩
    · exact step_pick false hs (wants_none rfl) rfl rfl (fun L u W hG hdep => (show u 9 = .bool false from hG 9 (hdep 9 (by kernel_rfl)))) (fun L u W hG hdep => (show u 16 = .bool false from hG 16 (hdep 16 (by kernel_rfl))))
  intro L1 u1 W1 hall hJ hG
  have hb := hJ.all rfl
  have hbel := Below.call hbel hb
  have ht2 := there_later ht2 hb
  have HC6 := Lib.hid (show u1 2 = .bool false from hG 2 (by simp))
  have HC7 := Lib.hid (show u1 3 = .bool false from hG 3 (by simp))
  have HC11 := Lib.hid (show u1 7 = .bool false from hG 7 (by simp))
  have HC12 := Lib.hid (show u1 8 = .bool false from hG 8 (by simp))
  have HC13 := Lib.hid (show u1 9 = .bool false from hG 9 (by simp))
  have HC20 := Lib.hid (show u1 16 = .bool false from hG 16 (by simp))
  have HC21 := Lib.hid (show u1 17 = .bool false from hG 17 (by simp))
  have hbel0 := hbel
  clear hJ hG hall hb
  have hx : u1 17 = .bool false := HC21.out
  go_wp2_with fail
  rw [hx]
  clear hx
  go_upto_region 3 with fail
  refine wp_region_turn (fun u => #[.slice (some ⟨b, o, none⟩) 32 cap, undef, u0 0, u 3, u1 0, u1 1, u1 2, u1 3, u1 4, u1 5, u1 6, u1 7, u1 8, u1 9, u1 10, u1 11, u1 12, u1 13, u1 14, u1 15, u1 16, .bool false, undef, u 0, u 1]) (Holds [.oth (fun v => v = .slice (some ⟨b, o, none⟩) 32 cap), .val rR [feF l], .sto q2 rR [feF l], .oth (fun v => v = .int .i64 0)] W1) (Keep [.oth (fun v => v = .slice (some ⟨b, o, none⟩) 32 cap), .val rR [feF l], .sto q2 rR [feF l], .oth (fun v => v = .int .i64 0)] W1) (fun k => ([undef, undef, undef, u0 1] : List Value).getD k undef) ?_ (by rfl) Keep.start (holds_soft (by kernel_rfl)) ?_ ?_
  · intro u i v h
    rcases i with _ | _ | _ | _ | i
    all_goals first | (simp [Act.put, putV]; done) | (exfalso; simp at h; omega)
  · intro hs
    refine ⟨?_, ?_, ?_, ?_, trivial⟩
    · exact step_pureO hs (wants_none rfl) rfl fun L u W hG hdep => ⟨_, run_move rfl, rfl⟩
    · refine step_call hs (wants_none rfl) rfl fun L u W hJ hG hL hdep K hK => ?_
      have x0 := (show u 0 = .slice (some ⟨b, o, none⟩) 32 cap from hG 0 (hdep 0 (by kernel_rfl)))
      have hRB0 := (ha.below (hbel.trans (hJ.below (by have := hbel.size; omega) (fun k b R xs hf => by rcases k with _ | _ | _ | _ | k <;> first | (cases hf; done) | (injection hf; omega)))))
      go_simp
      go_at_call 26
      (with_reducible refine (kOf' rfl hRB0).mono ?_); rintro e w1 ⟨r, rfl, hr, hb⟩
      have hk := hK.out _ _ hr hb
      simp only [x0] at hk
      exact hk
    · refine step_storeO q2 16 hs (wants_none rfl) rfl rfl (by kernel_rfl) (fun k R' ys hk => ?_) (fun _ => E2.out) (there_lt ht2 (by omega)) ht2 (gives_op 1 rfl (by kernel_rfl) (fun _ => rfl)) tyFe rfl
      rcases k with _ | _ | _ | _ | k
      all_goals first | (exact absurd rfl hk) | (intro e; cases e; done)
    · exact step_pureO hs (wants_none rfl) rfl fun L u W hG hdep => ⟨_, run_assign rfl, rfl⟩
  intro L3 u3 W3 hall hJ hG
  have hb : Below w.heap.size W1 W3 := hJ.below (by have := hbel.size; omega) (fun k b R xs hf => by rcases k with _ | _ | _ | _ | k <;> first | (cases hf; done) | (injection hf; omega))
  have hbel := hbel.trans hb
  obtain ⟨_, hs3_2t, hs3_2⟩ := (show _ ∧ W3.there q2 0 16 ∧ HasFs rR W3 q2 0 [feF l] from hG 2 (by simp))
  have HC3 := Lib.hid (show u3 3 = .int .i64 0 from hG 3 (by simp))
  have hbel0 := hbel
  clear hJ hG hall hb
  go_wp2
  exact ret_cell_slot (R := rR) Try.results27 (by exact E2.out) (by exact HC3.out) hs3_2 tyFe rfl (fun s hs => ⟨s, rfl, hs, hbel⟩)
set_option maxHeartbeats 4000000 in
theorem rstrict_no {a : Option Addr} {n cap : Nat} {l : List UInt8} (w : World) (ha : RdB w a n cap l) (hn : n = 32) (h2 : ¬ 127 < (l[31]'(by have := ha.hlen; omega)).toNat) (hok : feOk l = false) :
    Calls Try.prog 27 #[.slice a n cap] w fun e w' => ∃ r, e = .returned (.tuple #[r, .int .i64 2]) ∧ IsFs rR r [0] ∧ Below w.heap.size w w' := by
  subst hn
  obtain ⟨b, o, ho, hc⟩ := ha.get 31 (by have := ha.hlen; omega)
  have hl : l.length = 32 := ha.hlen
  generalize hcc : l[31] = c at *
  subst ho
  have HCL := Lib.hid hc
  have hcl := c.toNat_lt
  clear hc hcc
  have H2 := Lib.hid (show decide ((127 : Int) < (c.toNat : Int)) = false by simp; omega)
  have HQ := Lib.hid (show decide (leB 32 (feF l).val = l) = false from by rw [feOk_back, hok])
  clear h2 hok
  go_enter Try.func27, Try.ntmps27
  have hbel : Below w.heap.size w w := Below.refl _ _
  have hbel0 := hbel
  go_upto_region 0 with fail
  refine wp_region_turn (fun u => #[.slice (some ⟨b, o, none⟩) 32 cap, undef, u 0, u 1, undef, undef, undef, undef, undef, undef, undef, undef, undef, undef, undef, undef, undef, undef, undef, undef, undef, undef, undef, undef, undef]) (Holds [.new 16, .oth (fun v => v = .int .i64 0)] w) (Keep [.new 16, .oth (fun v => v = .int .i64 0)] w) (fun _ => undef) ?_ (by rfl) Keep.start (holds_soft (by kernel_rfl)) ?_ ?_
  · intro u i v h
    rcases i with _ | _ | i
    all_goals first | (simp [Act.put, putV]; done) | (exfalso; simp at h; omega)
  · intro hs
    refine ⟨?_, ?_, trivial⟩
    · exact step_alloc hs (wants_none rfl) rfl rfl (by omega) rfl allocFe
    · exact step_pureO hs (wants_none rfl) rfl fun L u W hG hdep => ⟨_, run_assign rfl, rfl⟩
  intro L0 u0 W0 hall hJ hG
  obtain ⟨q2, e2, hq2, _, ht2⟩ := (show ∃ g, u0 0 = .pointer (some ⟨g, 0, none⟩) ∧ w.heap.size ≤ g ∧ 0 < 16 ∧ W0.there g 0 16 from hG 0 (by simp))
  have hq2 : w.heap.size ≤ q2 := by have := hbel0.size; omega
  have E2 := Lib.hid e2; clear e2
  have hb := hJ.all rfl
  have hbel := Below.call hbel hb
  have HC3 := Lib.hid (show u0 1 = .int .i64 0 from hG 1 (by simp))
  have hbel0 := hbel
  clear hJ hG hall hb
  go_upto_region 1 with fail
  refine wp_region_mid (fun u => #[.slice (some ⟨b, o, none⟩) 32 cap, undef, u0 0, u0 1, u 0, u 1, u 2, u 3, u 4, u 5, u 6, u 7, u 8, u 9, u 10, u 11, u 12, u 13, u 14, u 15, u 16, u 17, undef, undef, undef]) (Holds [.oth (fun v => v = .slice (some ⟨b, o, none⟩) 32 cap), .oth (fun v => v = .int .i64 32), .oth (fun v => v = .bool false), .oth (fun v => v = .bool false), .oth (fun v => v = .slice (some ⟨b, o, none⟩) 32 cap), .oth (fun v => v = .pointer (some ⟨b, o + 31, none⟩)), .oth (fun v => v = .int .u8 (c.toNat : Int)), .oth (fun v => v = .bool false), .oth (fun v => v = .bool false), .oth (fun v => v = .bool false), .oth (fun v => v = .slice (some ⟨b, o, none⟩) 32 cap), .val rR [feF l], .rd (leB 32 (feF l).val), .oth (fun v => v = (.string (bs (leB 32 (feF l).val)))), .oth (fun v => v = .slice (some ⟨b, o, none⟩) 32 cap), .oth (fun v => v = (.string (bs l))), .oth (fun v => v = .bool true), .oth (fun v => v = .bool true)] W0) (Keep [.oth (fun v => v = .slice (some ⟨b, o, none⟩) 32 cap), .oth (fun v => v = .int .i64 32), .oth (fun v => v = .bool false), .oth (fun v => v = .bool false), .oth (fun v => v = .slice (some ⟨b, o, none⟩) 32 cap), .oth (fun v => v = .pointer (some ⟨b, o + 31, none⟩)), .oth (fun v => v = .int .u8 (c.toNat : Int)), .oth (fun v => v = .bool false), .oth (fun v => v = .bool false), .oth (fun v => v = .bool false), .oth (fun v => v = .slice (some ⟨b, o, none⟩) 32 cap), .val rR [feF l], .rd (leB 32 (feF l).val), .oth (fun v => v = (.string (bs (leB 32 (feF l).val)))), .oth (fun v => v = .slice (some ⟨b, o, none⟩) 32 cap), .oth (fun v => v = (.string (bs l))), .oth (fun v => v = .bool true), .oth (fun v => v = .bool true)] W0) (fun _ => undef) (by kernel_rfl) (by kernel_rfl) ?_ (by rfl) Keep.drew (holds_soft (by kernel_rfl)) ?_ ?_
  · intro u i v h
    rcases i with _ | _ | _ | _ | _ | _ | _ | _ | _ | _ | _ | _ | _ | _ | _ | _ | _ | _ | i
    all_goals first | (simp [Act.put, putV]; done) | (exfalso; simp at h; omega)
  · intro hs
    refine ⟨?_, ?_, ?_, ?_, ?_, ?_, ?_, ?_, ?_, ?_, ?_, ?_, ?_, ?_, ?_, ?_, ?_, ?_, trivial⟩
    · exact step_pureO hs (wants_none rfl) rfl fun L u W hG hdep => ⟨_, run_move rfl, rfl⟩
    · refine step_pureO hs (wants_none rfl) rfl fun L u W hG hdep => ⟨_, ?_, rfl⟩
      have e0 := (show u 0 = .slice (some ⟨b, o, none⟩) 32 cap from hG 0 (hdep 0 (by kernel_rfl)))
      go_simp
    · refine step_pureO hs (wants_none rfl) rfl fun L u W hG hdep => ⟨_, ?_, rfl⟩
      have e0 := (show u 1 = .int .i64 32 from hG 1 (hdep 1 (by kernel_rfl)))
      go_simp
      try simp [bne]
    · exact step_pureO hs (wants_none rfl) rfl fun L u W hG hdep => ⟨_, run_move rfl, (show u 2 = .bool false from hG 2 (hdep 2 (by kernel_rfl)))⟩
    · exact step_pureO hs (wants_on 3 rfl rfl (by kernel_rfl) (fun _ => rfl)) rfl fun L u W hG hdep => ⟨_, run_move rfl, rfl⟩
    · refine step_pureO hs (wants_on 3 rfl rfl (by kernel_rfl) (fun _ => rfl)) rfl fun L u W hG hdep => ⟨_, ?_, rfl⟩
      have e0 := (show u 4 = .slice (some ⟨b, o, none⟩) 32 cap from hG 4 (hdep 4 (by kernel_rfl)))
      have f0 : (31 : Nat) < 32 := by omega
      go_simp
    · exact step_cell b (o + 31) hs (wants_on 3 rfl rfl (by kernel_rfl) (fun _ => rfl)) rfl rfl (fun _ h => load_u8 h) (fun L u W hG hdep => (show u 5 = .pointer (some ⟨b, o + 31, none⟩) from hG 5 (hdep 5 (by kernel_rfl)))) (cell_keep HCL.out hbel) (noSto_apart (by kernel_rfl))
    · refine step_pureO hs (wants_on 3 rfl rfl (by kernel_rfl) (fun _ => rfl)) rfl fun L u W hG hdep => ⟨_, ?_, rfl⟩
      have e0 := (show u 6 = .int .u8 (c.toNat : Int) from hG 6 (hdep 6 (by kernel_rfl)))
      have f1 := H2.out
      go_simp
    · exact step_pick false hs (wants_none rfl) rfl rfl (fun L u W hG hdep => (show u 3 = .bool false from hG 3 (hdep 3 (by kernel_rfl)))) (fun L u W hG hdep => (show u 7 = .bool false from hG 7 (hdep 7 (by kernel_rfl))))
    · exact step_pureO hs (wants_none rfl) rfl fun L u W hG hdep => ⟨_, run_move rfl, (show u 8 = .bool false from hG 8 (hdep 8 (by kernel_rfl)))⟩
    · exact step_pureO hs (wants_on 9 rfl rfl (by kernel_rfl) (fun _ => rfl)) rfl fun L u W hG hdep => ⟨_, run_move rfl, rfl⟩
    · refine step_call hs (wants_on 9 rfl rfl (by kernel_rfl) (fun _ => rfl)) rfl fun L u W hJ hG hL hdep K hK => ?_
      have x0 := (show u 10 = .slice (some ⟨b, o, none⟩) 32 cap from hG 10 (hdep 10 (by kernel_rfl)))
      have hRB0 := (ha.below hbel).below (hJ.all rfl)
      go_simp
      go_at_call 26
      (with_reducible refine (kOf' rfl hRB0).mono ?_); rintro e w1 ⟨r, rfl, hr, hb⟩
      have hk := hK.out _ _ hr hb
      simp only [x0] at hk
      exact hk
    · refine step_callB hs (wants_on 9 rfl rfl (by kernel_rfl) (fun _ => rfl)) rfl fun L u W hJ hG hdep K hK => ?_
      have a0 := (show IsFs rR (u 11) [feF l] from hG 11 (hdep 11 (by kernel_rfl)))
      go_simp
      go_at_call 47
      (with_reducible refine (kBytes a0 _).mono ?_); rintro e w1 ⟨g, n, cap, r, rfl, h1, h2, h3, h4, h5, hb⟩
      have hk := hK.out _ _ _ _ _ h1 h2 h3 h4 h5 hb
      exact hk
    · exact step_conv 12 hs (wants_on 9 rfl rfl (by kernel_rfl) (fun _ => rfl)) rfl rfl rfl (by kernel_rfl) (fun _ => rfl)
    · exact step_pureO hs (wants_on 9 rfl rfl (by kernel_rfl) (fun _ => rfl)) rfl fun L u W hG hdep => ⟨_, run_move rfl, rfl⟩
    · exact step_convC hs (wants_on 9 rfl rfl (by kernel_rfl) (fun _ => rfl)) rfl rfl (ha.below hbel) (by kernel_rfl) (fun L u W hG hdep => (show u 14 = .slice (some ⟨b, o, none⟩) 32 cap from hG 14 (hdep 14 (by kernel_rfl))))
    · exact step_pureO hs (wants_on 9 rfl rfl (by kernel_rfl) (fun _ => rfl)) rfl fun L u W hG hdep => ⟨_, run_neqS rfl (show u 13 = (.string (bs (leB 32 (feF l).val))) from hG 13 (hdep 13 (by kernel_rfl))) (show u 15 = (.string (bs l)) from hG 15 (hdep 15 (by kernel_rfl))), by rw [HQ.out]; rfl⟩
    · exact step_pick false hs (wants_none rfl) rfl rfl (fun L u W hG hdep => (show u 9 = .bool false from hG 9 (hdep 9 (by kernel_rfl)))) (fun L u W hG hdep => (show u 16 = .bool true from hG 16 (hdep 16 (by kernel_rfl))))
  intro L1 u1 W1 hall hJ hG
  have hb := hJ.all rfl
  have hbel := Below.call hbel hb
  have ht2 := there_later ht2 hb
  have HC6 := Lib.hid (show u1 2 = .bool false from hG 2 (by simp))
  have HC7 := Lib.hid (show u1 3 = .bool false from hG 3 (by simp))
  have HC11 := Lib.hid (show u1 7 = .bool false from hG 7 (by simp))
  have HC12 := Lib.hid (show u1 8 = .bool false from hG 8 (by simp))
  have HC13 := Lib.hid (show u1 9 = .bool false from hG 9 (by simp))
  have HC20 := Lib.hid (show u1 16 = .bool true from hG 16 (by simp))
  have HC21 := Lib.hid (show u1 17 = .bool true from hG 17 (by simp))
  have hbel0 := hbel
  clear hJ hG hall hb
  have hx : u1 17 = .bool true := HC21.out
  go_wp2_with fail
  rw [hx]
  clear hx
  go_upto_region 2 with fail
  refine wp_region_turn (fun u => #[.slice (some ⟨b, o, none⟩) 32 cap, undef, u0 0, u 2, u1 0, u1 1, u1 2, u1 3, u1 4, u1 5, u1 6, u1 7, u1 8, u1 9, u1 10, u1 11, u1 12, u1 13, u1 14, u1 15, u1 16, .bool true, u 0, undef, undef]) (Holds [.val rR [0], .sto q2 rR [0], .oth (fun v => v = .int .i64 2)] W1) (Keep [.val rR [0], .sto q2 rR [0], .oth (fun v => v = .int .i64 2)] W1) (fun k => ([undef, undef, u0 1] : List Value).getD k undef) ?_ (by rfl) Keep.start (holds_soft (by kernel_rfl)) ?_ ?_
  · intro u i v h
    rcases i with _ | _ | _ | i
    all_goals first | (simp [Act.put, putV]; done) | (exfalso; simp at h; omega)
  · intro hs
    refine ⟨?_, ?_, ?_, trivial⟩
    · exact step_pure hs (wants_none rfl) rfl fun L u W hG hdep => run_build0 rfl (buildFe0 W)
    · refine step_storeO q2 16 hs (wants_none rfl) rfl rfl (by kernel_rfl) (fun k R' ys hk => ?_) (fun _ => E2.out) (there_lt ht2 (by omega)) ht2 (gives_op 0 rfl (by kernel_rfl) (fun _ => rfl)) tyFe rfl
      rcases k with _ | _ | _ | k
      all_goals first | (exact absurd rfl hk) | (intro e; cases e; done)
    · exact step_pureO hs (wants_none rfl) rfl fun L u W hG hdep => ⟨_, run_assign rfl, rfl⟩
  intro L2 u2 W2 hall hJ hG
  have hb : Below w.heap.size W1 W2 := hJ.below (by have := hbel.size; omega) (fun k b R xs hf => by rcases k with _ | _ | _ | k <;> first | (cases hf; done) | (injection hf; omega))
  have hbel := hbel.trans hb
  obtain ⟨_, hs2_1t, hs2_1⟩ := (show _ ∧ W2.there q2 0 16 ∧ HasFs rR W2 q2 0 [0] from hG 1 (by simp))
  have HC3 := Lib.hid (show u2 2 = .int .i64 2 from hG 2 (by simp))
  have hbel0 := hbel
  clear hJ hG hall hb
  go_wp2
  exact ret_cell_slot (R := rR) Try.results27 (by exact E2.out) (by exact HC3.out) hs2_1 tyFe rfl (fun s hs => ⟨s, rfl, hs, hbel⟩)
theorem kStrict' {a : Option Addr} {n cap : Nat} {l : List UInt8} {x : F} {c : Int} {w : World} (hx : stV l = x) (hc : stC l = c) (h : RdB w a n cap l) :
    Calls Try.prog 27 #[.slice a n cap] w fun e w' => ∃ r, e = .returned (.tuple #[r, .int .i64 c]) ∧ IsFs rR r [x] ∧ Below w.heap.size w w' := by
  subst hx hc
  have hlen := h.hlen
  by_cases hn : n = 32
  · by_cases h2 : 127 < (l[31]'(by omega)).toNat
    · have e := feOk_high (by omega) h2
      rw [stV, stC, e]
      exact rstrict_high w h hn h2
    · cases e : feOk l
      · rw [stV, stC, e]
        exact rstrict_no w h hn h2 e
      · rw [stV, stC, e]
        exact rstrict_yes w h hn h2 e
  · have e := feOk_len (l := l) (by omega)
    rw [stV, stC, e]
    exact rstrict_len w h hn
end Go.Proofs.Ytfjaplggohflbaa
