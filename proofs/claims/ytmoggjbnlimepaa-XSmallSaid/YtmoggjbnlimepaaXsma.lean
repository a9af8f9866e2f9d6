/- Of chapter 6: XSmall for 32 bytes. -/
import Derived.Test.YtmoggjbnlimepaaXpl
namespace Go.Proofs.Ytmoggjbnlimepaa
open Go Go.RowKit

theorem tmodM (k : Int) (m : Nat) (hm : 0 < m) : (k.tmod m < 0 → k.tmod m + m = k % m) ∧ (¬ k.tmod m < 0 → k.tmod m = k % m) ∧ k.tmod m < m ∧ -(m : Int) < k.tmod m := by
  have e1 := Int.tmod_eq_emod (a := k) (b := (m : Int))
  have h1 := Int.emod_nonneg k (show (m : Int) ≠ 0 by omega)
  have h2 := Int.emod_lt_of_pos k (show (0 : Int) < m by omega)
  have e : ((Int.natAbs (m : Int) : Nat) : Int) = m := by simp
  by_cases c : 0 ≤ k ∨ (m : Int) ∣ k
  · rw [if_pos c] at e1
    refine ⟨?_, ?_, ?_, ?_⟩ <;> omega
  · rw [if_neg c, e] at e1
    have : k % (m : Int) ≠ 0 := fun h => c (.inr (Int.dvd_of_emod_eq_zero h))
    refine ⟨?_, ?_, ?_, ?_⟩ <;> omega
set_option maxHeartbeats 400000 in
theorem round_any (k r : Int) (m : Nat) (hm : 0 < m) (hm2 : m ≤ 1000000) (hr : k % (m : Int) = r) (w : World) : Calls Try.prog 12 #[.int .i64 k, .int .i64 (m : Nat)] w fun e w' => e = .returned (.int .i64 r) ∧ w = w' := by
  obtain ⟨h1, h2, h3, h4⟩ := tmodM k m hm
  rw [hr] at h1 h2
  have h5 : 0 ≤ r ∧ r < m := by rw [← hr]; exact ⟨Int.emod_nonneg k (by omega), Int.emod_lt_of_pos k (by omega)⟩
  obtain ⟨M, hM⟩ : ∃ M : Int, M = (m : Int) := ⟨_, rfl⟩
  rw [← hM] at h1 h2 h3 h4 h5
  have hM0 : ¬ M = 0 := by omega
  have hM1 : M ≤ 1000000 := by omega
  have hM2 : 0 < M := by omega
  rw [← hM]
  clear hM hr hm hm2
  by_cases hn : k.tmod M < 0
  · have e := h1 hn
    have d : decide (k.tmod M < 0) = true := decide_eq_true hn
    have hw : IntKind.i64.wrap (k.tmod M) = k.tmod M := by rw [IntKind.wrap_i64]; omega
    have hw2 : IntKind.i64.wrap (k.tmod M + M) = k.tmod M + M := by rw [IntKind.wrap_i64]; omega
    have HX : Hid (k.tmod M + M = r) := Lib.hid e
    clear h1 h2 hn e h3 h4 h5
    go_enter Try.func12, Try.ntmps12
    go_wp2
    go_ret
    exact ⟨ret_int HX.out, rfl⟩
  · have e := h2 hn
    have d : decide (k.tmod M < 0) = false := decide_eq_false hn
    have hw : IntKind.i64.wrap (k.tmod M) = k.tmod M := by rw [IntKind.wrap_i64]; omega
    have HX : Hid (k.tmod M = r) := Lib.hid e
    clear h1 h2 hn e h3 h4 h5
    go_enter Try.func12, Try.ntmps12
    go_wp2
    go_ret
    exact ⟨ret_int HX.out, rfl⟩
theorem round5 {k r : Int} (hr : k % 5 = r) (w : World) : Calls Try.prog 12 #[.int .i64 k, .int .i64 5] w fun e w' => e = .returned (.int .i64 r) ∧ w = w' := round_any k r 5 (by omega) (by omega) hr w
/-- The public keys of small order. -/
def smP (c : UInt8) : List UInt8 := c :: (List.replicate 30 255 ++ [127])
theorem sm_ok : (∀ c : UInt8, c = 0xed ∨ c = 0xec ∨ c = 0xee → feF (smP c) = 0 ∨ feF (smP c) * feF (smP c) = 1) := by
  rintro c (rfl | rfl | rfl) <;> decide +kernel
theorem sm_0 : feF (List.replicate 32 0) = 0 ∨ feF (List.replicate 32 0) * feF (List.replicate 32 0) = 1 := by decide +kernel
theorem sm_1 : feF (1 :: List.replicate 31 0) = 0 ∨ feF (1 :: List.replicate 31 0) * feF (1 :: List.replicate 31 0) = 1 := by decide +kernel
theorem z32_map : (List.replicate 32 (0 : UInt8)).map bV = row 32 (fun _ => .int .u8 0) := rfl
/-- So many bytes are 255. -/
def ffV (j i : Nat) : Value := if i < j then .int .u8 255 else .int .u8 0
theorem ffV_start : (List.replicate 32 (0 : UInt8)).map bV = row 32 (ffV 0) := rfl
theorem ffV_step (j : Nat) : (row 32 (ffV j)).set j (.int .u8 255) = row 32 (ffV (j + 1)) := by
  refine row_set j _ (by simp [ffV]) (fun i _ hi => ?_)
  unfold ffV
  by_cases h : i < j
  · rw [if_pos h, if_pos (by omega)]
  · rw [if_neg h, if_neg (by omega)]
theorem ffV_end (c : UInt8) : ((row 32 (ffV 32)).set 0 (.int .u8 (c.toNat : Int))).set 31 (.int .u8 127) = (smP c).map bV := by
  simp [row, ffV, smP, List.range, List.range.loop, bV, List.replicate]
theorem mk_rd {w : World} {g : Nat} {l : List UInt8} (h : Blk w g (l.map bV) 5) (hl : l.length = 32) : RdB w (some ⟨g, 0, none⟩) 32 32 l := RdB.blk [] (by simpa using h) hl (by omega) (by unfold maxLen; omega)

set_option maxHeartbeats 4000000 in
theorem xSmall_32 {a : Option Addr} {capa : Nat} {la : List UInt8} {k : Int} (w : World) (ha : RdB w a 32 capa la) :
    Calls Try.prog 4 #[.slice a 32 capa, .int .i64 k] w fun e w' => e = .returned (.bool true) ∧ Below w.heap.size w w' := by
  have HL := Lib.hid ha.hlen
  have hr : k % 5 = 0 ∨ k % 5 = 1 ∨ k % 5 = 2 ∨ k % 5 = 3 ∨ k % 5 = 4 := by omega
  rcases hr with hr | hr | hr | hr | hr
  · have HR := Lib.hid hr
    clear hr
    go_enter Try.func4, Try.ntmps4
    have hmk := make32b
    go_upto_region 4 with fail
    clear hmk
    refine wp_gen (fun W => Blk W w.heap.size (row 32 (ffV 0)) 5 ∧ Below w.heap.size w W) ?_ (fun w1 hW => ?_)
    · exact ⟨by rw [← ffV_start]; have := Blk.new w ((List.replicate 32 (0 : UInt8)).map bV).toArray 5; simpa using this, (by repeat (first | (with_reducible refine Below.alloc' ?_ _) | (with_reducible refine Below.drew ?_) | (with_reducible refine below_drewN ?_ _) | ((with_reducible refine Below.setCell ?_ ?_ _); rotate_left; (focus (first | exact Nat.le_refl _ | (simp; done) | (simp; omega)))) | (with_reducible assumption) | (with_reducible exact Below.refl _ _)))⟩
    obtain ⟨hB, hbel1⟩ := hW
    have HBP : Hid (Blk w1 w.heap.size ((List.replicate 32 (0 : UInt8)).map bV) 5) := Lib.hid (by rw [ffV_start]; exact hB)
    have HP := Lib.hid sm_0
    have HPL : Hid ((List.replicate 32 (0 : UInt8)).length = 32) := Lib.hid rfl
    clear hB
    generalize List.replicate 32 (0 : UInt8) = P at HBP HP HPL
    go_upto_region 20 with (go_at_call 12; (with_reducible refine (round5 HR.out _).mono ?_); rintro e wz ⟨rfl, rfl⟩)
    have hSB := shC_12 (l := la) (p := P) ⟨HL.out, HPL.out⟩ (small_xB HP.out)
    have HC12 := Lib.hid hSB.1; have HB0 := Lib.hid hSB.2
    have HZ := Lib.hid (small_xB (l := la) HP.out)
    clear hSB
    go_upto_region 21 with (go_at_call 10; (refine (sharedB (ha.below hbel1) (mk_rd HBP.out HPL.out)).mono ?_; rintro e w2 ⟨a2, n2, c2, rfl, hR2, hb2⟩; (rw [HC12.out]); (rw [HB0.out] at hR2); (have hn2 := hR2.hlen); (simp at hn2); subst hn2; have hbel := Below.call hbel1 hb2; have HBQ := Lib.hid (HBP.out.below' hb2); clear hb2 hR2))
    have hbel0 := hbel
    refine wp_region_mid (fun u => (Value.slice a 32 capa :: Value.int IntKind.i64 k :: undef :: undef :: u 19 :: Value.slice (some { block := w.heap.size, off := 0 }) 32 32 :: undef :: Value.slice a2 0 c2 :: Value.int IntKind.i64 12 :: Value.slice a 32 capa :: Value.int IntKind.i64 32 :: Value.bool false :: undef :: Value.slice (some { block := w.heap.size, off := 0 }) 32 32 :: Value.int IntKind.i64 k :: Value.int IntKind.i64 0 :: Value.bool false :: Value.bool false :: undef :: undef :: Value.bool false :: Value.bool false :: Value.bool false :: Value.bool false :: undef :: undef :: undef :: undef :: undef :: undef :: undef :: undef :: undef :: undef :: undef :: undef :: undef :: undef :: undef :: undef :: undef :: undef :: undef :: undef :: undef :: Value.tuple #[Value.slice a2 0 c2, Value.int IntKind.i64 12] :: Value.slice a 32 capa :: Value.slice (some { block := w.heap.size, off := 0 }) 32 32 :: Value.tuple #[Value.slice a2 0 c2, Value.int IntKind.i64 12] :: Value.slice a2 0 c2 :: Value.int IntKind.i64 12 :: u 0 :: u 1 :: u 2 :: u 3 :: u 4 :: u 5 :: u 6 :: u 7 :: u 8 :: u 9 :: u 10 :: u 11 :: u 12 :: u 13 :: u 14 :: u 15 :: u 16 :: u 17 :: u 18 :: []).toArray) (Holds [.oth (fun v => v = .int .i64 12), .oth (fun v => v = .bool true), .oth (fun v => v = .bool true), .oth (fun v => v = .slice a2 0 c2), .oth (fun v => v = .int .i64 0), .oth (fun v => v = .bool true), .oth (fun v => v = .bool true), .oth (fun v => v = .bool true), .oth (fun v => v = .slice a 32 capa), .oth (fun v => v = .slice (some ⟨w.heap.size, 0, none⟩) 32 32), .rd (xB la P), .oth (fun v => v = (.string (bs (xB la P)))), .rd (List.replicate 32 0), .oth (fun v => v = (.string (bs (List.replicate 32 0)))), .oth (fun v => v = .bool true), .oth (fun v => v = .bool true), .oth (fun v => v = .bool true), .oth (fun v => v = .bool true), .oth (fun v => v = .bool true), .oth (fun v => v = .bool true)] w2) (Keep [.oth (fun v => v = .int .i64 12), .oth (fun v => v = .bool true), .oth (fun v => v = .bool true), .oth (fun v => v = .slice a2 0 c2), .oth (fun v => v = .int .i64 0), .oth (fun v => v = .bool true), .oth (fun v => v = .bool true), .oth (fun v => v = .bool true), .oth (fun v => v = .slice a 32 capa), .oth (fun v => v = .slice (some ⟨w.heap.size, 0, none⟩) 32 32), .rd (xB la P), .oth (fun v => v = (.string (bs (xB la P)))), .rd (List.replicate 32 0), .oth (fun v => v = (.string (bs (List.replicate 32 0)))), .oth (fun v => v = .bool true), .oth (fun v => v = .bool true), .oth (fun v => v = .bool true), .oth (fun v => v = .bool true), .oth (fun v => v = .bool true), .oth (fun v => v = .bool true)] w2) (fun k => ([undef, undef, undef, undef, undef, undef, undef, undef, undef, undef, undef, undef, undef, undef, undef, undef, undef, undef, undef, Value.bool false] : List Value).getD k undef) (by kernel_rfl) (by kernel_rfl) ?_ (by rfl) Keep.drew (holds_soft (by kernel_rfl)) ?_ ?_
    · intro u i v h
      rcases i with _ | _ | _ | _ | _ | _ | _ | _ | _ | _ | _ | _ | _ | _ | _ | _ | _ | _ | _ | _ | i
      all_goals first | (simp [Act.put, putV]; done) | (exfalso; simp at h; omega)
    · intro hs
      refine ⟨?_, ?_, ?_, ?_, ?_, ?_, ?_, ?_, ?_, ?_, ?_, ?_, ?_, ?_, ?_, ?_, ?_, ?_, ?_, ?_, trivial⟩
      · exact step_pureO hs (wants_none rfl) rfl fun L u W hG hdep => ⟨_, run_move rfl, rfl⟩
      · refine step_pureO hs (wants_none rfl) rfl fun L u W hG hdep => ⟨_, ?_, rfl⟩
        have e0 := (show u 0 = .int .i64 12 from hG 0 (hdep 0 (by kernel_rfl)))
        go_simp
        try simp [bne]
      · exact step_pureO hs (wants_none rfl) rfl fun L u W hG hdep => ⟨_, run_move rfl, (show u 1 = .bool true from hG 1 (hdep 1 (by kernel_rfl)))⟩
      · exact step_pureO hs (wants_on 2 rfl rfl (by kernel_rfl) (fun _ => rfl)) rfl fun L u W hG hdep => ⟨_, run_move rfl, rfl⟩
      · refine step_pureO hs (wants_on 2 rfl rfl (by kernel_rfl) (fun _ => rfl)) rfl fun L u W hG hdep => ⟨_, ?_, rfl⟩
        have e0 := (show u 3 = .slice a2 0 c2 from hG 3 (hdep 3 (by kernel_rfl)))
        go_simp
      · refine step_pureO hs (wants_on 2 rfl rfl (by kernel_rfl) (fun _ => rfl)) rfl fun L u W hG hdep => ⟨_, ?_, rfl⟩
        have e0 := (show u 4 = .int .i64 0 from hG 4 (hdep 4 (by kernel_rfl)))
        go_simp
        try simp [bne]
      · exact step_pick true hs (wants_none rfl) rfl rfl (fun L u W hG hdep => (show u 2 = .bool true from hG 2 (hdep 2 (by kernel_rfl)))) (fun L u W hG hdep => (show u 5 = .bool true from hG 5 (hdep 5 (by kernel_rfl))))
      · exact step_pureO hs (wants_none rfl) rfl fun L u W hG hdep => ⟨_, run_move rfl, (show u 6 = .bool true from hG 6 (hdep 6 (by kernel_rfl)))⟩
      · exact step_pureO hs (wants_on 7 rfl rfl (by kernel_rfl) (fun _ => rfl)) rfl fun L u W hG hdep => ⟨_, run_move rfl, rfl⟩
      · exact step_pureO hs (wants_on 7 rfl rfl (by kernel_rfl) (fun _ => rfl)) rfl fun L u W hG hdep => ⟨_, run_move rfl, rfl⟩
      · refine step_callB hs (wants_on 7 rfl rfl (by kernel_rfl) (fun _ => rfl)) rfl fun L u W hJ hG hdep K hK => ?_
        have x0 := (show u 8 = .slice a 32 capa from hG 8 (hdep 8 (by kernel_rfl)))
        have x1 := (show u 9 = .slice (some ⟨w.heap.size, 0, none⟩) 32 32 from hG 9 (hdep 9 (by kernel_rfl)))
        have hRB0 := (ha.below hbel).below (hJ.all rfl)
        have hRB1 := (mk_rd HBQ.out HPL.out).below (hJ.all rfl)
        go_simp
        go_at_call 13
        (with_reducible refine (multB hRB0 hRB1).mono ?_); rintro e w1 ⟨g, n, cap, r, rfl, h1, h2, h3, h4, h5, hb⟩
        have hk := hK.out _ _ _ _ _ h1 h2 h3 h4 h5 hb
        simp only [x0, x1] at hk
        exact hk
      · exact step_conv 10 hs (wants_on 7 rfl rfl (by kernel_rfl) (fun _ => rfl)) rfl rfl rfl (by kernel_rfl) (fun _ => rfl)
      · exact step_makeB (n := 32) hs (wants_on 7 rfl rfl (by kernel_rfl) (fun _ => rfl)) rfl rfl (by simp) (by unfold maxLen; omega) (fun _ => rfl) (fun _ => rfl) (fun w => by kernel_rfl)
      · exact step_conv 12 hs (wants_on 7 rfl rfl (by kernel_rfl) (fun _ => rfl)) rfl rfl rfl (by kernel_rfl) (fun _ => rfl)
      · exact step_pureO hs (wants_on 7 rfl rfl (by kernel_rfl) (fun _ => rfl)) rfl fun L u W hG hdep => ⟨_, run_eqlS rfl (show u 11 = (.string (bs (xB la P))) from hG 11 (hdep 11 (by kernel_rfl))) (show u 13 = (.string (bs (List.replicate 32 0))) from hG 13 (hdep 13 (by kernel_rfl))), by rw [decide_eq_true HZ.out]⟩
      · exact step_pick true hs (wants_none rfl) rfl rfl (fun L u W hG hdep => (show u 7 = .bool true from hG 7 (hdep 7 (by kernel_rfl)))) (fun L u W hG hdep => (show u 14 = .bool true from hG 14 (hdep 14 (by kernel_rfl))))
      · exact step_pureO hs (wants_none rfl) rfl fun L u W hG hdep => ⟨_, run_move rfl, (show u 15 = .bool true from hG 15 (hdep 15 (by kernel_rfl)))⟩
      · refine step_callO hs (wants_on 16 rfl rfl (by kernel_rfl) (fun _ => rfl)) rfl fun L u W hJ hG hdep K hK => ?_
        go_simp
        go_at_call 9
        (with_reducible refine (law6awake_any _).mono ?_); rintro e w1 ⟨rfl, hb⟩
        have hk := hK.out _ _ rfl hb
        exact hk
      · exact step_pick true hs (wants_none rfl) rfl rfl (fun L u W hG hdep => (show u 16 = .bool true from hG 16 (hdep 16 (by kernel_rfl)))) (fun L u W hG hdep => (show u 17 = .bool true from hG 17 (hdep 17 (by kernel_rfl))))
      · exact step_pureO hs (wants_none rfl) rfl fun L u W hG hdep => ⟨_, run_assign rfl, (show u 18 = .bool true from hG 18 (hdep 18 (by kernel_rfl)))⟩
    intro L21 u21 W21 hall hJ hG
    have hb := hJ.all rfl
    have hbel := Below.call hbel hb
    have HC52 := Lib.hid (show u21 1 = .bool true from hG 1 (by simp))
    have HC53 := Lib.hid (show u21 2 = .bool true from hG 2 (by simp))
    have HC56 := Lib.hid (show u21 5 = .bool true from hG 5 (by simp))
    have HC57 := Lib.hid (show u21 6 = .bool true from hG 6 (by simp))
    have HC58 := Lib.hid (show u21 7 = .bool true from hG 7 (by simp))
    have HC65 := Lib.hid (show u21 14 = .bool true from hG 14 (by simp))
    have HC66 := Lib.hid (show u21 15 = .bool true from hG 15 (by simp))
    have HC67 := Lib.hid (show u21 16 = .bool true from hG 16 (by simp))
    have HC68 := Lib.hid (show u21 17 = .bool true from hG 17 (by simp))
    have HC69 := Lib.hid (show u21 18 = .bool true from hG 18 (by simp))
    have HC4 := Lib.hid (show u21 19 = .bool true from hG 19 (by simp))
    have hbel0 := hbel
    clear hJ hG hall hb
    rw [HC4.out]
    go_wp2
    go_ret
    exact ⟨rfl, hbel⟩
  · have HR := Lib.hid hr
    clear hr
    go_enter Try.func4, Try.ntmps4
    have hmk := make32b
    go_upto_region 4 with fail
    clear hmk
    refine wp_gen (fun W => Blk W w.heap.size (row 32 (ffV 0)) 5 ∧ Below w.heap.size w W) ?_ (fun w1 hW => ?_)
    · exact ⟨by rw [← ffV_start]; have := Blk.new w ((List.replicate 32 (0 : UInt8)).map bV).toArray 5; simpa using this, (by repeat (first | (with_reducible refine Below.alloc' ?_ _) | (with_reducible refine Below.drew ?_) | (with_reducible refine below_drewN ?_ _) | ((with_reducible refine Below.setCell ?_ ?_ _); rotate_left; (focus (first | exact Nat.le_refl _ | (simp; done) | (simp; omega)))) | (with_reducible assumption) | (with_reducible exact Below.refl _ _)))⟩
    obtain ⟨hB, hbel1⟩ := hW
    have c0 : w1.cell? ⟨w.heap.size, 0, none⟩ = some (.int .u8 0) := hB.at (by omega)
    have hf := hB.frozen
    have hB2 := hB.set 0 (.int .u8 1)
    have HB2 := Lib.hid hB2
    clear hB hB2
    go_upto_region 20 with (go_at_call 12; (with_reducible refine (round5 HR.out _).mono ?_); rintro e wz ⟨rfl, rfl⟩)
    clear c0 hf
    have hbel1 : Below w.heap.size w (w1.setCell ⟨w.heap.size, 0, none⟩ (.int .u8 1)) := (by repeat (first | (with_reducible refine Below.alloc' ?_ _) | (with_reducible refine Below.drew ?_) | (with_reducible refine below_drewN ?_ _) | ((with_reducible refine Below.setCell ?_ ?_ _); rotate_left; (focus (first | exact Nat.le_refl _ | (simp; done) | (simp; omega)))) | (with_reducible assumption) | (with_reducible exact Below.refl _ _)))
    generalize w1.setCell ⟨w.heap.size, 0, none⟩ (.int .u8 1) = w1 at *
    have HBP : Hid (Blk w1 w.heap.size ((1 :: List.replicate 31 (0 : UInt8)).map bV) 5) := Lib.hid (by exact HB2.out)
    have HP := Lib.hid sm_1
    have HPL : Hid ((1 :: List.replicate 31 (0 : UInt8)).length = 32) := Lib.hid rfl
    generalize 1 :: List.replicate 31 (0 : UInt8) = P at HBP HP HPL
    have hSB := shC_12 (l := la) (p := P) ⟨HL.out, HPL.out⟩ (small_xB HP.out)
    have HC12 := Lib.hid hSB.1; have HB0 := Lib.hid hSB.2
    have HZ := Lib.hid (small_xB (l := la) HP.out)
    clear hSB
    go_upto_region 21 with (go_at_call 10; (refine (sharedB (ha.below hbel1) (mk_rd HBP.out HPL.out)).mono ?_; rintro e w2 ⟨a2, n2, c2, rfl, hR2, hb2⟩; (rw [HC12.out]); (rw [HB0.out] at hR2); (have hn2 := hR2.hlen); (simp at hn2); subst hn2; have hbel := Below.call hbel1 hb2; have HBQ := Lib.hid (HBP.out.below' hb2); clear hb2 hR2))
    have hbel0 := hbel
    refine wp_region_mid (fun u => (Value.slice a 32 capa :: Value.int IntKind.i64 k :: undef :: undef :: u 19 :: Value.slice (some { block := w.heap.size, off := 0 }) 32 32 :: undef :: Value.slice a2 0 c2 :: Value.int IntKind.i64 12 :: Value.slice a 32 capa :: Value.int IntKind.i64 32 :: Value.bool false :: undef :: Value.slice (some { block := w.heap.size, off := 0 }) 32 32 :: Value.int IntKind.i64 k :: Value.int IntKind.i64 1 :: Value.bool true :: Value.bool true :: Value.slice (some { block := w.heap.size, off := 0 }) 32 32 :: Value.pointer (some { block := w.heap.size, off := 0 }) :: undef :: undef :: undef :: undef :: undef :: undef :: undef :: undef :: undef :: undef :: undef :: undef :: undef :: undef :: undef :: undef :: undef :: undef :: undef :: undef :: undef :: undef :: undef :: undef :: undef :: Value.tuple #[Value.slice a2 0 c2, Value.int IntKind.i64 12] :: Value.slice a 32 capa :: Value.slice (some { block := w.heap.size, off := 0 }) 32 32 :: Value.tuple #[Value.slice a2 0 c2, Value.int IntKind.i64 12] :: Value.slice a2 0 c2 :: Value.int IntKind.i64 12 :: u 0 :: u 1 :: u 2 :: u 3 :: u 4 :: u 5 :: u 6 :: u 7 :: u 8 :: u 9 :: u 10 :: u 11 :: u 12 :: u 13 :: u 14 :: u 15 :: u 16 :: u 17 :: u 18 :: []).toArray) (Holds [.oth (fun v => v = .int .i64 12), .oth (fun v => v = .bool true), .oth (fun v => v = .bool true), .oth (fun v => v = .slice a2 0 c2), .oth (fun v => v = .int .i64 0), .oth (fun v => v = .bool true), .oth (fun v => v = .bool true), .oth (fun v => v = .bool true), .oth (fun v => v = .slice a 32 capa), .oth (fun v => v = .slice (some ⟨w.heap.size, 0, none⟩) 32 32), .rd (xB la P), .oth (fun v => v = (.string (bs (xB la P)))), .rd (List.replicate 32 0), .oth (fun v => v = (.string (bs (List.replicate 32 0)))), .oth (fun v => v = .bool true), .oth (fun v => v = .bool true), .oth (fun v => v = .bool true), .oth (fun v => v = .bool true), .oth (fun v => v = .bool true), .oth (fun v => v = .bool true)] w2) (Keep [.oth (fun v => v = .int .i64 12), .oth (fun v => v = .bool true), .oth (fun v => v = .bool true), .oth (fun v => v = .slice a2 0 c2), .oth (fun v => v = .int .i64 0), .oth (fun v => v = .bool true), .oth (fun v => v = .bool true), .oth (fun v => v = .bool true), .oth (fun v => v = .slice a 32 capa), .oth (fun v => v = .slice (some ⟨w.heap.size, 0, none⟩) 32 32), .rd (xB la P), .oth (fun v => v = (.string (bs (xB la P)))), .rd (List.replicate 32 0), .oth (fun v => v = (.string (bs (List.replicate 32 0)))), .oth (fun v => v = .bool true), .oth (fun v => v = .bool true), .oth (fun v => v = .bool true), .oth (fun v => v = .bool true), .oth (fun v => v = .bool true), .oth (fun v => v = .bool true)] w2) (fun k => ([undef, undef, undef, undef, undef, undef, undef, undef, undef, undef, undef, undef, undef, undef, undef, undef, undef, undef, undef, Value.bool false] : List Value).getD k undef) (by kernel_rfl) (by kernel_rfl) ?_ (by rfl) Keep.drew (holds_soft (by kernel_rfl)) ?_ ?_
    · intro u i v h
      rcases i with _ | _ | _ | _ | _ | _ | _ | _ | _ | _ | _ | _ | _ | _ | _ | _ | _ | _ | _ | _ | i
      all_goals first | (simp [Act.put, putV]; done) | (exfalso; simp at h; omega)
    · intro hs
      refine ⟨?_, ?_, ?_, ?_, ?_, ?_, ?_, ?_, ?_, ?_, ?_, ?_, ?_, ?_, ?_, ?_, ?_, ?_, ?_, ?_, trivial⟩
      · exact step_pureO hs (wants_none rfl) rfl fun L u W hG hdep => ⟨_, run_move rfl, rfl⟩
      · refine step_pureO hs (wants_none rfl) rfl fun L u W hG hdep => ⟨_, ?_, rfl⟩
        have e0 := (show u 0 = .int .i64 12 from hG 0 (hdep 0 (by kernel_rfl)))
        go_simp
        try simp [bne]
      · exact step_pureO hs (wants_none rfl) rfl fun L u W hG hdep => ⟨_, run_move rfl, (show u 1 = .bool true from hG 1 (hdep 1 (by kernel_rfl)))⟩
      · exact step_pureO hs (wants_on 2 rfl rfl (by kernel_rfl) (fun _ => rfl)) rfl fun L u W hG hdep => ⟨_, run_move rfl, rfl⟩
      · refine step_pureO hs (wants_on 2 rfl rfl (by kernel_rfl) (fun _ => rfl)) rfl fun L u W hG hdep => ⟨_, ?_, rfl⟩
        have e0 := (show u 3 = .slice a2 0 c2 from hG 3 (hdep 3 (by kernel_rfl)))
        go_simp
      · refine step_pureO hs (wants_on 2 rfl rfl (by kernel_rfl) (fun _ => rfl)) rfl fun L u W hG hdep => ⟨_, ?_, rfl⟩
        have e0 := (show u 4 = .int .i64 0 from hG 4 (hdep 4 (by kernel_rfl)))
        go_simp
        try simp [bne]
      · exact step_pick true hs (wants_none rfl) rfl rfl (fun L u W hG hdep => (show u 2 = .bool true from hG 2 (hdep 2 (by kernel_rfl)))) (fun L u W hG hdep => (show u 5 = .bool true from hG 5 (hdep 5 (by kernel_rfl))))
      · exact step_pureO hs (wants_none rfl) rfl fun L u W hG hdep => ⟨_, run_move rfl, (show u 6 = .bool true from hG 6 (hdep 6 (by kernel_rfl)))⟩
      · exact step_pureO hs (wants_on 7 rfl rfl (by kernel_rfl) (fun _ => rfl)) rfl fun L u W hG hdep => ⟨_, run_move rfl, rfl⟩
      · exact step_pureO hs (wants_on 7 rfl rfl (by kernel_rfl) (fun _ => rfl)) rfl fun L u W hG hdep => ⟨_, run_move rfl, rfl⟩
      · refine step_callB hs (wants_on 7 rfl rfl (by kernel_rfl) (fun _ => rfl)) rfl fun L u W hJ hG hdep K hK => ?_
        have x0 := (show u 8 = .slice a 32 capa from hG 8 (hdep 8 (by kernel_rfl)))
        have x1 := (show u 9 = .slice (some ⟨w.heap.size, 0, none⟩) 32 32 from hG 9 (hdep 9 (by kernel_rfl)))
        have hRB0 := (ha.below hbel).below (hJ.all rfl)
        have hRB1 := (mk_rd HBQ.out HPL.out).below (hJ.all rfl)
        go_simp
        go_at_call 13
        (with_reducible refine (multB hRB0 hRB1).mono ?_); rintro e w1 ⟨g, n, cap, r, rfl, h1, h2, h3, h4, h5, hb⟩
        have hk := hK.out _ _ _ _ _ h1 h2 h3 h4 h5 hb
        simp only [x0, x1] at hk
        exact hk
      · exact step_conv 10 hs (wants_on 7 rfl rfl (by kernel_rfl) (fun _ => rfl)) rfl rfl rfl (by kernel_rfl) (fun _ => rfl)
      · exact step_makeB (n := 32) hs (wants_on 7 rfl rfl (by kernel_rfl) (fun _ => rfl)) rfl rfl (by simp) (by unfold maxLen; omega) (fun _ => rfl) (fun _ => rfl) (fun w => by kernel_rfl)
      · exact step_conv 12 hs (wants_on 7 rfl rfl (by kernel_rfl) (fun _ => rfl)) rfl rfl rfl (by kernel_rfl) (fun _ => rfl)
      · exact step_pureO hs (wants_on 7 rfl rfl (by kernel_rfl) (fun _ => rfl)) rfl fun L u W hG hdep => ⟨_, run_eqlS rfl (show u 11 = (.string (bs (xB la P))) from hG 11 (hdep 11 (by kernel_rfl))) (show u 13 = (.string (bs (List.replicate 32 0))) from hG 13 (hdep 13 (by kernel_rfl))), by rw [decide_eq_true HZ.out]⟩
      · exact step_pick true hs (wants_none rfl) rfl rfl (fun L u W hG hdep => (show u 7 = .bool true from hG 7 (hdep 7 (by kernel_rfl)))) (fun L u W hG hdep => (show u 14 = .bool true from hG 14 (hdep 14 (by kernel_rfl))))
      · exact step_pureO hs (wants_none rfl) rfl fun L u W hG hdep => ⟨_, run_move rfl, (show u 15 = .bool true from hG 15 (hdep 15 (by kernel_rfl)))⟩
      · refine step_callO hs (wants_on 16 rfl rfl (by kernel_rfl) (fun _ => rfl)) rfl fun L u W hJ hG hdep K hK => ?_
        go_simp
        go_at_call 9
        (with_reducible refine (law6awake_any _).mono ?_); rintro e w1 ⟨rfl, hb⟩
        have hk := hK.out _ _ rfl hb
        exact hk
      · exact step_pick true hs (wants_none rfl) rfl rfl (fun L u W hG hdep => (show u 16 = .bool true from hG 16 (hdep 16 (by kernel_rfl)))) (fun L u W hG hdep => (show u 17 = .bool true from hG 17 (hdep 17 (by kernel_rfl))))
      · exact step_pureO hs (wants_none rfl) rfl fun L u W hG hdep => ⟨_, run_assign rfl, (show u 18 = .bool true from hG 18 (hdep 18 (by kernel_rfl)))⟩
    intro L21 u21 W21 hall hJ hG
    have hb := hJ.all rfl
    have hbel := Below.call hbel hb
    have HC52 := Lib.hid (show u21 1 = .bool true from hG 1 (by simp))
    have HC53 := Lib.hid (show u21 2 = .bool true from hG 2 (by simp))
    have HC56 := Lib.hid (show u21 5 = .bool true from hG 5 (by simp))
    have HC57 := Lib.hid (show u21 6 = .bool true from hG 6 (by simp))
    have HC58 := Lib.hid (show u21 7 = .bool true from hG 7 (by simp))
    have HC65 := Lib.hid (show u21 14 = .bool true from hG 14 (by simp))
    have HC66 := Lib.hid (show u21 15 = .bool true from hG 15 (by simp))
    have HC67 := Lib.hid (show u21 16 = .bool true from hG 16 (by simp))
    have HC68 := Lib.hid (show u21 17 = .bool true from hG 17 (by simp))
    have HC69 := Lib.hid (show u21 18 = .bool true from hG 18 (by simp))
    have HC4 := Lib.hid (show u21 19 = .bool true from hG 19 (by simp))
    have hbel0 := hbel
    clear hJ hG hall hb
    rw [HC4.out]
    go_wp2
    go_ret
    exact ⟨rfl, hbel⟩
  · have HR := Lib.hid hr
    clear hr
    go_enter Try.func4, Try.ntmps4
    have hmk := make32b
    go_upto_region 4 with fail
    clear hmk
    refine wp_gen (fun W => Blk W w.heap.size (row 32 (ffV 0)) 5 ∧ Below w.heap.size w W) ?_ (fun w1 hW => ?_)
    · exact ⟨by rw [← ffV_start]; have := Blk.new w ((List.replicate 32 (0 : UInt8)).map bV).toArray 5; simpa using this, (by repeat (first | (with_reducible refine Below.alloc' ?_ _) | (with_reducible refine Below.drew ?_) | (with_reducible refine below_drewN ?_ _) | ((with_reducible refine Below.setCell ?_ ?_ _); rotate_left; (focus (first | exact Nat.le_refl _ | (simp; done) | (simp; omega)))) | (with_reducible assumption) | (with_reducible exact Below.refl _ _)))⟩
    obtain ⟨hB, hbel1⟩ := hW
    go_upto_region 11 with (go_at_call 12; (with_reducible refine (round5 HR.out _).mono ?_); rintro e wz ⟨rfl, rfl⟩)
    go_loopw [6] (fun i wr => ∃ j : Nat, j ≤ 32 ∧ i = .int .i64 (j : Int) ∧ Blk wr w.heap.size (row 32 (ffV j)) 5 ∧ Below w.heap.size w wr) (fun i _ => 32 - (intOf i).toNat)
    case atStart => exact ⟨0, by omega, rfl, hB, hbel1⟩
    case round =>
      clear hB hbel1
      obtain ⟨j, hj, rfl, hB, hbel1⟩ := hrel
      by_cases hlt : j < 32
      · have cc := hB.at hlt
        have hz : ffV j j = .int .u8 0 := by unfold ffV; rw [if_neg (by omega)]
        rw [hz] at cc
        have hf := hB.frozen j
        have hB2 := hB.set j (.int .u8 255)
        rw [ffV_step] at hB2
        have HB2 := Lib.hid hB2
        have HBel : Hid (Below w.heap.size w (wr.setCell ⟨w.heap.size, j, none⟩ (.int .u8 255))) := Lib.hid (hbel1.setCell (by simp) _)
        have j0 : (0 : Int) ≤ (j : Int) := by omega
        have j1 : (j : Int) < 32 := by omega
        clear hB hB2 hz
        go_wp2
        go_roundw
        case rel => exact ⟨j + 1, by omega, by go_num, HB2.out, HBel.out⟩
        case measure => simp [intOf]; omega
      · obtain rfl : j = 32 := by omega
        have c0 : wr.cell? ⟨w.heap.size, 0, none⟩ = some (.int .u8 255) := hB.at (by omega)
        have c31 : wr.cell? ⟨w.heap.size, 31, none⟩ = some (.int .u8 255) := hB.at (by omega)
        have hf := hB.frozen
        have HB := Lib.hid hB
        clear hB hlt hj
        go_upto_region 20 with (go_at_call 12; (with_reducible refine (round5 HR.out _).mono ?_); rintro e wz ⟨rfl, rfl⟩)
        refine wp_gen (fun W => Blk W w.heap.size ((smP 0xed).map bV) 5 ∧ Below w.heap.size w W) ?_ (fun w3 hW => ?_)
        · refine ⟨?_, (by repeat (first | (with_reducible refine Below.alloc' ?_ _) | (with_reducible refine Below.drew ?_) | (with_reducible refine below_drewN ?_ _) | ((with_reducible refine Below.setCell ?_ ?_ _); rotate_left; (focus (first | exact Nat.le_refl _ | (simp; done) | (simp; omega)))) | (with_reducible assumption) | (with_reducible exact Below.refl _ _)))⟩
          have h := (HB.out.set 0 (.int .u8 237)).set 31 (.int .u8 127)
          have e := ffV_end 0xed
          rw [show (((0xed : UInt8).toNat : Nat) : Int) = 237 from rfl] at e
          skip
          rw [e] at h
          exact h
        obtain ⟨hBP, hbel1⟩ := hW
        have HBP := Lib.hid hBP
        have HP := Lib.hid (sm_ok 0xed (by decide))
        have HPL : Hid ((smP 0xed).length = 32) := Lib.hid rfl
        clear hBP HB c0 c31 hf
        generalize smP 0xed = P at HBP HP HPL
        have hSB := shC_12 (l := la) (p := P) ⟨HL.out, HPL.out⟩ (small_xB HP.out)
        have HC12 := Lib.hid hSB.1; have HB0 := Lib.hid hSB.2
        have HZ := Lib.hid (small_xB (l := la) HP.out)
        clear hSB
        go_upto_region 21 with (go_at_call 10; (refine (sharedB (ha.below hbel1) (mk_rd HBP.out HPL.out)).mono ?_; rintro e w2 ⟨a2, n2, c2, rfl, hR2, hb2⟩; (rw [HC12.out]); (rw [HB0.out] at hR2); (have hn2 := hR2.hlen); (simp at hn2); subst hn2; have hbel := Below.call hbel1 hb2; have HBQ := Lib.hid (HBP.out.below' hb2); clear hb2 hR2))
        have hbel0 := hbel
        refine wp_region_mid (fun u => (Value.slice a 32 capa :: Value.int IntKind.i64 k :: undef :: undef :: u 19 :: Value.slice (some { block := w.heap.size, off := 0 }) 32 32 :: Value.int IntKind.i64 32 :: Value.slice a2 0 c2 :: Value.int IntKind.i64 12 :: Value.slice a 32 capa :: Value.int IntKind.i64 32 :: Value.bool false :: undef :: Value.slice (some { block := w.heap.size, off := 0 }) 32 32 :: Value.int IntKind.i64 k :: Value.int IntKind.i64 2 :: Value.bool false :: Value.bool false :: undef :: undef :: Value.bool true :: Value.bool true :: undef :: undef :: Value.int IntKind.i64 32 :: Value.bool false :: u26 :: u27 :: u28 :: u29 :: u30 :: Value.slice (some { block := w.heap.size, off := 0 }) 32 32 :: Value.pointer (some { block := w.heap.size, off := 0 }) :: Value.int IntKind.i64 k :: Value.int IntKind.i64 2 :: Value.bool false :: undef :: undef :: Value.int IntKind.i64 k :: Value.int IntKind.i64 2 :: Value.bool false :: undef :: undef :: Value.slice (some { block := w.heap.size, off := 0 }) 32 32 :: Value.pointer (some { block := w.heap.size, off := 31 }) :: Value.tuple #[Value.slice a2 0 c2, Value.int IntKind.i64 12] :: Value.slice a 32 capa :: Value.slice (some { block := w.heap.size, off := 0 }) 32 32 :: Value.tuple #[Value.slice a2 0 c2, Value.int IntKind.i64 12] :: Value.slice a2 0 c2 :: Value.int IntKind.i64 12 :: u 0 :: u 1 :: u 2 :: u 3 :: u 4 :: u 5 :: u 6 :: u 7 :: u 8 :: u 9 :: u 10 :: u 11 :: u 12 :: u 13 :: u 14 :: u 15 :: u 16 :: u 17 :: u 18 :: []).toArray) (Holds [.oth (fun v => v = .int .i64 12), .oth (fun v => v = .bool true), .oth (fun v => v = .bool true), .oth (fun v => v = .slice a2 0 c2), .oth (fun v => v = .int .i64 0), .oth (fun v => v = .bool true), .oth (fun v => v = .bool true), .oth (fun v => v = .bool true), .oth (fun v => v = .slice a 32 capa), .oth (fun v => v = .slice (some ⟨w.heap.size, 0, none⟩) 32 32), .rd (xB la P), .oth (fun v => v = (.string (bs (xB la P)))), .rd (List.replicate 32 0), .oth (fun v => v = (.string (bs (List.replicate 32 0)))), .oth (fun v => v = .bool true), .oth (fun v => v = .bool true), .oth (fun v => v = .bool true), .oth (fun v => v = .bool true), .oth (fun v => v = .bool true), .oth (fun v => v = .bool true)] w2) (Keep [.oth (fun v => v = .int .i64 12), .oth (fun v => v = .bool true), .oth (fun v => v = .bool true), .oth (fun v => v = .slice a2 0 c2), .oth (fun v => v = .int .i64 0), .oth (fun v => v = .bool true), .oth (fun v => v = .bool true), .oth (fun v => v = .bool true), .oth (fun v => v = .slice a 32 capa), .oth (fun v => v = .slice (some ⟨w.heap.size, 0, none⟩) 32 32), .rd (xB la P), .oth (fun v => v = (.string (bs (xB la P)))), .rd (List.replicate 32 0), .oth (fun v => v = (.string (bs (List.replicate 32 0)))), .oth (fun v => v = .bool true), .oth (fun v => v = .bool true), .oth (fun v => v = .bool true), .oth (fun v => v = .bool true), .oth (fun v => v = .bool true), .oth (fun v => v = .bool true)] w2) (fun k => ([undef, undef, undef, undef, undef, undef, undef, undef, undef, undef, undef, undef, undef, undef, undef, undef, undef, undef, undef, Value.bool false] : List Value).getD k undef) (by kernel_rfl) (by kernel_rfl) ?_ (by rfl) Keep.drew (holds_soft (by kernel_rfl)) ?_ ?_
        · intro u i v h
          rcases i with _ | _ | _ | _ | _ | _ | _ | _ | _ | _ | _ | _ | _ | _ | _ | _ | _ | _ | _ | _ | i
          all_goals first | (simp [Act.put, putV]; done) | (exfalso; simp at h; omega)
        · intro hs
          refine ⟨?_, ?_, ?_, ?_, ?_, ?_, ?_, ?_, ?_, ?_, ?_, ?_, ?_, ?_, ?_, ?_, ?_, ?_, ?_, ?_, trivial⟩
          · exact step_pureO hs (wants_none rfl) rfl fun L u W hG hdep => ⟨_, run_move rfl, rfl⟩
          · refine step_pureO hs (wants_none rfl) rfl fun L u W hG hdep => ⟨_, ?_, rfl⟩
            have e0 := (show u 0 = .int .i64 12 from hG 0 (hdep 0 (by kernel_rfl)))
            go_simp
            try simp [bne]
          · exact step_pureO hs (wants_none rfl) rfl fun L u W hG hdep => ⟨_, run_move rfl, (show u 1 = .bool true from hG 1 (hdep 1 (by kernel_rfl)))⟩
          · exact step_pureO hs (wants_on 2 rfl rfl (by kernel_rfl) (fun _ => rfl)) rfl fun L u W hG hdep => ⟨_, run_move rfl, rfl⟩
          · refine step_pureO hs (wants_on 2 rfl rfl (by kernel_rfl) (fun _ => rfl)) rfl fun L u W hG hdep => ⟨_, ?_, rfl⟩
            have e0 := (show u 3 = .slice a2 0 c2 from hG 3 (hdep 3 (by kernel_rfl)))
            go_simp
          · refine step_pureO hs (wants_on 2 rfl rfl (by kernel_rfl) (fun _ => rfl)) rfl fun L u W hG hdep => ⟨_, ?_, rfl⟩
            have e0 := (show u 4 = .int .i64 0 from hG 4 (hdep 4 (by kernel_rfl)))
            go_simp
            try simp [bne]
          · exact step_pick true hs (wants_none rfl) rfl rfl (fun L u W hG hdep => (show u 2 = .bool true from hG 2 (hdep 2 (by kernel_rfl)))) (fun L u W hG hdep => (show u 5 = .bool true from hG 5 (hdep 5 (by kernel_rfl))))
          · exact step_pureO hs (wants_none rfl) rfl fun L u W hG hdep => ⟨_, run_move rfl, (show u 6 = .bool true from hG 6 (hdep 6 (by kernel_rfl)))⟩
          · exact step_pureO hs (wants_on 7 rfl rfl (by kernel_rfl) (fun _ => rfl)) rfl fun L u W hG hdep => ⟨_, run_move rfl, rfl⟩
          · exact step_pureO hs (wants_on 7 rfl rfl (by kernel_rfl) (fun _ => rfl)) rfl fun L u W hG hdep => ⟨_, run_move rfl, rfl⟩
          · refine step_callB hs (wants_on 7 rfl rfl (by kernel_rfl) (fun _ => rfl)) rfl fun L u W hJ hG hdep K hK => ?_
            have x0 := (show u 8 = .slice a 32 capa from hG 8 (hdep 8 (by kernel_rfl)))
            have x1 := (show u 9 = .slice (some ⟨w.heap.size, 0, none⟩) 32 32 from hG 9 (hdep 9 (by kernel_rfl)))
            have hRB0 := (ha.below hbel).below (hJ.all rfl)
            have hRB1 := (mk_rd HBQ.out HPL.out).below (hJ.all rfl)
            go_simp
            go_at_call 13
            (with_reducible refine (multB hRB0 hRB1).mono ?_); rintro e w1 ⟨g, n, cap, r, rfl, h1, h2, h3, h4, h5, hb⟩
            have hk := hK.out _ _ _ _ _ h1 h2 h3 h4 h5 hb
            simp only [x0, x1] at hk
            exact hk
          · exact step_conv 10 hs (wants_on 7 rfl rfl (by kernel_rfl) (fun _ => rfl)) rfl rfl rfl (by kernel_rfl) (fun _ => rfl)
          · exact step_makeB (n := 32) hs (wants_on 7 rfl rfl (by kernel_rfl) (fun _ => rfl)) rfl rfl (by simp) (by unfold maxLen; omega) (fun _ => rfl) (fun _ => rfl) (fun w => by kernel_rfl)
          · exact step_conv 12 hs (wants_on 7 rfl rfl (by kernel_rfl) (fun _ => rfl)) rfl rfl rfl (by kernel_rfl) (fun _ => rfl)
          · exact step_pureO hs (wants_on 7 rfl rfl (by kernel_rfl) (fun _ => rfl)) rfl fun L u W hG hdep => ⟨_, run_eqlS rfl (show u 11 = (.string (bs (xB la P))) from hG 11 (hdep 11 (by kernel_rfl))) (show u 13 = (.string (bs (List.replicate 32 0))) from hG 13 (hdep 13 (by kernel_rfl))), by rw [decide_eq_true HZ.out]⟩
          · exact step_pick true hs (wants_none rfl) rfl rfl (fun L u W hG hdep => (show u 7 = .bool true from hG 7 (hdep 7 (by kernel_rfl)))) (fun L u W hG hdep => (show u 14 = .bool true from hG 14 (hdep 14 (by kernel_rfl))))
          · exact step_pureO hs (wants_none rfl) rfl fun L u W hG hdep => ⟨_, run_move rfl, (show u 15 = .bool true from hG 15 (hdep 15 (by kernel_rfl)))⟩
          · refine step_callO hs (wants_on 16 rfl rfl (by kernel_rfl) (fun _ => rfl)) rfl fun L u W hJ hG hdep K hK => ?_
            go_simp
            go_at_call 9
            (with_reducible refine (law6awake_any _).mono ?_); rintro e w1 ⟨rfl, hb⟩
            have hk := hK.out _ _ rfl hb
            exact hk
          · exact step_pick true hs (wants_none rfl) rfl rfl (fun L u W hG hdep => (show u 16 = .bool true from hG 16 (hdep 16 (by kernel_rfl)))) (fun L u W hG hdep => (show u 17 = .bool true from hG 17 (hdep 17 (by kernel_rfl))))
          · exact step_pureO hs (wants_none rfl) rfl fun L u W hG hdep => ⟨_, run_assign rfl, (show u 18 = .bool true from hG 18 (hdep 18 (by kernel_rfl)))⟩
        intro L21 u21 W21 hall hJ hG
        have hb := hJ.all rfl
        have hbel := Below.call hbel hb
        have HC52 := Lib.hid (show u21 1 = .bool true from hG 1 (by simp))
        have HC53 := Lib.hid (show u21 2 = .bool true from hG 2 (by simp))
        have HC56 := Lib.hid (show u21 5 = .bool true from hG 5 (by simp))
        have HC57 := Lib.hid (show u21 6 = .bool true from hG 6 (by simp))
        have HC58 := Lib.hid (show u21 7 = .bool true from hG 7 (by simp))
        have HC65 := Lib.hid (show u21 14 = .bool true from hG 14 (by simp))
        have HC66 := Lib.hid (show u21 15 = .bool true from hG 15 (by simp))
        have HC67 := Lib.hid (show u21 16 = .bool true from hG 16 (by simp))
        have HC68 := Lib.hid (show u21 17 = .bool true from hG 17 (by simp))
        have HC69 := Lib.hid (show u21 18 = .bool true from hG 18 (by simp))
        have HC4 := Lib.hid (show u21 19 = .bool true from hG 19 (by simp))
        have hbel0 := hbel
        clear hJ hG hall hb
        rw [HC4.out]
        go_wp2
        go_ret
        exact ⟨rfl, hbel⟩
  · have HR := Lib.hid hr
    clear hr
    go_enter Try.func4, Try.ntmps4
    have hmk := make32b
    go_upto_region 4 with fail
    clear hmk
    refine wp_gen (fun W => Blk W w.heap.size (row 32 (ffV 0)) 5 ∧ Below w.heap.size w W) ?_ (fun w1 hW => ?_)
    · exact ⟨by rw [← ffV_start]; have := Blk.new w ((List.replicate 32 (0 : UInt8)).map bV).toArray 5; simpa using this, (by repeat (first | (with_reducible refine Below.alloc' ?_ _) | (with_reducible refine Below.drew ?_) | (with_reducible refine below_drewN ?_ _) | ((with_reducible refine Below.setCell ?_ ?_ _); rotate_left; (focus (first | exact Nat.le_refl _ | (simp; done) | (simp; omega)))) | (with_reducible assumption) | (with_reducible exact Below.refl _ _)))⟩
    obtain ⟨hB, hbel1⟩ := hW
    go_upto_region 11 with (go_at_call 12; (with_reducible refine (round5 HR.out _).mono ?_); rintro e wz ⟨rfl, rfl⟩)
    go_loopw [6] (fun i wr => ∃ j : Nat, j ≤ 32 ∧ i = .int .i64 (j : Int) ∧ Blk wr w.heap.size (row 32 (ffV j)) 5 ∧ Below w.heap.size w wr) (fun i _ => 32 - (intOf i).toNat)
    case atStart => exact ⟨0, by omega, rfl, hB, hbel1⟩
    case round =>
      clear hB hbel1
      obtain ⟨j, hj, rfl, hB, hbel1⟩ := hrel
      by_cases hlt : j < 32
      · have cc := hB.at hlt
        have hz : ffV j j = .int .u8 0 := by unfold ffV; rw [if_neg (by omega)]
        rw [hz] at cc
        have hf := hB.frozen j
        have hB2 := hB.set j (.int .u8 255)
        rw [ffV_step] at hB2
        have HB2 := Lib.hid hB2
        have HBel : Hid (Below w.heap.size w (wr.setCell ⟨w.heap.size, j, none⟩ (.int .u8 255))) := Lib.hid (hbel1.setCell (by simp) _)
        have j0 : (0 : Int) ≤ (j : Int) := by omega
        have j1 : (j : Int) < 32 := by omega
        clear hB hB2 hz
        go_wp2
        go_roundw
        case rel => exact ⟨j + 1, by omega, by go_num, HB2.out, HBel.out⟩
        case measure => simp [intOf]; omega
      · obtain rfl : j = 32 := by omega
        have c0 : wr.cell? ⟨w.heap.size, 0, none⟩ = some (.int .u8 255) := hB.at (by omega)
        have c31 : wr.cell? ⟨w.heap.size, 31, none⟩ = some (.int .u8 255) := hB.at (by omega)
        have hf := hB.frozen
        have HB := Lib.hid hB
        clear hB hlt hj
        go_upto_region 20 with (go_at_call 12; (with_reducible refine (round5 HR.out _).mono ?_); rintro e wz ⟨rfl, rfl⟩)
        refine wp_gen (fun W => Blk W w.heap.size ((smP 0xec).map bV) 5 ∧ Below w.heap.size w W) ?_ (fun w3 hW => ?_)
        · refine ⟨?_, (by repeat (first | (with_reducible refine Below.alloc' ?_ _) | (with_reducible refine Below.drew ?_) | (with_reducible refine below_drewN ?_ _) | ((with_reducible refine Below.setCell ?_ ?_ _); rotate_left; (focus (first | exact Nat.le_refl _ | (simp; done) | (simp; omega)))) | (with_reducible assumption) | (with_reducible exact Below.refl _ _)))⟩
          have h := ((HB.out.set 0 (.int .u8 237)).set 0 (.int .u8 236)).set 31 (.int .u8 127)
          have e := ffV_end 0xec
          rw [show (((0xec : UInt8).toNat : Nat) : Int) = 236 from rfl] at e
          rw [List.set_set] at h
          rw [e] at h
          exact h
        obtain ⟨hBP, hbel1⟩ := hW
        have HBP := Lib.hid hBP
        have HP := Lib.hid (sm_ok 0xec (by decide))
        have HPL : Hid ((smP 0xec).length = 32) := Lib.hid rfl
        clear hBP HB c0 c31 hf
        generalize smP 0xec = P at HBP HP HPL
        have hSB := shC_12 (l := la) (p := P) ⟨HL.out, HPL.out⟩ (small_xB HP.out)
        have HC12 := Lib.hid hSB.1; have HB0 := Lib.hid hSB.2
        have HZ := Lib.hid (small_xB (l := la) HP.out)
        clear hSB
        go_upto_region 21 with (go_at_call 10; (refine (sharedB (ha.below hbel1) (mk_rd HBP.out HPL.out)).mono ?_; rintro e w2 ⟨a2, n2, c2, rfl, hR2, hb2⟩; (rw [HC12.out]); (rw [HB0.out] at hR2); (have hn2 := hR2.hlen); (simp at hn2); subst hn2; have hbel := Below.call hbel1 hb2; have HBQ := Lib.hid (HBP.out.below' hb2); clear hb2 hR2))
        have hbel0 := hbel
        refine wp_region_mid (fun u => (Value.slice a 32 capa :: Value.int IntKind.i64 k :: undef :: undef :: u 19 :: Value.slice (some { block := w.heap.size, off := 0 }) 32 32 :: Value.int IntKind.i64 32 :: Value.slice a2 0 c2 :: Value.int IntKind.i64 12 :: Value.slice a 32 capa :: Value.int IntKind.i64 32 :: Value.bool false :: undef :: Value.slice (some { block := w.heap.size, off := 0 }) 32 32 :: Value.int IntKind.i64 k :: Value.int IntKind.i64 3 :: Value.bool false :: Value.bool false :: undef :: undef :: Value.bool true :: Value.bool false :: Value.bool true :: undef :: Value.int IntKind.i64 32 :: Value.bool false :: u26 :: u27 :: u28 :: u29 :: u30 :: Value.slice (some { block := w.heap.size, off := 0 }) 32 32 :: Value.pointer (some { block := w.heap.size, off := 0 }) :: Value.int IntKind.i64 k :: Value.int IntKind.i64 3 :: Value.bool true :: Value.slice (some { block := w.heap.size, off := 0 }) 32 32 :: Value.pointer (some { block := w.heap.size, off := 0 }) :: Value.int IntKind.i64 k :: Value.int IntKind.i64 3 :: Value.bool false :: undef :: undef :: Value.slice (some { block := w.heap.size, off := 0 }) 32 32 :: Value.pointer (some { block := w.heap.size, off := 31 }) :: Value.tuple #[Value.slice a2 0 c2, Value.int IntKind.i64 12] :: Value.slice a 32 capa :: Value.slice (some { block := w.heap.size, off := 0 }) 32 32 :: Value.tuple #[Value.slice a2 0 c2, Value.int IntKind.i64 12] :: Value.slice a2 0 c2 :: Value.int IntKind.i64 12 :: u 0 :: u 1 :: u 2 :: u 3 :: u 4 :: u 5 :: u 6 :: u 7 :: u 8 :: u 9 :: u 10 :: u 11 :: u 12 :: u 13 :: u 14 :: u 15 :: u 16 :: u 17 :: u 18 :: []).toArray) (Holds [.oth (fun v => v = .int .i64 12), .oth (fun v => v = .bool true), .oth (fun v => v = .bool true), .oth (fun v => v = .slice a2 0 c2), .oth (fun v => v = .int .i64 0), .oth (fun v => v = .bool true), .oth (fun v => v = .bool true), .oth (fun v => v = .bool true), .oth (fun v => v = .slice a 32 capa), .oth (fun v => v = .slice (some ⟨w.heap.size, 0, none⟩) 32 32), .rd (xB la P), .oth (fun v => v = (.string (bs (xB la P)))), .rd (List.replicate 32 0), .oth (fun v => v = (.string (bs (List.replicate 32 0)))), .oth (fun v => v = .bool true), .oth (fun v => v = .bool true), .oth (fun v => v = .bool true), .oth (fun v => v = .bool true), .oth (fun v => v = .bool true), .oth (fun v => v = .bool true)] w2) (Keep [.oth (fun v => v = .int .i64 12), .oth (fun v => v = .bool true), .oth (fun v => v = .bool true), .oth (fun v => v = .slice a2 0 c2), .oth (fun v => v = .int .i64 0), .oth (fun v => v = .bool true), .oth (fun v => v = .bool true), .oth (fun v => v = .bool true), .oth (fun v => v = .slice a 32 capa), .oth (fun v => v = .slice (some ⟨w.heap.size, 0, none⟩) 32 32), .rd (xB la P), .oth (fun v => v = (.string (bs (xB la P)))), .rd (List.replicate 32 0), .oth (fun v => v = (.string (bs (List.replicate 32 0)))), .oth (fun v => v = .bool true), .oth (fun v => v = .bool true), .oth (fun v => v = .bool true), .oth (fun v => v = .bool true), .oth (fun v => v = .bool true), .oth (fun v => v = .bool true)] w2) (fun k => ([undef, undef, undef, undef, undef, undef, undef, undef, undef, undef, undef, undef, undef, undef, undef, undef, undef, undef, undef, Value.bool false] : List Value).getD k undef) (by kernel_rfl) (by kernel_rfl) ?_ (by rfl) Keep.drew (holds_soft (by kernel_rfl)) ?_ ?_
        · intro u i v h
          rcases i with _ | _ | _ | _ | _ | _ | _ | _ | _ | _ | _ | _ | _ | _ | _ | _ | _ | _ | _ | _ | i
          all_goals first | (simp [Act.put, putV]; done) | (exfalso; simp at h; omega)
        · intro hs
          refine ⟨?_, ?_, ?_, ?_, ?_, ?_, ?_, ?_, ?_, ?_, ?_, ?_, ?_, ?_, ?_, ?_, ?_, ?_, ?_, ?_, trivial⟩
          · exact step_pureO hs (wants_none rfl) rfl fun L u W hG hdep => ⟨_, run_move rfl, rfl⟩
          · refine step_pureO hs (wants_none rfl) rfl fun L u W hG hdep => ⟨_, ?_, rfl⟩
            have e0 := (show u 0 = .int .i64 12 from hG 0 (hdep 0 (by kernel_rfl)))
            go_simp
            try simp [bne]
          · exact step_pureO hs (wants_none rfl) rfl fun L u W hG hdep => ⟨_, run_move rfl, (show u 1 = .bool true from hG 1 (hdep 1 (by kernel_rfl)))⟩
          · exact step_pureO hs (wants_on 2 rfl rfl (by kernel_rfl) (fun _ => rfl)) rfl fun L u W hG hdep => ⟨_, run_move rfl, rfl⟩
          · refine step_pureO hs (wants_on 2 rfl rfl (by kernel_rfl) (fun _ => rfl)) rfl fun L u W hG hdep => ⟨_, ?_, rfl⟩
            have e0 := (show u 3 = .slice a2 0 c2 from hG 3 (hdep 3 (by kernel_rfl)))
            go_simp
          · refine step_pureO hs (wants_on 2 rfl rfl (by kernel_rfl) (fun _ => rfl)) rfl fun L u W hG hdep => ⟨_, ?_, rfl⟩
            have e0 := (show u 4 = .int .i64 0 from hG 4 (hdep 4 (by kernel_rfl)))
            go_simp
            try simp [bne]
          · exact step_pick true hs (wants_none rfl) rfl rfl (fun L u W hG hdep => (show u 2 = .bool true from hG 2 (hdep 2 (by kernel_rfl)))) (fun L u W hG hdep => (show u 5 = .bool true from hG 5 (hdep 5 (by kernel_rfl))))
          · exact step_pureO hs (wants_none rfl) rfl fun L u W hG hdep => ⟨_, run_move rfl, (show u 6 = .bool true from hG 6 (hdep 6 (by kernel_rfl)))⟩
          · exact step_pureO hs (wants_on 7 rfl rfl (by kernel_rfl) (fun _ => rfl)) rfl fun L u W hG hdep => ⟨_, run_move rfl, rfl⟩
          · exact step_pureO hs (wants_on 7 rfl rfl (by kernel_rfl) (fun _ => rfl)) rfl fun L u W hG hdep => ⟨_, run_move rfl, rfl⟩
          · refine step_callB hs (wants_on 7 rfl rfl (by kernel_rfl) (fun _ => rfl)) rfl fun L u W hJ hG hdep K hK => ?_
            have x0 := (show u 8 = .slice a 32 capa from hG 8 (hdep 8 (by kernel_rfl)))
            have x1 := (show u 9 = .slice (some ⟨w.heap.size, 0, none⟩) 32 32 from hG 9 (hdep 9 (by kernel_rfl)))
            have hRB0 := (ha.below hbel).below (hJ.all rfl)
            have hRB1 := (mk_rd HBQ.out HPL.out).below (hJ.all rfl)
            go_simp
            go_at_call 13
            (with_reducible refine (multB hRB0 hRB1).mono ?_); rintro e w1 ⟨g, n, cap, r, rfl, h1, h2, h3, h4, h5, hb⟩
            have hk := hK.out _ _ _ _ _ h1 h2 h3 h4 h5 hb
            simp only [x0, x1] at hk
            exact hk
          · exact step_conv 10 hs (wants_on 7 rfl rfl (by kernel_rfl) (fun _ => rfl)) rfl rfl rfl (by kernel_rfl) (fun _ => rfl)
          · exact step_makeB (n := 32) hs (wants_on 7 rfl rfl (by kernel_rfl) (fun _ => rfl)) rfl rfl (by simp) (by unfold maxLen; omega) (fun _ => rfl) (fun _ => rfl) (fun w => by kernel_rfl)
          · exact step_conv 12 hs (wants_on 7 rfl rfl (by kernel_rfl) (fun _ => rfl)) rfl rfl rfl (by kernel_rfl) (fun _ => rfl)
          · exact step_pureO hs (wants_on 7 rfl rfl (by kernel_rfl) (fun _ => rfl)) rfl fun L u W hG hdep => ⟨_, run_eqlS rfl (show u 11 = (.string (bs (xB la P))) from hG 11 (hdep 11 (by kernel_rfl))) (show u 13 = (.string (bs (List.replicate 32 0))) from hG 13 (hdep 13 (by kernel_rfl))), by rw [decide_eq_true HZ.out]⟩
          · exact step_pick true hs (wants_none rfl) rfl rfl (fun L u W hG hdep => (show u 7 = .bool true from hG 7 (hdep 7 (by kernel_rfl)))) (fun L u W hG hdep => (show u 14 = .bool true from hG 14 (hdep 14 (by kernel_rfl))))
          · exact step_pureO hs (wants_none rfl) rfl fun L u W hG hdep => ⟨_, run_move rfl, (show u 15 = .bool true from hG 15 (hdep 15 (by kernel_rfl)))⟩
          · refine step_callO hs (wants_on 16 rfl rfl (by kernel_rfl) (fun _ => rfl)) rfl fun L u W hJ hG hdep K hK => ?_
            go_simp
            go_at_call 9
            (with_reducible refine (law6awake_any _).mono ?_); rintro e w1 ⟨rfl, hb⟩
            have hk := hK.out _ _ rfl hb
            exact hk
          · exact step_pick true hs (wants_none rfl) rfl rfl (fun L u W hG hdep => (show u 16 = .bool true from hG 16 (hdep 16 (by kernel_rfl)))) (fun L u W hG hdep => (show u 17 = .bool true from hG 17 (hdep 17 (by kernel_rfl))))
          · exact step_pureO hs (wants_none rfl) rfl fun L u W hG hdep => ⟨_, run_assign rfl, (show u 18 = .bool true from hG 18 (hdep 18 (by kernel_rfl)))⟩
        intro L21 u21 W21 hall hJ hG
        have hb := hJ.all rfl
        have hbel := Below.call hbel hb
        have HC52 := Lib.hid (show u21 1 = .bool true from hG 1 (by simp))
        have HC53 := Lib.hid (show u21 2 = .bool true from hG 2 (by simp))
        have HC56 := Lib.hid (show u21 5 = .bool true from hG 5 (by simp))
        have HC57 := Lib.hid (show u21 6 = .bool true from hG 6 (by simp))
        have HC58 := Lib.hid (show u21 7 = .bool true from hG 7 (by simp))
        have HC65 := Lib.hid (show u21 14 = .bool true from hG 14 (by simp))
        have HC66 := Lib.hid (show u21 15 = .bool true from hG 15 (by simp))
        have HC67 := Lib.hid (show u21 16 = .bool true from hG 16 (by simp))
        have HC68 := Lib.hid (show u21 17 = .bool true from hG 17 (by simp))
        have HC69 := Lib.hid (show u21 18 = .bool true from hG 18 (by simp))
        have HC4 := Lib.hid (show u21 19 = .bool true from hG 19 (by simp))
        have hbel0 := hbel
        clear hJ hG hall hb
        rw [HC4.out]
        go_wp2
        go_ret
        exact ⟨rfl, hbel⟩
  · have HR := Lib.hid hr
    clear hr
    go_enter Try.func4, Try.ntmps4
    have hmk := make32b
    go_upto_region 4 with fail
    clear hmk
    refine wp_gen (fun W => Blk W w.heap.size (row 32 (ffV 0)) 5 ∧ Below w.heap.size w W) ?_ (fun w1 hW => ?_)
    · exact ⟨by rw [← ffV_start]; have := Blk.new w ((List.replicate 32 (0 : UInt8)).map bV).toArray 5; simpa using this, (by repeat (first | (with_reducible refine Below.alloc' ?_ _) | (with_reducible refine Below.drew ?_) | (with_reducible refine below_drewN ?_ _) | ((with_reducible refine Below.setCell ?_ ?_ _); rotate_left; (focus (first | exact Nat.le_refl _ | (simp; done) | (simp; omega)))) | (with_reducible assumption) | (with_reducible exact Below.refl _ _)))⟩
    obtain ⟨hB, hbel1⟩ := hW
    go_upto_region 11 with (go_at_call 12; (with_reducible refine (round5 HR.out _).mono ?_); rintro e wz ⟨rfl, rfl⟩)
    go_loopw [6] (fun i wr => ∃ j : Nat, j ≤ 32 ∧ i = .int .i64 (j : Int) ∧ Blk wr w.heap.size (row 32 (ffV j)) 5 ∧ Below w.heap.size w wr) (fun i _ => 32 - (intOf i).toNat)
    case atStart => exact ⟨0, by omega, rfl, hB, hbel1⟩
    case round =>
      clear hB hbel1
      obtain ⟨j, hj, rfl, hB, hbel1⟩ := hrel
      by_cases hlt : j < 32
      · have cc := hB.at hlt
        have hz : ffV j j = .int .u8 0 := by unfold ffV; rw [if_neg (by omega)]
        rw [hz] at cc
        have hf := hB.frozen j
        have hB2 := hB.set j (.int .u8 255)
        rw [ffV_step] at hB2
        have HB2 := Lib.hid hB2
        have HBel : Hid (Below w.heap.size w (wr.setCell ⟨w.heap.size, j, none⟩ (.int .u8 255))) := Lib.hid (hbel1.setCell (by simp) _)
        have j0 : (0 : Int) ≤ (j : Int) := by omega
        have j1 : (j : Int) < 32 := by omega
        clear hB hB2 hz
        go_wp2
        go_roundw
        case rel => exact ⟨j + 1, by omega, by go_num, HB2.out, HBel.out⟩
        case measure => simp [intOf]; omega
      · obtain rfl : j = 32 := by omega
        have c0 : wr.cell? ⟨w.heap.size, 0, none⟩ = some (.int .u8 255) := hB.at (by omega)
        have c31 : wr.cell? ⟨w.heap.size, 31, none⟩ = some (.int .u8 255) := hB.at (by omega)
        have hf := hB.frozen
        have HB := Lib.hid hB
        clear hB hlt hj
        go_upto_region 20 with (go_at_call 12; (with_reducible refine (round5 HR.out _).mono ?_); rintro e wz ⟨rfl, rfl⟩)
        refine wp_gen (fun W => Blk W w.heap.size ((smP 0xee).map bV) 5 ∧ Below w.heap.size w W) ?_ (fun w3 hW => ?_)
        · refine ⟨?_, (by repeat (first | (with_reducible refine Below.alloc' ?_ _) | (with_reducible refine Below.drew ?_) | (with_reducible refine below_drewN ?_ _) | ((with_reducible refine Below.setCell ?_ ?_ _); rotate_left; (focus (first | exact Nat.le_refl _ | (simp; done) | (simp; omega)))) | (with_reducible assumption) | (with_reducible exact Below.refl _ _)))⟩
          have h := ((HB.out.set 0 (.int .u8 237)).set 0 (.int .u8 238)).set 31 (.int .u8 127)
          have e := ffV_end 0xee
          rw [show (((0xee : UInt8).toNat : Nat) : Int) = 238 from rfl] at e
          rw [List.set_set] at h
          rw [e] at h
          exact h
        obtain ⟨hBP, hbel1⟩ := hW
        have HBP := Lib.hid hBP
        have HP := Lib.hid (sm_ok 0xee (by decide))
        have HPL : Hid ((smP 0xee).length = 32) := Lib.hid rfl
        clear hBP HB c0 c31 hf
        generalize smP 0xee = P at HBP HP HPL
        have hSB := shC_12 (l := la) (p := P) ⟨HL.out, HPL.out⟩ (small_xB HP.out)
        have HC12 := Lib.hid hSB.1; have HB0 := Lib.hid hSB.2
        have HZ := Lib.hid (small_xB (l := la) HP.out)
        clear hSB
        go_upto_region 21 with (go_at_call 10; (refine (sharedB (ha.below hbel1) (mk_rd HBP.out HPL.out)).mono ?_; rintro e w2 ⟨a2, n2, c2, rfl, hR2, hb2⟩; (rw [HC12.out]); (rw [HB0.out] at hR2); (have hn2 := hR2.hlen); (simp at hn2); subst hn2; have hbel := Below.call hbel1 hb2; have HBQ := Lib.hid (HBP.out.below' hb2); clear hb2 hR2))
        have hbel0 := hbel
        refine wp_region_mid (fun u => (Value.slice a 32 capa :: Value.int IntKind.i64 k :: undef :: undef :: u 19 :: Value.slice (some { block := w.heap.size, off := 0 }) 32 32 :: Value.int IntKind.i64 32 :: Value.slice a2 0 c2 :: Value.int IntKind.i64 12 :: Value.slice a 32 capa :: Value.int IntKind.i64 32 :: Value.bool false :: undef :: Value.slice (some { block := w.heap.size, off := 0 }) 32 32 :: Value.int IntKind.i64 k :: Value.int IntKind.i64 4 :: Value.bool false :: Value.bool false :: undef :: undef :: Value.bool true :: Value.bool false :: Value.bool false :: Value.bool true :: Value.int IntKind.i64 32 :: Value.bool false :: u26 :: u27 :: u28 :: u29 :: u30 :: Value.slice (some { block := w.heap.size, off := 0 }) 32 32 :: Value.pointer (some { block := w.heap.size, off := 0 }) :: Value.int IntKind.i64 k :: Value.int IntKind.i64 4 :: Value.bool false :: undef :: undef :: Value.int IntKind.i64 k :: Value.int IntKind.i64 4 :: Value.bool true :: Value.slice (some { block := w.heap.size, off := 0 }) 32 32 :: Value.pointer (some { block := w.heap.size, off := 0 }) :: Value.slice (some { block := w.heap.size, off := 0 }) 32 32 :: Value.pointer (some { block := w.heap.size, off := 31 }) :: Value.tuple #[Value.slice a2 0 c2, Value.int IntKind.i64 12] :: Value.slice a 32 capa :: Value.slice (some { block := w.heap.size, off := 0 }) 32 32 :: Value.tuple #[Value.slice a2 0 c2, Value.int IntKind.i64 12] :: Value.slice a2 0 c2 :: Value.int IntKind.i64 12 :: u 0 :: u 1 :: u 2 :: u 3 :: u 4 :: u 5 :: u 6 :: u 7 :: u 8 :: u 9 :: u 10 :: u 11 :: u 12 :: u 13 :: u 14 :: u 15 :: u 16 :: u 17 :: u 18 :: []).toArray) (Holds [.oth (fun v => v = .int .i64 12), .oth (fun v => v = .bool true), .oth (fun v => v = .bool true), .oth (fun v => v = .slice a2 0 c2), .oth (fun v => v = .int .i64 0), .oth (fun v => v = .bool true), .oth (fun v => v = .bool true), .oth (fun v => v = .bool true), .oth (fun v => v = .slice a 32 capa), .oth (fun v => v = .slice (some ⟨w.heap.size, 0, none⟩) 32 32), .rd (xB la P), .oth (fun v => v = (.string (bs (xB la P)))), .rd (List.replicate 32 0), .oth (fun v => v = (.string (bs (List.replicate 32 0)))), .oth (fun v => v = .bool true), .oth (fun v => v = .bool true), .oth (fun v => v = .bool true), .oth (fun v => v = .bool true), .oth (fun v => v = .bool true), .oth (fun v => v = .bool true)] w2) (Keep [.oth (fun v => v = .int .i64 12), .oth (fun v => v = .bool true), .oth (fun v => v = .bool true), .oth (fun v => v = .slice a2 0 c2), .oth (fun v => v = .int .i64 0), .oth (fun v => v = .bool true), .oth (fun v => v = .bool true), .oth (fun v => v = .bool true), .oth (fun v => v = .slice a 32 capa), .oth (fun v => v = .slice (some ⟨w.heap.size, 0, none⟩) 32 32), .rd (xB la P), .oth (fun v => v = (.string (bs (xB la P)))), .rd (List.replicate 32 0), .oth (fun v => v = (.string (bs (List.replicate 32 0)))), .oth (fun v => v = .bool true), .oth (fun v => v = .bool true), .oth (fun v => v = .bool true), .oth (fun v => v = .bool true), .oth (fun v => v = .bool true), .oth (fun v => v = .bool true)] w2) (fun k => ([undef, undef, undef, undef, undef, undef, undef, undef, undef, undef, undef, undef, undef, undef, undef, undef, undef, undef, undef, Value.bool false] : List Value).getD k undef) (by kernel_rfl) (by kernel_rfl) ?_ (by rfl) Keep.drew (holds_soft (by kernel_rfl)) ?_ ?_
        · intro u i v h
          rcases i with _ | _ | _ | _ | _ | _ | _ | _ | _ | _ | _ | _ | _ | _ | _ | _ | _ | _ | _ | _ | i
          all_goals first | (simp [Act.put, putV]; done) | (exfalso; simp at h; omega)
        · intro hs
          refine ⟨?_, ?_, ?_, ?_, ?_, ?_, ?_, ?_, ?_, ?_, ?_, ?_, ?_, ?_, ?_, ?_, ?_, ?_, ?_, ?_, trivial⟩
          · exact step_pureO hs (wants_none rfl) rfl fun L u W hG hdep => ⟨_, run_move rfl, rfl⟩
          · refine step_pureO hs (wants_none rfl) rfl fun L u W hG hdep => ⟨_, ?_, rfl⟩
            have e0 := (show u 0 = .int .i64 12 from hG 0 (hdep 0 (by kernel_rfl)))
            go_simp
            try simp [bne]
          · exact step_pureO hs (wants_none rfl) rfl fun L u W hG hdep => ⟨_, run_move rfl, (show u 1 = .bool true from hG 1 (hdep 1 (by kernel_rfl)))⟩
          · exact step_pureO hs (wants_on 2 rfl rfl (by kernel_rfl) (fun _ => rfl)) rfl fun L u W hG hdep => ⟨_, run_move rfl, rfl⟩
          · refine step_pureO hs (wants_on 2 rfl rfl (by kernel_rfl) (fun _ => rfl)) rfl fun L u W hG hdep => ⟨_, ?_, rfl⟩
            have e0 := (show u 3 = .slice a2 0 c2 from hG 3 (hdep 3 (by kernel_rfl)))
            go_simp
          · refine step_pureO hs (wants_on 2 rfl rfl (by kernel_rfl) (fun _ => rfl)) rfl fun L u W hG hdep => ⟨_, ?_, rfl⟩
            have e0 := (show u 4 = .int .i64 0 from hG 4 (hdep 4 (by kernel_rfl)))
            go_simp
            try simp [bne]
          · exact step_pick true hs (wants_none rfl) rfl rfl (fun L u W hG hdep => (show u 2 = .bool true from hG 2 (hdep 2 (by kernel_rfl)))) (fun L u W hG hdep => (show u 5 = .bool true from hG 5 (hdep 5 (by kernel_rfl))))
          · exact step_pureO hs (wants_none rfl) rfl fun L u W hG hdep => ⟨_, run_move rfl, (show u 6 = .bool true from hG 6 (hdep 6 (by kernel_rfl)))⟩
          · exact step_pureO hs (wants_on 7 rfl rfl (by kernel_rfl) (fun _ => rfl)) rfl fun L u W hG hdep => ⟨_, run_move rfl, rfl⟩
          · exact step_pureO hs (wants_on 7 rfl rfl (by kernel_rfl) (fun _ => rfl)) rfl fun L u W hG hdep => ⟨_, run_move rfl, rfl⟩
          · refine step_callB hs (wants_on 7 rfl rfl (by kernel_rfl) (fun _ => rfl)) rfl fun L u W hJ hG hdep K hK => ?_
            have x0 := (show u 8 = .slice a 32 capa from hG 8 (hdep 8 (by kernel_rfl)))
            have x1 := (show u 9 = .slice (some ⟨w.heap.size, 0, none⟩) 32 32 from hG 9 (hdep 9 (by kernel_rfl)))
            have hRB0 := (ha.below hbel).below (hJ.all rfl)
            have hRB1 := (mk_rd HBQ.out HPL.out).below (hJ.all rfl)
            go_simp
            go_at_call 13
            (with_reducible refine (multB hRB0 hRB1).mono ?_); rintro e w1 ⟨g, n, cap, r, rfl, h1, h2, h3, h4, h5, hb⟩
            have hk := hK.out _ _ _ _ _ h1 h2 h3 h4 h5 hb
            simp only [x0, x1] at hk
            exact hk
          · exact step_conv 10 hs (wants_on 7 rfl rfl (by kernel_rfl) (fun _ => rfl)) rfl rfl rfl (by kernel_rfl) (fun _ => rfl)
          · exact step_makeB (n := 32) hs (wants_on 7 rfl rfl (by kernel_rfl) (fun _ => rfl)) rfl rfl (by simp) (by unfold maxLen; omega) (fun _ => rfl) (fun _ => rfl) (fun w => by kernel_rfl)
          · exact step_conv 12 hs (wants_on 7 rfl rfl (by kernel_rfl) (fun _ => rfl)) rfl rfl rfl (by kernel_rfl) (fun _ => rfl)
          · exact step_pureO hs (wants_on 7 rfl rfl (by kernel_rfl) (fun _ => rfl)) rfl fun L u W hG hdep => ⟨_, run_eqlS rfl (show u 11 = (.string (bs (xB la P))) from hG 11 (hdep 11 (by kernel_rfl))) (show u 13 = (.string (bs (List.replicate 32 0))) from hG 13 (hdep 13 (by kernel_rfl))), by rw [decide_eq_true HZ.out]⟩
          · exact step_pick true hs (wants_none rfl) rfl rfl (fun L u W hG hdep => (show u 7 = .bool true from hG 7 (hdep 7 (by kernel_rfl)))) (fun L u W hG hdep => (show u 14 = .bool true from hG 14 (hdep 14 (by kernel_rfl))))
          · exact step_pureO hs (wants_none rfl) rfl fun L u W hG hdep => ⟨_, run_move rfl, (show u 15 = .bool true from hG 15 (hdep 15 (by kernel_rfl)))⟩
          · refine step_callO hs (wants_on 16 rfl rfl (by kernel_rfl) (fun _ => rfl)) rfl fun L u W hJ hG hdep K hK => ?_
            go_simp
            go_at_call 9
            (with_reducible refine (law6awake_any _).mono ?_); rintro e w1 ⟨rfl, hb⟩
            have hk := hK.out _ _ rfl hb
            exact hk
          · exact step_pick true hs (wants_none rfl) rfl rfl (fun L u W hG hdep => (show u 16 = .bool true from hG 16 (hdep 16 (by kernel_rfl)))) (fun L u W hG hdep => (show u 17 = .bool true from hG 17 (hdep 17 (by kernel_rfl))))
          · exact step_pureO hs (wants_none rfl) rfl fun L u W hG hdep => ⟨_, run_assign rfl, (show u 18 = .bool true from hG 18 (hdep 18 (by kernel_rfl)))⟩
        intro L21 u21 W21 hall hJ hG
        have hb := hJ.all rfl
        have hbel := Below.call hbel hb
        have HC52 := Lib.hid (show u21 1 = .bool true from hG 1 (by simp))
        have HC53 := Lib.hid (show u21 2 = .bool true from hG 2 (by simp))
        have HC56 := Lib.hid (show u21 5 = .bool true from hG 5 (by simp))
        have HC57 := Lib.hid (show u21 6 = .bool true from hG 6 (by simp))
        have HC58 := Lib.hid (show u21 7 = .bool true from hG 7 (by simp))
        have HC65 := Lib.hid (show u21 14 = .bool true from hG 14 (by simp))
        have HC66 := Lib.hid (show u21 15 = .bool true from hG 15 (by simp))
        have HC67 := Lib.hid (show u21 16 = .bool true from hG 16 (by simp))
        have HC68 := Lib.hid (show u21 17 = .bool true from hG 17 (by simp))
        have HC69 := Lib.hid (show u21 18 = .bool true from hG 18 (by simp))
        have HC4 := Lib.hid (show u21 19 = .bool true from hG 19 (by simp))
        have hbel0 := hbel
        clear hJ hG hall hb
        rw [HC4.out]
        go_wp2
        go_ret
        exact ⟨rfl, hbel⟩
end Go.Proofs.Ytmoggjbnlimepaa
