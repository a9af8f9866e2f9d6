/- Of chapter 9, EdSmall: for every input the law returns true, and each argument reads behind the call as it read before. No condition. -/
import Derived.Test.YtielgpefoameiaaZEBF
import Derived.ProofKit
import Derived.ShutString
import Derived.ChangeOld
namespace Go.Proofs.Ytielgpefoameiaa
open Go Go.ChangeShapes Go.WideShapes Go.ChangeAt Go.RowKit
open Go.ChangeMaps (open_string shut_string)

theorem make32e (w : World) : (Instr.makeSlice 22 (.int .i64 32) (.int .i64 32)).run Try.prog w = .ok (.slice (some ⟨w.heap.size, 0, none⟩) 32 32) (w.alloc (.cells ((List.replicate 32 (0 : UInt8)).map bV).toArray 5)) := by kernel_rfl
theorem round4 {k r : Int} (hr : k % 4 = r) (w : World) : Calls Try.prog 14 #[.int .i64 k, .int .i64 4] w fun e w' => e = .returned (.int .i64 r) ∧ w = w' := round_any k r 4 (by omega) (by omega) hr w
def smE (c : UInt8) : List UInt8 := c :: (List.replicate 30 255 ++ [127])
def ffE (j i : Nat) : Value := if i < j then .int .u8 255 else .int .u8 0
theorem ffE_start : (List.replicate 32 (0 : UInt8)).map bV = row 32 (ffE 0) := rfl
theorem ffE_step (j : Nat) : (row 32 (ffE j)).set j (.int .u8 255) = row 32 (ffE (j + 1)) := by
  refine row_set j _ (by simp [ffE]) (fun i _ hi => ?_)
  unfold ffE
  by_cases h : i < j
  · rw [if_pos h, if_pos (by omega)]
  · rw [if_neg h, if_neg (by omega)]
theorem ffE_end (c : UInt8) : ((row 32 (ffE 32)).set 0 (.int .u8 (c.toNat : Int))).set 31 (.int .u8 127) = (smE c).map bV := by
  simp [row, ffE, smE, List.range, List.range.loop, bV, List.replicate]
theorem mkE {w : World} {g : Nat} {l : List UInt8} (h : Blk w g (l.map bV) 5) (hl : l.length = 32) : (IsB l).P (.slice (some ⟨g, 0, none⟩) 32 32) w := IsB.mk (RdB.blk [] (by simpa using h) hl (by omega) (by unfold maxLen; omega))
theorem ver_none {Y sig l : List UInt8} (h : decC Y = 0 → Cp.mul 8 (decV Y) = Cp.zero) : verC Y sig l = 12 := by
  unfold verC
  by_cases c : decC Y = 0
  · rw [if_pos c, if_pos (h c)]
  · rw [if_neg c]
theorem nil_sum {K : Type} [Lean.Grind.Field K] (x : K) : x * 0 + 0 * x = 0 := by grind
theorem zero_enc : encP (Cp.zero : EP) = 1 :: List.replicate 31 0 := by decide +kernel
theorem ver_Y0 (sig l : List UInt8) : verC (1 :: List.replicate 31 0) sig l = 12 := ver_none fun _ => by
  rw [← zero_enc, (dec_enc (Cp.zero : EP)).1, Cp.mul_zero]
theorem ver_Y1 (sig l : List UInt8) : verC (smE 236) sig l = 12 := ver_none fun _ => by
  rw [show smE 236 = encP minusP from minusP_enc.symm, (dec_enc minusP).1]
  exact minusP_even 4
theorem ver_Y2 (sig l : List UInt8) : verC (smE 237) sig l = 12 := ver_none fun h => by
  rw [(dec_big (b := smE 237) (by decide +kernel)).2] at h
  omega
theorem ver_Y3 (sig l : List UInt8) : verC (List.replicate 32 0) sig l = 12 := ver_none fun h => by
  have hb := dec_back h
  generalize decV (List.replicate 32 0) = P at hb ⊢
  have hl : leN (encP P) = 0 := by rw [hb]; decide +kernel
  have h2 := leN_leB 32 (P.y.val + 2 ^ 255 * (P.x.val % 2))
  rw [show leB 32 (P.y.val + 2 ^ 255 * (P.x.val % 2)) = encP P from rfl, hl] at h2
  have hP : P.y.val < 2 ^ 255 := Nat.lt_trans P.y.isLt P255
  have hx : P.x.val % 2 < 2 := Nat.mod_lt _ (by omega)
  have e256 : (2 : Nat) ^ (8 * 32) = 2 ^ 255 + 2 ^ 255 := by decide +kernel
  have hy0 : P.y.val = 0 := by
    rw [e256] at h2
    generalize (2 : Nat) ^ 255 = T at *
    generalize P.y.val = y at *
    generalize P.x.val % 2 = b at *
    have hbb : b = 0 ∨ b = 1 := by omega
    rcases hbb with rfl | rfl
    · rw [Nat.mul_zero, Nat.add_zero, Nat.mod_eq_of_lt (by omega)] at h2; exact h2.symm
    · rw [Nat.mul_one, Nat.mod_eq_of_lt (by omega)] at h2; omega
  have hy : P.y = 0 := F.ext' hy0
  have hQ : (P.add P).x = 0 := by
    have e1 := P.add_x P
    rw [hy] at e1
    have hp := P.plus P
    rw [hy] at hp
    have e2 : (P.add P).x * (1 + cuE.d * P.x * P.x * 0 * 0) = 0 := e1.trans (nil_sum _)
    rcases F.dom e2 with h3 | h3
    · exact h3
    · exact absurd h3 hp
  have h8 : Cp.mul 8 P = Cp.mul 4 (P.add P) := by rw [← mul_two', Cp.mul_mul]
  rw [h8]
  rcases x_nil_y hQ with h3 | h3
  · rw [y_unit h3, Cp.mul_zero]
  · have h4 := y_minus h3
    have h5 : Cp.mul 2 (P.add P) = Cp.zero := by rw [mul_two', h4]
    rw [show (4 : Nat) = 2 * 2 from rfl, ← Cp.mul_mul, h5, Cp.mul_zero]

set_option maxRecDepth 100000 in
set_option maxHeartbeats 8000000 in
theorem edSmall_few {w : World} {va : Value} {la : List UInt8} {vb : Value} {lb : List UInt8} {k : Int} (ha : (IsB la).P va w) (hb : (IsB lb).P vb w) (t0 : la.length ≤ 100) (t1 : lb.length ≤ 300) :
    Calls Try.prog 4 #[va, vb, .int .i64 k] w fun e w' => e = .returned (.bool true) ∧ Below w.heap.size w w' := by
  have T0 := Lib.hid t0; clear t0
  have T1 := Lib.hid t1; clear t1
  go_enter Try.func4, Try.ntmps4
  have hbel : Below w.heap.size w w := Below.refl _ _
  have hbel0 := hbel
  go_upto_region 0 with fail
  refine wp_region_turn (fun u => (va :: vb :: .int .i64 k :: undef :: undef :: undef :: u 0 :: undef :: undef :: undef :: undef :: undef :: undef :: undef :: undef :: undef :: undef :: undef :: undef :: undef :: undef :: undef :: undef :: undef :: undef :: undef :: undef :: undef :: undef :: undef :: undef :: undef :: undef :: undef :: undef :: undef :: undef :: undef :: undef :: undef :: undef :: undef :: undef :: undef :: undef :: undef :: undef :: undef :: undef :: undef :: undef :: undef :: undef :: undef :: undef :: undef :: undef :: undef :: undef :: undef :: undef :: undef :: undef :: undef :: undef :: []).toArray) (Holds [.oth (fun v => v = .bool false)] w) (Keep [.oth (fun v => v = .bool false)] w) (fun _ => undef) ?_ (by rfl) Keep.start (holds_soft (by kernel_rfl)) ?_ ?_
  · intro u i v h
    rcases i with _ | i
    all_goals first | (simp [Act.put, putV]; done) | (exfalso; simp at h; omega)
  · intro hs
    refine ⟨?_, trivial⟩
    · exact step_pureO hs (wants_none rfl) rfl fun L u W hG hdep => ⟨_, run_assign rfl, rfl⟩
  intro L0 u0 W0 hall hJ hG
  have hb := hJ.all rfl
  have hbel := Below.call hbel hb
  have HC6 := Lib.hid (show u0 0 = .bool false from hG 0 (by simp))
  have hbel0 := hbel
  clear hJ hG hall hb
  go_upto_region 1 with fail
  refine wp_region_turn (fun u => (va :: vb :: .int .i64 k :: undef :: undef :: undef :: u0 0 :: undef :: undef :: undef :: undef :: u 0 :: u 1 :: u 2 :: u 3 :: u 4 :: u 5 :: u 6 :: u 7 :: undef :: undef :: undef :: undef :: undef :: undef :: undef :: undef :: undef :: undef :: undef :: undef :: undef :: undef :: undef :: undef :: undef :: undef :: undef :: undef :: undef :: undef :: undef :: undef :: undef :: undef :: undef :: undef :: undef :: undef :: undef :: undef :: undef :: undef :: undef :: undef :: undef :: undef :: undef :: undef :: undef :: undef :: undef :: undef :: undef :: undef :: []).toArray) (Holds [.wld (IsB la) none, .oth (fun v => v = .int .i64 (la.length : Int)), .oth (fun v => v = .bool false), .oth (fun v => v = .bool false), .wld (IsB lb) none, .oth (fun v => v = .int .i64 (lb.length : Int)), .oth (fun v => v = .bool false), .oth (fun v => v = .bool false)] W0) (Keep [.wld (IsB la) none, .oth (fun v => v = .int .i64 (la.length : Int)), .oth (fun v => v = .bool false), .oth (fun v => v = .bool false), .wld (IsB lb) none, .oth (fun v => v = .int .i64 (lb.length : Int)), .oth (fun v => v = .bool false), .oth (fun v => v = .bool false)] W0) (fun _ => undef) ?_ (by rfl) Keep.start (holds_soft (by kernel_rfl)) ?_ ?_
  · intro u i v h
    rcases i with _ | _ | _ | _ | _ | _ | _ | _ | i
    all_goals first | (simp [Act.put, putV]; done) | (exfalso; simp at h; omega)
  · intro hs
    refine ⟨?_, ?_, ?_, ?_, ?_, ?_, ?_, ?_, trivial⟩
    · exact step_runP hs (wants_none rfl) rfl fun L u W hJ hG hL hdep => run_moveP (.inl rfl) ((IsB la).st _ _ _ ha (Below.call hbel (hJ.all rfl)))
    · exact step_runO hs (wants_none rfl) rfl fun L u W hJ hG hL hdep => run_lenP rfl (holds_wld (φ := IsB la) (hG 0 (hdep 0 (by kernel_rfl))) rfl till_none) (rfl)
    · refine step_pureO hs (wants_none rfl) rfl fun L u W hG hdep => ⟨_, ?_, rfl⟩
      have e0 := (show u 1 = .int .i64 (la.length : Int) from hG 1 (hdep 1 (by kernel_rfl)))
      have e9 := T0.out
      have e8 := T1.out
      go_simp
      try omega
    · exact step_pureO hs (wants_none rfl) rfl fun L u W hG hdep => ⟨_, run_move rfl, (show u 2 = .bool false from hG 2 (hdep 2 (by kernel_rfl)))⟩
    · exact step_runP hs (wants_on 3 rfl rfl (by kernel_rfl) (fun _ => rfl)) rfl fun L u W hJ hG hL hdep => run_moveP (.inl rfl) ((IsB lb).st _ _ _ hb (Below.call hbel (hJ.all rfl)))
    · exact step_runO hs (wants_on 3 rfl rfl (by kernel_rfl) (fun _ => rfl)) rfl fun L u W hJ hG hL hdep => run_lenP rfl (holds_wld (φ := IsB lb) (hG 4 (hdep 4 (by kernel_rfl))) rfl till_none) (rfl)
    · refine step_pureO hs (wants_on 3 rfl rfl (by kernel_rfl) (fun _ => rfl)) rfl fun L u W hG hdep => ⟨_, ?_, rfl⟩
      have e0 := (show u 5 = .int .i64 (lb.length : Int) from hG 5 (hdep 5 (by kernel_rfl)))
      have e9 := T0.out
      have e8 := T1.out
      go_simp
      try omega
    · exact step_pick false hs (wants_none rfl) rfl rfl (fun L u W hG hdep => (show u 3 = .bool false from hG 3 (hdep 3 (by kernel_rfl)))) (fun L u W hG hdep => (show u 6 = .bool false from hG 6 (hdep 6 (by kernel_rfl))))
  intro L1 u1 W1 hall hJ hG
  have hb := hJ.all rfl
  have hbel := Below.call hbel hb
  have HC13 := Lib.hid (show u1 2 = .bool false from hG 2 (by simp))
  have HC14 := Lib.hid (show u1 3 = .bool false from hG 3 (by simp))
  have HC17 := Lib.hid (show u1 6 = .bool false from hG 6 (by simp))
  have HC18 := Lib.hid (show u1 7 = .bool false from hG 7 (by simp))
  have hbel0 := hbel
  clear hJ hG hall hb
  have hx : u1 7 = .bool false := HC18.out
  go_wp2_with fail
  rw [hx]
  clear hx
  have hmk := make32e
  have hr : k % 4 = 0 ∨ k % 4 = 1 ∨ k % 4 = 2 ∨ k % 4 = 3 := by omega
  go_upto_region 4 with fail
  clear hmk
  refine wp_gen (fun W => Blk W W1.heap.size (row 32 (ffE 0)) 5 ∧ Below W1.heap.size W1 W) ?_ (fun w1 hW => ?_)
  · exact ⟨by rw [← ffE_start]; have := Blk.new W1 ((List.replicate 32 (0 : UInt8)).map bV).toArray 5; simpa using this, (Below.refl _ _).alloc (Nat.le_refl _) _⟩
  obtain ⟨hB, hbl1⟩ := hW
  have HBW := Lib.hid hbel
  clear hbel hbel0
  rcases hr with hr | hr | hr | hr
  · have HR := Lib.hid hr
    clear hr
    have c0 : w1.cell? ⟨W1.heap.size, 0, none⟩ = some (.int .u8 0) := hB.at (by omega)
    have hf := hB.frozen
    have HB2 := Lib.hid (hB.set 0 (.int .u8 1))
    clear hB
    go_upto_region 23 with (go_at_call 14; (with_reducible refine (round4 HR.out _).mono ?_); rintro e wz ⟨rfl, rfl⟩)
    clear c0 hf
    have hbl2 : Below W1.heap.size W1 (w1.setCell ⟨W1.heap.size, 0, none⟩ (.int .u8 1)) := hbl1.setCell (Nat.le_refl _) _
    generalize w1.setCell ⟨W1.heap.size, 0, none⟩ (.int .u8 1) = w2 at *
    have HBP : Hid (Blk w2 W1.heap.size ((1 :: List.replicate 31 (0 : UInt8)).map bV) 5) := Lib.hid (by exact HB2.out)
    have HVC := Lib.hid (ver_Y0 la lb)
    have HPL : Hid (((1 : UInt8) :: List.replicate 31 0).length = 32) := Lib.hid (by first | rfl | decide)
    obtain ⟨Y, hY⟩ : ∃ Y : List UInt8, Y = (1 : UInt8) :: List.replicate 31 0 := ⟨_, rfl⟩
    rw [← hY] at HVC HPL HBP
    clear hY
    have hbel : Below w.heap.size w w2 := Below.call HBW.out hbl2
    have hbel0 := hbel
    clear hbl2
    have hw7 := mkE HBP.out HPL.out
    refine wp_region_turn (fun u => (va :: vb :: Value.int IntKind.i64 k :: undef :: undef :: undef :: u 10 :: Value.slice (some { block := W1.heap.size, off := 0 }) 32 32 :: Value.int IntKind.i64 12 :: undef :: undef :: u1 0 :: u1 1 :: u1 2 :: u1 3 :: u1 4 :: u1 5 :: u1 6 :: Value.bool false :: undef :: Value.slice (some { block := W1.heap.size, off := 0 }) 32 32 :: Value.int IntKind.i64 k :: Value.int IntKind.i64 0 :: Value.bool true :: Value.bool true :: Value.slice (some { block := W1.heap.size, off := 0 }) 32 32 :: Value.pointer (some { block := W1.heap.size, off := 0 }) :: undef :: undef :: undef :: undef :: undef :: undef :: undef :: undef :: undef :: undef :: undef :: undef :: undef :: undef :: undef :: undef :: undef :: undef :: undef :: undef :: undef :: undef :: undef :: undef :: undef :: undef :: undef :: undef :: u 0 :: u 1 :: u 2 :: u 3 :: u 4 :: u 5 :: u 6 :: u 7 :: u 8 :: u 9 :: []).toArray) (Holds [.wld (IsB Y) none, .wld (IsB la) none, .wld (IsB lb) none, .wld (IsR [lb]) none, .oth (fun v => v = .int .i64 12), .oth (fun v => v = .int .i64 12), .oth (fun v => v = .bool true), .oth (fun v => v = .bool true), .oth (fun v => v = .bool true), .oth (fun v => v = .bool true), .oth (fun v => v = .bool true)] w2) (Keep [.wld (IsB Y) none, .wld (IsB la) none, .wld (IsB lb) none, .wld (IsR [lb]) none, .oth (fun v => v = .int .i64 12), .oth (fun v => v = .int .i64 12), .oth (fun v => v = .bool true), .oth (fun v => v = .bool true), .oth (fun v => v = .bool true), .oth (fun v => v = .bool true), .oth (fun v => v = .bool true)] w2) (fun k => ((undef :: undef :: undef :: undef :: undef :: undef :: undef :: undef :: undef :: undef :: u0 0 :: []) : List Value).getD k undef) ?_ (by rfl) Keep.start (holds_soft (by kernel_rfl)) ?_ ?_
    · intro u i v h
      rcases i with _ | _ | _ | _ | _ | _ | _ | _ | _ | _ | _ | i
      all_goals first | (simp [Act.put, putV]; done) | (exfalso; simp at h; omega)
    · intro hs
      refine ⟨?_, ?_, ?_, ?_, ?_, ?_, ?_, ?_, ?_, ?_, ?_, trivial⟩
      · exact step_runP hs (wants_none rfl) rfl fun L u W hJ hG hL hdep => run_moveP (.inl rfl) ((IsB Y).st _ _ _ hw7 (hJ.all rfl))
      · exact step_runP hs (wants_none rfl) rfl fun L u W hJ hG hL hdep => run_moveP (.inl rfl) ((IsB la).st _ _ _ ha (Below.call hbel (hJ.all rfl)))
      · exact step_runP hs (wants_none rfl) rfl fun L u W hJ hG hL hdep => run_moveP (.inl rfl) ((IsB lb).st _ _ _ hb (Below.call hbel (hJ.all rfl)))
      · exact step_runP hs (wants_none rfl) rfl fun L u W hJ hG hL hdep => run_rows1 rfl (holds_wld (φ := IsB lb) (hG 2 (hdep 2 (by kernel_rfl))) rfl till_none)
      · refine step_callO hs (wants_none rfl) rfl fun L u W hJ hG hL hdep K hK => ?_
        go_simp
        go_at_call 12
        (with_reducible refine (gVerifyC (l := lb) (holds_wld (φ := IsB Y) (hG 0 (hdep 0 (by kernel_rfl))) rfl till_none) (holds_wld (φ := IsB la) (hG 1 (hdep 1 (by kernel_rfl))) rfl till_none) (holds_wld (φ := IsR [lb]) (hG 3 (hdep 3 (by kernel_rfl))) rfl till_none) (by simp) (by have := T1.out; omega) (HVC.out)).mono ?_); rintro e w1 ⟨rfl, hb⟩
        have hk := hK.out _ _ rfl hb
        exact hk
      · exact step_pureO hs (wants_none rfl) rfl fun L u W hG hdep => ⟨_, run_move rfl, rfl⟩
      · refine step_pureO hs (wants_none rfl) rfl fun L u W hG hdep => ⟨_, ?_, rfl⟩
        have e0 := (show u 4 = .int .i64 12 from hG 4 (hdep 4 (by kernel_rfl)))
        have e1 := (show u 5 = .int .i64 12 from hG 5 (hdep 5 (by kernel_rfl)))
        go_simp
        try simp [bne]
      · exact step_pureO hs (wants_none rfl) rfl fun L u W hG hdep => ⟨_, run_move rfl, (show u 6 = .bool true from hG 6 (hdep 6 (by kernel_rfl)))⟩
      · refine step_callO hs (wants_on 7 rfl rfl (by kernel_rfl) (fun _ => rfl)) rfl fun L u W hJ hG hL hdep K hK => ?_
        go_simp
        go_at_call 8
        (with_reducible refine (law9awake_any _).mono ?_); rintro e w1 ⟨rfl, hb⟩
        have hk := hK.out _ _ rfl hb
        exact hk
      · exact step_pick true hs (wants_none rfl) rfl rfl (fun L u W hG hdep => (show u 7 = .bool true from hG 7 (hdep 7 (by kernel_rfl)))) (fun L u W hG hdep => (show u 8 = .bool true from hG 8 (hdep 8 (by kernel_rfl))))
      · exact step_pureO hs (wants_none rfl) rfl fun L u W hG hdep => ⟨_, run_assign rfl, (show u 9 = .bool true from hG 9 (hdep 9 (by kernel_rfl)))⟩
    intro L23 u23r0 W23r0 hall hJ hG
    have hb := hJ.all rfl
    have hbel := Below.call hbel hb
    have hw7 := (IsB Y).st _ _ _ hw7 hb
    have HC61 := Lib.hid (show u23r0 6 = .bool true from hG 6 (by simp))
    have HC62 := Lib.hid (show u23r0 7 = .bool true from hG 7 (by simp))
    have HC63 := Lib.hid (show u23r0 8 = .bool true from hG 8 (by simp))
    have HC64 := Lib.hid (show u23r0 9 = .bool true from hG 9 (by simp))
    have HC6 := Lib.hid (show u23r0 10 = .bool true from hG 10 (by simp))
    have hbel0 := hbel
    clear hJ hG hall hb
    go_wp2
    go_ret
    exact ⟨by rw [HC6.out]; rfl, hbel⟩
  · have HR := Lib.hid hr
    clear hr
    go_upto_region 9 with (go_at_call 14; (with_reducible refine (round4 HR.out _).mono ?_); rintro e wz ⟨rfl, rfl⟩)
    go_wp2
    go_loopw [9] (fun i wr => ∃ j : Nat, j ≤ 32 ∧ i = .int .i64 (j : Int) ∧ Blk wr W1.heap.size (row 32 (ffE j)) 5 ∧ Below W1.heap.size W1 wr) (fun i _ => 32 - (intOf i).toNat)
    case atStart => exact ⟨0, by omega, rfl, hB, hbl1⟩
    case round =>
      clear hB hbl1
      obtain ⟨j, hj, rfl, hB, hbl1⟩ := hrel
      by_cases hlt : j < 32
      · have cc := hB.at hlt
        have hz : ffE j j = .int .u8 0 := by unfold ffE; rw [if_neg (by omega)]
        rw [hz] at cc
        have hf := hB.frozen j
        have hB2 := hB.set j (.int .u8 255)
        rw [ffE_step] at hB2
        have HB2 := Lib.hid hB2
        have HBel : Hid (Below W1.heap.size W1 (wr.setCell ⟨W1.heap.size, j, none⟩ (.int .u8 255))) := Lib.hid (hbl1.setCell (Nat.le_refl _) _)
        have j0 : (0 : Int) ≤ (j : Int) := by omega
        have j1 : (j : Int) < 32 := by omega
        clear hB hB2 hz
        go_wp2
        go_roundw
        case rel => exact ⟨j + 1, by omega, by go_num, HB2.out, HBel.out⟩
        case measure => simp [intOf]; omega
      · obtain rfl : j = 32 := by omega
        have c0 : wr.cell? ⟨W1.heap.size, 0, none⟩ = some (.int .u8 255) := hB.at (by omega)
        have c31 : wr.cell? ⟨W1.heap.size, 31, none⟩ = some (.int .u8 255) := hB.at (by omega)
        have hf := hB.frozen
        have HB := Lib.hid hB
        clear hB hlt hj
        go_upto_region 23 with fail
        refine wp_gen (fun W => Blk W W1.heap.size ((smE 236).map bV) 5 ∧ Below W1.heap.size W1 W) ?_ (fun w2 hW => ?_)
        · refine ⟨?_, (hbl1.setCell (Nat.le_refl _) _).setCell (Nat.le_refl _) _⟩
          have h := (HB.out.set 0 (.int .u8 236)).set 31 (.int .u8 127)
          have e := ffE_end 236
          rw [show (((236 : UInt8).toNat : Nat) : Int) = 236 from rfl] at e
          rw [e] at h
          exact h
        obtain ⟨hBP, hbl2⟩ := hW
        have HBP := Lib.hid hBP
        clear hBP HB c0 c31 hf hbl1
        have HVC := Lib.hid (ver_Y1 la lb)
        have HPL : Hid ((smE 236).length = 32) := Lib.hid (by first | rfl | decide)
        obtain ⟨Y, hY⟩ : ∃ Y : List UInt8, Y = smE 236 := ⟨_, rfl⟩
        rw [← hY] at HVC HPL HBP
        clear hY
        have hbel : Below w.heap.size w w2 := Below.call HBW.out hbl2
        have hbel0 := hbel
        clear hbl2
        have hw7 := mkE HBP.out HPL.out
        refine wp_region_turn (fun u => (va :: vb :: Value.int IntKind.i64 k :: undef :: undef :: undef :: u 10 :: Value.slice (some { block := W1.heap.size, off := 0 }) 32 32 :: Value.int IntKind.i64 12 :: Value.int IntKind.i64 ↑32 :: undef :: u1 0 :: u1 1 :: u1 2 :: u1 3 :: u1 4 :: u1 5 :: u1 6 :: Value.bool false :: undef :: Value.slice (some { block := W1.heap.size, off := 0 }) 32 32 :: Value.int IntKind.i64 k :: Value.int IntKind.i64 1 :: Value.bool false :: Value.bool false :: undef :: undef :: Value.bool true :: Value.bool true :: Value.int IntKind.i64 ↑32 :: Value.bool false :: u31 :: u32 :: u33 :: u34 :: u35 :: Value.slice (some { block := W1.heap.size, off := 0 }) 32 32 :: Value.pointer (some { block := W1.heap.size, off := 0 }) :: Value.slice (some { block := W1.heap.size, off := 0 }) 32 32 :: Value.pointer (some { block := W1.heap.size, off := 31 }) :: undef :: undef :: undef :: undef :: undef :: undef :: undef :: undef :: undef :: undef :: undef :: undef :: undef :: undef :: undef :: u 0 :: u 1 :: u 2 :: u 3 :: u 4 :: u 5 :: u 6 :: u 7 :: u 8 :: u 9 :: []).toArray) (Holds [.wld (IsB Y) none, .wld (IsB la) none, .wld (IsB lb) none, .wld (IsR [lb]) none, .oth (fun v => v = .int .i64 12), .oth (fun v => v = .int .i64 12), .oth (fun v => v = .bool true), .oth (fun v => v = .bool true), .oth (fun v => v = .bool true), .oth (fun v => v = .bool true), .oth (fun v => v = .bool true)] w2) (Keep [.wld (IsB Y) none, .wld (IsB la) none, .wld (IsB lb) none, .wld (IsR [lb]) none, .oth (fun v => v = .int .i64 12), .oth (fun v => v = .int .i64 12), .oth (fun v => v = .bool true), .oth (fun v => v = .bool true), .oth (fun v => v = .bool true), .oth (fun v => v = .bool true), .oth (fun v => v = .bool true)] w2) (fun k => ((undef :: undef :: undef :: undef :: undef :: undef :: undef :: undef :: undef :: undef :: u0 0 :: []) : List Value).getD k undef) ?_ (by rfl) Keep.start (holds_soft (by kernel_rfl)) ?_ ?_
        · intro u i v h
          rcases i with _ | _ | _ | _ | _ | _ | _ | _ | _ | _ | _ | i
          all_goals first | (simp [Act.put, putV]; done) | (exfalso; simp at h; omega)
        · intro hs
          refine ⟨?_, ?_, ?_, ?_, ?_, ?_, ?_, ?_, ?_, ?_, ?_, trivial⟩
          · exact step_runP hs (wants_none rfl) rfl fun L u W hJ hG hL hdep => run_moveP (.inl rfl) ((IsB Y).st _ _ _ hw7 (hJ.all rfl))
          · exact step_runP hs (wants_none rfl) rfl fun L u W hJ hG hL hdep => run_moveP (.inl rfl) ((IsB la).st _ _ _ ha (Below.call hbel (hJ.all rfl)))
          · exact step_runP hs (wants_none rfl) rfl fun L u W hJ hG hL hdep => run_moveP (.inl rfl) ((IsB lb).st _ _ _ hb (Below.call hbel (hJ.all rfl)))
          · exact step_runP hs (wants_none rfl) rfl fun L u W hJ hG hL hdep => run_rows1 rfl (holds_wld (φ := IsB lb) (hG 2 (hdep 2 (by kernel_rfl))) rfl till_none)
          · refine step_callO hs (wants_none rfl) rfl fun L u W hJ hG hL hdep K hK => ?_
            go_simp
            go_at_call 12
            (with_reducible refine (gVerifyC (l := lb) (holds_wld (φ := IsB Y) (hG 0 (hdep 0 (by kernel_rfl))) rfl till_none) (holds_wld (φ := IsB la) (hG 1 (hdep 1 (by kernel_rfl))) rfl till_none) (holds_wld (φ := IsR [lb]) (hG 3 (hdep 3 (by kernel_rfl))) rfl till_none) (by simp) (by have := T1.out; omega) (HVC.out)).mono ?_); rintro e w1 ⟨rfl, hb⟩
            have hk := hK.out _ _ rfl hb
            exact hk
          · exact step_pureO hs (wants_none rfl) rfl fun L u W hG hdep => ⟨_, run_move rfl, rfl⟩
          · refine step_pureO hs (wants_none rfl) rfl fun L u W hG hdep => ⟨_, ?_, rfl⟩
            have e0 := (show u 4 = .int .i64 12 from hG 4 (hdep 4 (by kernel_rfl)))
            have e1 := (show u 5 = .int .i64 12 from hG 5 (hdep 5 (by kernel_rfl)))
            go_simp
            try simp [bne]
          · exact step_pureO hs (wants_none rfl) rfl fun L u W hG hdep => ⟨_, run_move rfl, (show u 6 = .bool true from hG 6 (hdep 6 (by kernel_rfl)))⟩
          · refine step_callO hs (wants_on 7 rfl rfl (by kernel_rfl) (fun _ => rfl)) rfl fun L u W hJ hG hL hdep K hK => ?_
            go_simp
            go_at_call 8
            (with_reducible refine (law9awake_any _).mono ?_); rintro e w1 ⟨rfl, hb⟩
            have hk := hK.out _ _ rfl hb
            exact hk
          · exact step_pick true hs (wants_none rfl) rfl rfl (fun L u W hG hdep => (show u 7 = .bool true from hG 7 (hdep 7 (by kernel_rfl)))) (fun L u W hG hdep => (show u 8 = .bool true from hG 8 (hdep 8 (by kernel_rfl))))
          · exact step_pureO hs (wants_none rfl) rfl fun L u W hG hdep => ⟨_, run_assign rfl, (show u 9 = .bool true from hG 9 (hdep 9 (by kernel_rfl)))⟩
        intro L23 u23r1 W23r1 hall hJ hG
        have hb := hJ.all rfl
        have hbel := Below.call hbel hb
        have hw7 := (IsB Y).st _ _ _ hw7 hb
        have HC61 := Lib.hid (show u23r1 6 = .bool true from hG 6 (by simp))
        have HC62 := Lib.hid (show u23r1 7 = .bool true from hG 7 (by simp))
        have HC63 := Lib.hid (show u23r1 8 = .bool true from hG 8 (by simp))
        have HC64 := Lib.hid (show u23r1 9 = .bool true from hG 9 (by simp))
        have HC6 := Lib.hid (show u23r1 10 = .bool true from hG 10 (by simp))
        have hbel0 := hbel
        clear hJ hG hall hb
        go_wp2
        go_ret
        exact ⟨by rw [HC6.out]; rfl, hbel⟩
  · have HR := Lib.hid hr
    clear hr
    go_upto_region 16 with (go_at_call 14; (with_reducible refine (round4 HR.out _).mono ?_); rintro e wz ⟨rfl, rfl⟩)
    go_wp2
    go_loopw [10] (fun i wr => ∃ j : Nat, j ≤ 32 ∧ i = .int .i64 (j : Int) ∧ Blk wr W1.heap.size (row 32 (ffE j)) 5 ∧ Below W1.heap.size W1 wr) (fun i _ => 32 - (intOf i).toNat)
    case atStart => exact ⟨0, by omega, rfl, hB, hbl1⟩
    case round =>
      clear hB hbl1
      obtain ⟨j, hj, rfl, hB, hbl1⟩ := hrel
      by_cases hlt : j < 32
      · have cc := hB.at hlt
        have hz : ffE j j = .int .u8 0 := by unfold ffE; rw [if_neg (by omega)]
        rw [hz] at cc
        have hf := hB.frozen j
        have hB2 := hB.set j (.int .u8 255)
        rw [ffE_step] at hB2
        have HB2 := Lib.hid hB2
        have HBel : Hid (Below W1.heap.size W1 (wr.setCell ⟨W1.heap.size, j, none⟩ (.int .u8 255))) := Lib.hid (hbl1.setCell (Nat.le_refl _) _)
        have j0 : (0 : Int) ≤ (j : Int) := by omega
        have j1 : (j : Int) < 32 := by omega
        clear hB hB2 hz
        go_wp2
        go_roundw
        case rel => exact ⟨j + 1, by omega, by go_num, HB2.out, HBel.out⟩
        case measure => simp [intOf]; omega
      · obtain rfl : j = 32 := by omega
        have c0 : wr.cell? ⟨W1.heap.size, 0, none⟩ = some (.int .u8 255) := hB.at (by omega)
        have c31 : wr.cell? ⟨W1.heap.size, 31, none⟩ = some (.int .u8 255) := hB.at (by omega)
        have hf := hB.frozen
        have HB := Lib.hid hB
        clear hB hlt hj
        go_upto_region 23 with fail
        refine wp_gen (fun W => Blk W W1.heap.size ((smE 237).map bV) 5 ∧ Below W1.heap.size W1 W) ?_ (fun w2 hW => ?_)
        · refine ⟨?_, (hbl1.setCell (Nat.le_refl _) _).setCell (Nat.le_refl _) _⟩
          have h := (HB.out.set 0 (.int .u8 237)).set 31 (.int .u8 127)
          have e := ffE_end 237
          rw [show (((237 : UInt8).toNat : Nat) : Int) = 237 from rfl] at e
          rw [e] at h
          exact h
        obtain ⟨hBP, hbl2⟩ := hW
        have HBP := Lib.hid hBP
        clear hBP HB c0 c31 hf hbl1
        have HVC := Lib.hid (ver_Y2 la lb)
        have HPL : Hid ((smE 237).length = 32) := Lib.hid (by first | rfl | decide)
        obtain ⟨Y, hY⟩ : ∃ Y : List UInt8, Y = smE 237 := ⟨_, rfl⟩
        rw [← hY] at HVC HPL HBP
        clear hY
        have hbel : Below w.heap.size w w2 := Below.call HBW.out hbl2
        have hbel0 := hbel
        clear hbl2
        have hw7 := mkE HBP.out HPL.out
        refine wp_region_turn (fun u => (va :: vb :: Value.int IntKind.i64 k :: undef :: undef :: undef :: u 10 :: Value.slice (some { block := W1.heap.size, off := 0 }) 32 32 :: Value.int IntKind.i64 12 :: undef :: Value.int IntKind.i64 ↑32 :: u1 0 :: u1 1 :: u1 2 :: u1 3 :: u1 4 :: u1 5 :: u1 6 :: Value.bool false :: undef :: Value.slice (some { block := W1.heap.size, off := 0 }) 32 32 :: Value.int IntKind.i64 k :: Value.int IntKind.i64 2 :: Value.bool false :: Value.bool false :: undef :: undef :: Value.bool false :: Value.bool false :: undef :: undef :: undef :: undef :: undef :: undef :: undef :: undef :: undef :: undef :: undef :: Value.bool true :: Value.bool true :: Value.int IntKind.i64 ↑32 :: Value.bool false :: u44 :: u45 :: u46 :: u47 :: u48 :: Value.slice (some { block := W1.heap.size, off := 0 }) 32 32 :: Value.pointer (some { block := W1.heap.size, off := 0 }) :: Value.slice (some { block := W1.heap.size, off := 0 }) 32 32 :: Value.pointer (some { block := W1.heap.size, off := 31 }) :: undef :: undef :: u 0 :: u 1 :: u 2 :: u 3 :: u 4 :: u 5 :: u 6 :: u 7 :: u 8 :: u 9 :: []).toArray) (Holds [.wld (IsB Y) none, .wld (IsB la) none, .wld (IsB lb) none, .wld (IsR [lb]) none, .oth (fun v => v = .int .i64 12), .oth (fun v => v = .int .i64 12), .oth (fun v => v = .bool true), .oth (fun v => v = .bool true), .oth (fun v => v = .bool true), .oth (fun v => v = .bool true), .oth (fun v => v = .bool true)] w2) (Keep [.wld (IsB Y) none, .wld (IsB la) none, .wld (IsB lb) none, .wld (IsR [lb]) none, .oth (fun v => v = .int .i64 12), .oth (fun v => v = .int .i64 12), .oth (fun v => v = .bool true), .oth (fun v => v = .bool true), .oth (fun v => v = .bool true), .oth (fun v => v = .bool true), .oth (fun v => v = .bool true)] w2) (fun k => ((undef :: undef :: undef :: undef :: undef :: undef :: undef :: undef :: undef :: undef :: u0 0 :: []) : List Value).getD k undef) ?_ (by rfl) Keep.start (holds_soft (by kernel_rfl)) ?_ ?_
        · intro u i v h
          rcases i with _ | _ | _ | _ | _ | _ | _ | _ | _ | _ | _ | i
          all_goals first | (simp [Act.put, putV]; done) | (exfalso; simp at h; omega)
        · intro hs
          refine ⟨?_, ?_, ?_, ?_, ?_, ?_, ?_, ?_, ?_, ?_, ?_, trivial⟩
          · exact step_runP hs (wants_none rfl) rfl fun L u W hJ hG hL hdep => run_moveP (.inl rfl) ((IsB Y).st _ _ _ hw7 (hJ.all rfl))
          · exact step_runP hs (wants_none rfl) rfl fun L u W hJ hG hL hdep => run_moveP (.inl rfl) ((IsB la).st _ _ _ ha (Below.call hbel (hJ.all rfl)))
          · exact step_runP hs (wants_none rfl) rfl fun L u W hJ hG hL hdep => run_moveP (.inl rfl) ((IsB lb).st _ _ _ hb (Below.call hbel (hJ.all rfl)))
          · exact step_runP hs (wants_none rfl) rfl fun L u W hJ hG hL hdep => run_rows1 rfl (holds_wld (φ := IsB lb) (hG 2 (hdep 2 (by kernel_rfl))) rfl till_none)
          · refine step_callO hs (wants_none rfl) rfl fun L u W hJ hG hL hdep K hK => ?_
            go_simp
            go_at_call 12
            (with_reducible refine (gVerifyC (l := lb) (holds_wld (φ := IsB Y) (hG 0 (hdep 0 (by kernel_rfl))) rfl till_none) (holds_wld (φ := IsB la) (hG 1 (hdep 1 (by kernel_rfl))) rfl till_none) (holds_wld (φ := IsR [lb]) (hG 3 (hdep 3 (by kernel_rfl))) rfl till_none) (by simp) (by have := T1.out; omega) (HVC.out)).mono ?_); rintro e w1 ⟨rfl, hb⟩
            have hk := hK.out _ _ rfl hb
            exact hk
          · exact step_pureO hs (wants_none rfl) rfl fun L u W hG hdep => ⟨_, run_move rfl, rfl⟩
          · refine step_pureO hs (wants_none rfl) rfl fun L u W hG hdep => ⟨_, ?_, rfl⟩
            have e0 := (show u 4 = .int .i64 12 from hG 4 (hdep 4 (by kernel_rfl)))
            have e1 := (show u 5 = .int .i64 12 from hG 5 (hdep 5 (by kernel_rfl)))
            go_simp
            try simp [bne]
          · exact step_pureO hs (wants_none rfl) rfl fun L u W hG hdep => ⟨_, run_move rfl, (show u 6 = .bool true from hG 6 (hdep 6 (by kernel_rfl)))⟩
          · refine step_callO hs (wants_on 7 rfl rfl (by kernel_rfl) (fun _ => rfl)) rfl fun L u W hJ hG hL hdep K hK => ?_
            go_simp
            go_at_call 8
            (with_reducible refine (law9awake_any _).mono ?_); rintro e w1 ⟨rfl, hb⟩
            have hk := hK.out _ _ rfl hb
            exact hk
          · exact step_pick true hs (wants_none rfl) rfl rfl (fun L u W hG hdep => (show u 7 = .bool true from hG 7 (hdep 7 (by kernel_rfl)))) (fun L u W hG hdep => (show u 8 = .bool true from hG 8 (hdep 8 (by kernel_rfl))))
          · exact step_pureO hs (wants_none rfl) rfl fun L u W hG hdep => ⟨_, run_assign rfl, (show u 9 = .bool true from hG 9 (hdep 9 (by kernel_rfl)))⟩
        intro L23 u23r2 W23r2 hall hJ hG
        have hb := hJ.all rfl
        have hbel := Below.call hbel hb
        have hw7 := (IsB Y).st _ _ _ hw7 hb
        have HC61 := Lib.hid (show u23r2 6 = .bool true from hG 6 (by simp))
        have HC62 := Lib.hid (show u23r2 7 = .bool true from hG 7 (by simp))
        have HC63 := Lib.hid (show u23r2 8 = .bool true from hG 8 (by simp))
        have HC64 := Lib.hid (show u23r2 9 = .bool true from hG 9 (by simp))
        have HC6 := Lib.hid (show u23r2 10 = .bool true from hG 10 (by simp))
        have hbel0 := hbel
        clear hJ hG hall hb
        go_wp2
        go_ret
        exact ⟨by rw [HC6.out]; rfl, hbel⟩
  · have HR := Lib.hid hr
    clear hr
    have HBP : Hid (Blk w1 W1.heap.size ((List.replicate 32 (0 : UInt8)).map bV) 5) := Lib.hid (by rw [ffE_start]; exact hB)
    have hbl2 := hbl1
    clear hB
    go_upto_region 23 with (go_at_call 14; (with_reducible refine (round4 HR.out _).mono ?_); rintro e wz ⟨rfl, rfl⟩)
    clear hbl1
    have HVC := Lib.hid (ver_Y3 la lb)
    have HPL : Hid ((List.replicate 32 (0 : UInt8)).length = 32) := Lib.hid (by first | rfl | decide)
    obtain ⟨Y, hY⟩ : ∃ Y : List UInt8, Y = List.replicate 32 (0 : UInt8) := ⟨_, rfl⟩
    rw [← hY] at HVC HPL HBP
    clear hY
    have hbel : Below w.heap.size w w1 := Below.call HBW.out hbl2
    have hbel0 := hbel
    clear hbl2
    have hw7 := mkE HBP.out HPL.out
    refine wp_region_turn (fun u => (va :: vb :: Value.int IntKind.i64 k :: undef :: undef :: undef :: u 10 :: Value.slice (some { block := W1.heap.size, off := 0 }) 32 32 :: Value.int IntKind.i64 12 :: undef :: undef :: u1 0 :: u1 1 :: u1 2 :: u1 3 :: u1 4 :: u1 5 :: u1 6 :: Value.bool false :: undef :: Value.slice (some { block := W1.heap.size, off := 0 }) 32 32 :: Value.int IntKind.i64 k :: Value.int IntKind.i64 3 :: Value.bool false :: Value.bool false :: undef :: undef :: Value.bool false :: Value.bool false :: undef :: undef :: undef :: undef :: undef :: undef :: undef :: undef :: undef :: undef :: undef :: Value.bool false :: Value.bool false :: undef :: undef :: undef :: undef :: undef :: undef :: undef :: undef :: undef :: undef :: undef :: Value.bool true :: Value.bool true :: u 0 :: u 1 :: u 2 :: u 3 :: u 4 :: u 5 :: u 6 :: u 7 :: u 8 :: u 9 :: []).toArray) (Holds [.wld (IsB Y) none, .wld (IsB la) none, .wld (IsB lb) none, .wld (IsR [lb]) none, .oth (fun v => v = .int .i64 12), .oth (fun v => v = .int .i64 12), .oth (fun v => v = .bool true), .oth (fun v => v = .bool true), .oth (fun v => v = .bool true), .oth (fun v => v = .bool true), .oth (fun v => v = .bool true)] w1) (Keep [.wld (IsB Y) none, .wld (IsB la) none, .wld (IsB lb) none, .wld (IsR [lb]) none, .oth (fun v => v = .int .i64 12), .oth (fun v => v = .int .i64 12), .oth (fun v => v = .bool true), .oth (fun v => v = .bool true), .oth (fun v => v = .bool true), .oth (fun v => v = .bool true), .oth (fun v => v = .bool true)] w1) (fun k => ((undef :: undef :: undef :: undef :: undef :: undef :: undef :: undef :: undef :: undef :: u0 0 :: []) : List Value).getD k undef) ?_ (by rfl) Keep.start (holds_soft (by kernel_rfl)) ?_ ?_
    · intro u i v h
      rcases i with _ | _ | _ | _ | _ | _ | _ | _ | _ | _ | _ | i
      all_goals first | (simp [Act.put, putV]; done) | (exfalso; simp at h; omega)
    · intro hs
      refine ⟨?_, ?_, ?_, ?_, ?_, ?_, ?_, ?_, ?_, ?_, ?_, trivial⟩
      · exact step_runP hs (wants_none rfl) rfl fun L u W hJ hG hL hdep => run_moveP (.inl rfl) ((IsB Y).st _ _ _ hw7 (hJ.all rfl))
      · exact step_runP hs (wants_none rfl) rfl fun L u W hJ hG hL hdep => run_moveP (.inl rfl) ((IsB la).st _ _ _ ha (Below.call hbel (hJ.all rfl)))
      · exact step_runP hs (wants_none rfl) rfl fun L u W hJ hG hL hdep => run_moveP (.inl rfl) ((IsB lb).st _ _ _ hb (Below.call hbel (hJ.all rfl)))
      · exact step_runP hs (wants_none rfl) rfl fun L u W hJ hG hL hdep => run_rows1 rfl (holds_wld (φ := IsB lb) (hG 2 (hdep 2 (by kernel_rfl))) rfl till_none)
      · refine step_callO hs (wants_none rfl) rfl fun L u W hJ hG hL hdep K hK => ?_
        go_simp
        go_at_call 12
        (with_reducible refine (gVerifyC (l := lb) (holds_wld (φ := IsB Y) (hG 0 (hdep 0 (by kernel_rfl))) rfl till_none) (holds_wld (φ := IsB la) (hG 1 (hdep 1 (by kernel_rfl))) rfl till_none) (holds_wld (φ := IsR [lb]) (hG 3 (hdep 3 (by kernel_rfl))) rfl till_none) (by simp) (by have := T1.out; omega) (HVC.out)).mono ?_); rintro e w1 ⟨rfl, hb⟩
        have hk := hK.out _ _ rfl hb
        exact hk
      · exact step_pureO hs (wants_none rfl) rfl fun L u W hG hdep => ⟨_, run_move rfl, rfl⟩
      · refine step_pureO hs (wants_none rfl) rfl fun L u W hG hdep => ⟨_, ?_, rfl⟩
        have e0 := (show u 4 = .int .i64 12 from hG 4 (hdep 4 (by kernel_rfl)))
        have e1 := (show u 5 = .int .i64 12 from hG 5 (hdep 5 (by kernel_rfl)))
        go_simp
        try simp [bne]
      · exact step_pureO hs (wants_none rfl) rfl fun L u W hG hdep => ⟨_, run_move rfl, (show u 6 = .bool true from hG 6 (hdep 6 (by kernel_rfl)))⟩
      · refine step_callO hs (wants_on 7 rfl rfl (by kernel_rfl) (fun _ => rfl)) rfl fun L u W hJ hG hL hdep K hK => ?_
        go_simp
        go_at_call 8
        (with_reducible refine (law9awake_any _).mono ?_); rintro e w1 ⟨rfl, hb⟩
        have hk := hK.out _ _ rfl hb
        exact hk
      · exact step_pick true hs (wants_none rfl) rfl rfl (fun L u W hG hdep => (show u 7 = .bool true from hG 7 (hdep 7 (by kernel_rfl)))) (fun L u W hG hdep => (show u 8 = .bool true from hG 8 (hdep 8 (by kernel_rfl))))
      · exact step_pureO hs (wants_none rfl) rfl fun L u W hG hdep => ⟨_, run_assign rfl, (show u 9 = .bool true from hG 9 (hdep 9 (by kernel_rfl)))⟩
    intro L23 u23r3 W23r3 hall hJ hG
    have hb := hJ.all rfl
    have hbel := Below.call hbel hb
    have hw7 := (IsB Y).st _ _ _ hw7 hb
    have HC61 := Lib.hid (show u23r3 6 = .bool true from hG 6 (by simp))
    have HC62 := Lib.hid (show u23r3 7 = .bool true from hG 7 (by simp))
    have HC63 := Lib.hid (show u23r3 8 = .bool true from hG 8 (by simp))
    have HC64 := Lib.hid (show u23r3 9 = .bool true from hG 9 (by simp))
    have HC6 := Lib.hid (show u23r3 10 = .bool true from hG 10 (by simp))
    have hbel0 := hbel
    clear hJ hG hall hb
    go_wp2
    go_ret
    exact ⟨by rw [HC6.out]; rfl, hbel⟩
set_option maxRecDepth 100000 in
set_option maxHeartbeats 8000000 in
theorem edSmall_no0 {w : World} {va : Value} {la : List UInt8} {vb : Value} {lb : List UInt8} {k : Int} (ha : (IsB la).P va w) (hb : (IsB lb).P vb w) (t0 : 100 < la.length) :
    Calls Try.prog 4 #[va, vb, .int .i64 k] w fun e w' => e = .returned (.bool true) ∧ Below w.heap.size w w' := by
  have T0 := Lib.hid t0; clear t0
  have _ua := ha
  have _ub := hb
  clear _ua _ub
  go_enter Try.func4, Try.ntmps4
  have hbel : Below w.heap.size w w := Below.refl _ _
  have hbel0 := hbel
  go_upto_region 0 with fail
  refine wp_region_turn (fun u => (va :: vb :: .int .i64 k :: undef :: undef :: undef :: u 0 :: undef :: undef :: undef :: undef :: undef :: undef :: undef :: undef :: undef :: undef :: undef :: undef :: undef :: undef :: undef :: undef :: undef :: undef :: undef :: undef :: undef :: undef :: undef :: undef :: undef :: undef :: undef :: undef :: undef :: undef :: undef :: undef :: undef :: undef :: undef :: undef :: undef :: undef :: undef :: undef :: undef :: undef :: undef :: undef :: undef :: undef :: undef :: undef :: undef :: undef :: undef :: undef :: undef :: undef :: undef :: undef :: undef :: undef :: []).toArray) (Holds [.oth (fun v => v = .bool false)] w) (Keep [.oth (fun v => v = .bool false)] w) (fun _ => undef) ?_ (by rfl) Keep.start (holds_soft (by kernel_rfl)) ?_ ?_
  · intro u i v h
    rcases i with _ | i
    all_goals first | (simp [Act.put, putV]; done) | (exfalso; simp at h; omega)
  · intro hs
    refine ⟨?_, trivial⟩
    · exact step_pureO hs (wants_none rfl) rfl fun L u W hG hdep => ⟨_, run_assign rfl, rfl⟩
  intro L0 u0 W0 hall hJ hG
  have hb := hJ.all rfl
  have hbel := Below.call hbel hb
  have HC6 := Lib.hid (show u0 0 = .bool false from hG 0 (by simp))
  have hbel0 := hbel
  clear hJ hG hall hb
  go_upto_region 1 with fail
  refine wp_region_turn (fun u => (va :: vb :: .int .i64 k :: undef :: undef :: undef :: u0 0 :: undef :: undef :: undef :: undef :: u 0 :: u 1 :: u 2 :: u 3 :: u 4 :: u 5 :: u 6 :: u 7 :: undef :: undef :: undef :: undef :: undef :: undef :: undef :: undef :: undef :: undef :: undef :: undef :: undef :: undef :: undef :: undef :: undef :: undef :: undef :: undef :: undef :: undef :: undef :: undef :: undef :: undef :: undef :: undef :: undef :: undef :: undef :: undef :: undef :: undef :: undef :: undef :: undef :: undef :: undef :: undef :: undef :: undef :: undef :: undef :: undef :: undef :: []).toArray) (Holds [.wld (IsB la) none, .oth (fun v => v = .int .i64 (la.length : Int)), .oth (fun v => v = .bool true), .oth (fun v => v = .bool true), .oth (fun v => v = undef), .oth (fun v => v = undef), .oth (fun v => v = undef), .oth (fun v => v = .bool true)] W0) (Keep [.wld (IsB la) none, .oth (fun v => v = .int .i64 (la.length : Int)), .oth (fun v => v = .bool true), .oth (fun v => v = .bool true), .oth (fun v => v = undef), .oth (fun v => v = undef), .oth (fun v => v = undef), .oth (fun v => v = .bool true)] W0) (fun _ => undef) ?_ (by rfl) Keep.start (holds_soft (by kernel_rfl)) ?_ ?_
  · intro u i v h
    rcases i with _ | _ | _ | _ | _ | _ | _ | _ | i
    all_goals first | (simp [Act.put, putV]; done) | (exfalso; simp at h; omega)
  · intro hs
    refine ⟨?_, ?_, ?_, ?_, ?_, ?_, ?_, ?_, trivial⟩
    · exact step_runP hs (wants_none rfl) rfl fun L u W hJ hG hL hdep => run_moveP (.inl rfl) ((IsB la).st _ _ _ ha (Below.call hbel (hJ.all rfl)))
    · exact step_runO hs (wants_none rfl) rfl fun L u W hJ hG hL hdep => run_lenP rfl (holds_wld (φ := IsB la) (hG 0 (hdep 0 (by kernel_rfl))) rfl till_none) (rfl)
    · refine step_pureO hs (wants_none rfl) rfl fun L u W hG hdep => ⟨_, ?_, rfl⟩
      have e0 := (show u 1 = .int .i64 (la.length : Int) from hG 1 (hdep 1 (by kernel_rfl)))
      have e9 := T0.out
      have e8 := T0.out
      go_simp
      try omega
    · exact step_pureO hs (wants_none rfl) rfl fun L u W hG hdep => ⟨_, run_move rfl, (show u 2 = .bool true from hG 2 (hdep 2 (by kernel_rfl)))⟩
    · exact step_outU hs (wants_off 3 rfl rfl rfl (by kernel_rfl) (fun _ => rfl)) rfl
    · exact step_outU hs (wants_off 3 rfl rfl rfl (by kernel_rfl) (fun _ => rfl)) rfl
    · exact step_outU hs (wants_off 3 rfl rfl rfl (by kernel_rfl) (fun _ => rfl)) rfl
    · exact step_pick true hs (wants_none rfl) rfl rfl (fun L u W hG hdep => (show u 3 = .bool true from hG 3 (hdep 3 (by kernel_rfl)))) (fun L u W hG hdep => rfl)
  intro L1 u1 W1 hall hJ hG
  have hb := hJ.all rfl
  have hbel := Below.call hbel hb
  have HC13 := Lib.hid (show u1 2 = .bool true from hG 2 (by simp))
  have HC14 := Lib.hid (show u1 3 = .bool true from hG 3 (by simp))
  have HC18 := Lib.hid (show u1 7 = .bool true from hG 7 (by simp))
  have hbel0 := hbel
  clear hJ hG hall hb
  have hx : u1 7 = .bool true := HC18.out
  go_wp2_with fail
  rw [hx]
  clear hx
  go_upto_region 2 with fail
  refine wp_region_turn (fun u => (va :: vb :: .int .i64 k :: undef :: undef :: undef :: u 1 :: undef :: undef :: undef :: undef :: u1 0 :: u1 1 :: u1 2 :: u1 3 :: u1 4 :: u1 5 :: u1 6 :: .bool true :: u 0 :: undef :: undef :: undef :: undef :: undef :: undef :: undef :: undef :: undef :: undef :: undef :: undef :: undef :: undef :: undef :: undef :: undef :: undef :: undef :: undef :: undef :: undef :: undef :: undef :: undef :: undef :: undef :: undef :: undef :: undef :: undef :: undef :: undef :: undef :: undef :: undef :: undef :: undef :: undef :: undef :: undef :: undef :: undef :: undef :: undef :: []).toArray) (Holds [.oth (fun v => v = .bool true), .oth (fun v => v = .bool true)] W1) (Keep [.oth (fun v => v = .bool true), .oth (fun v => v = .bool true)] W1) (fun k => ((undef :: u0 0 :: []) : List Value).getD k undef) ?_ (by rfl) Keep.start (holds_soft (by kernel_rfl)) ?_ ?_
  · intro u i v h
    rcases i with _ | _ | i
    all_goals first | (simp [Act.put, putV]; done) | (exfalso; simp at h; omega)
  · intro hs
    refine ⟨?_, ?_, trivial⟩
    · refine step_callO hs (wants_none rfl) rfl fun L u W hJ hG hL hdep K hK => ?_
      go_simp
      go_at_call 8
      (with_reducible refine (law9awake_any _).mono ?_); rintro e w1 ⟨rfl, hb⟩
      have hk := hK.out _ _ rfl hb
      exact hk
    · exact step_pureO hs (wants_none rfl) rfl fun L u W hG hdep => ⟨_, run_assign rfl, (show u 0 = .bool true from hG 0 (hdep 0 (by kernel_rfl)))⟩
  intro L2 u2 W2 hall hJ hG
  have hb := hJ.all rfl
  have hbel := Below.call hbel hb
  have HC19 := Lib.hid (show u2 0 = .bool true from hG 0 (by simp))
  have HC6 := Lib.hid (show u2 1 = .bool true from hG 1 (by simp))
  have hbel0 := hbel
  clear hJ hG hall hb
  go_wp2
  go_ret
  exact ⟨by rw [HC6.out]; rfl, hbel⟩
set_option maxRecDepth 100000 in
set_option maxHeartbeats 8000000 in
theorem edSmall_no1 {w : World} {va : Value} {la : List UInt8} {vb : Value} {lb : List UInt8} {k : Int} (ha : (IsB la).P va w) (hb : (IsB lb).P vb w) (t0 : la.length ≤ 100) (t1 : 300 < lb.length) :
    Calls Try.prog 4 #[va, vb, .int .i64 k] w fun e w' => e = .returned (.bool true) ∧ Below w.heap.size w w' := by
  have T0 := Lib.hid t0; clear t0
  have T1 := Lib.hid t1; clear t1
  have _ua := ha
  have _ub := hb
  clear _ua _ub
  go_enter Try.func4, Try.ntmps4
  have hbel : Below w.heap.size w w := Below.refl _ _
  have hbel0 := hbel
  go_upto_region 0 with fail
  refine wp_region_turn (fun u => (va :: vb :: .int .i64 k :: undef :: undef :: undef :: u 0 :: undef :: undef :: undef :: undef :: undef :: undef :: undef :: undef :: undef :: undef :: undef :: undef :: undef :: undef :: undef :: undef :: undef :: undef :: undef :: undef :: undef :: undef :: undef :: undef :: undef :: undef :: undef :: undef :: undef :: undef :: undef :: undef :: undef :: undef :: undef :: undef :: undef :: undef :: undef :: undef :: undef :: undef :: undef :: undef :: undef :: undef :: undef :: undef :: undef :: undef :: undef :: undef :: undef :: undef :: undef :: undef :: undef :: undef :: []).toArray) (Holds [.oth (fun v => v = .bool false)] w) (Keep [.oth (fun v => v = .bool false)] w) (fun _ => undef) ?_ (by rfl) Keep.start (holds_soft (by kernel_rfl)) ?_ ?_
  · intro u i v h
    rcases i with _ | i
    all_goals first | (simp [Act.put, putV]; done) | (exfalso; simp at h; omega)
  · intro hs
    refine ⟨?_, trivial⟩
    · exact step_pureO hs (wants_none rfl) rfl fun L u W hG hdep => ⟨_, run_assign rfl, rfl⟩
  intro L0 u0 W0 hall hJ hG
  have hb := hJ.all rfl
  have hbel := Below.call hbel hb
  have HC6 := Lib.hid (show u0 0 = .bool false from hG 0 (by simp))
  have hbel0 := hbel
  clear hJ hG hall hb
  go_upto_region 1 with fail
  refine wp_region_turn (fun u => (va :: vb :: .int .i64 k :: undef :: undef :: undef :: u0 0 :: undef :: undef :: undef :: undef :: u 0 :: u 1 :: u 2 :: u 3 :: u 4 :: u 5 :: u 6 :: u 7 :: undef :: undef :: undef :: undef :: undef :: undef :: undef :: undef :: undef :: undef :: undef :: undef :: undef :: undef :: undef :: undef :: undef :: undef :: undef :: undef :: undef :: undef :: undef :: undef :: undef :: undef :: undef :: undef :: undef :: undef :: undef :: undef :: undef :: undef :: undef :: undef :: undef :: undef :: undef :: undef :: undef :: undef :: undef :: undef :: undef :: undef :: []).toArray) (Holds [.wld (IsB la) none, .oth (fun v => v = .int .i64 (la.length : Int)), .oth (fun v => v = .bool false), .oth (fun v => v = .bool false), .wld (IsB lb) none, .oth (fun v => v = .int .i64 (lb.length : Int)), .oth (fun v => v = .bool true), .oth (fun v => v = .bool true)] W0) (Keep [.wld (IsB la) none, .oth (fun v => v = .int .i64 (la.length : Int)), .oth (fun v => v = .bool false), .oth (fun v => v = .bool false), .wld (IsB lb) none, .oth (fun v => v = .int .i64 (lb.length : Int)), .oth (fun v => v = .bool true), .oth (fun v => v = .bool true)] W0) (fun _ => undef) ?_ (by rfl) Keep.start (holds_soft (by kernel_rfl)) ?_ ?_
  · intro u i v h
    rcases i with _ | _ | _ | _ | _ | _ | _ | _ | i
    all_goals first | (simp [Act.put, putV]; done) | (exfalso; simp at h; omega)
  · intro hs
    refine ⟨?_, ?_, ?_, ?_, ?_, ?_, ?_, ?_, trivial⟩
    · exact step_runP hs (wants_none rfl) rfl fun L u W hJ hG hL hdep => run_moveP (.inl rfl) ((IsB la).st _ _ _ ha (Below.call hbel (hJ.all rfl)))
    · exact step_runO hs (wants_none rfl) rfl fun L u W hJ hG hL hdep => run_lenP rfl (holds_wld (φ := IsB la) (hG 0 (hdep 0 (by kernel_rfl))) rfl till_none) (rfl)
    · refine step_pureO hs (wants_none rfl) rfl fun L u W hG hdep => ⟨_, ?_, rfl⟩
      have e0 := (show u 1 = .int .i64 (la.length : Int) from hG 1 (hdep 1 (by kernel_rfl)))
      have e9 := T0.out
      have e8 := T1.out
      go_simp
      try omega
    · exact step_pureO hs (wants_none rfl) rfl fun L u W hG hdep => ⟨_, run_move rfl, (show u 2 = .bool false from hG 2 (hdep 2 (by kernel_rfl)))⟩
    · exact step_runP hs (wants_on 3 rfl rfl (by kernel_rfl) (fun _ => rfl)) rfl fun L u W hJ hG hL hdep => run_moveP (.inl rfl) ((IsB lb).st _ _ _ hb (Below.call hbel (hJ.all rfl)))
    · exact step_runO hs (wants_on 3 rfl rfl (by kernel_rfl) (fun _ => rfl)) rfl fun L u W hJ hG hL hdep => run_lenP rfl (holds_wld (φ := IsB lb) (hG 4 (hdep 4 (by kernel_rfl))) rfl till_none) (rfl)
    · refine step_pureO hs (wants_on 3 rfl rfl (by kernel_rfl) (fun _ => rfl)) rfl fun L u W hG hdep => ⟨_, ?_, rfl⟩
      have e0 := (show u 5 = .int .i64 (lb.length : Int) from hG 5 (hdep 5 (by kernel_rfl)))
      have e9 := T0.out
      have e8 := T1.out
      go_simp
      try omega
    · exact step_pick false hs (wants_none rfl) rfl rfl (fun L u W hG hdep => (show u 3 = .bool false from hG 3 (hdep 3 (by kernel_rfl)))) (fun L u W hG hdep => (show u 6 = .bool true from hG 6 (hdep 6 (by kernel_rfl))))
  intro L1 u1 W1 hall hJ hG
  have hb := hJ.all rfl
  have hbel := Below.call hbel hb
  have HC13 := Lib.hid (show u1 2 = .bool false from hG 2 (by simp))
  have HC14 := Lib.hid (show u1 3 = .bool false from hG 3 (by simp))
  have HC17 := Lib.hid (show u1 6 = .bool true from hG 6 (by simp))
  have HC18 := Lib.hid (show u1 7 = .bool true from hG 7 (by simp))
  have hbel0 := hbel
  clear hJ hG hall hb
  have hx : u1 7 = .bool true := HC18.out
  go_wp2_with fail
  rw [hx]
  clear hx
  go_upto_region 2 with fail
  refine wp_region_turn (fun u => (va :: vb :: .int .i64 k :: undef :: undef :: undef :: u 1 :: undef :: undef :: undef :: undef :: u1 0 :: u1 1 :: u1 2 :: u1 3 :: u1 4 :: u1 5 :: u1 6 :: .bool true :: u 0 :: undef :: undef :: undef :: undef :: undef :: undef :: undef :: undef :: undef :: undef :: undef :: undef :: undef :: undef :: undef :: undef :: undef :: undef :: undef :: undef :: undef :: undef :: undef :: undef :: undef :: undef :: undef :: undef :: undef :: undef :: undef :: undef :: undef :: undef :: undef :: undef :: undef :: undef :: undef :: undef :: undef :: undef :: undef :: undef :: undef :: []).toArray) (Holds [.oth (fun v => v = .bool true), .oth (fun v => v = .bool true)] W1) (Keep [.oth (fun v => v = .bool true), .oth (fun v => v = .bool true)] W1) (fun k => ((undef :: u0 0 :: []) : List Value).getD k undef) ?_ (by rfl) Keep.start (holds_soft (by kernel_rfl)) ?_ ?_
  · intro u i v h
    rcases i with _ | _ | i
    all_goals first | (simp [Act.put, putV]; done) | (exfalso; simp at h; omega)
  · intro hs
    refine ⟨?_, ?_, trivial⟩
    · refine step_callO hs (wants_none rfl) rfl fun L u W hJ hG hL hdep K hK => ?_
      go_simp
      go_at_call 8
      (with_reducible refine (law9awake_any _).mono ?_); rintro e w1 ⟨rfl, hb⟩
      have hk := hK.out _ _ rfl hb
      exact hk
    · exact step_pureO hs (wants_none rfl) rfl fun L u W hG hdep => ⟨_, run_assign rfl, (show u 0 = .bool true from hG 0 (hdep 0 (by kernel_rfl)))⟩
  intro L2 u2 W2 hall hJ hG
  have hb := hJ.all rfl
  have hbel := Below.call hbel hb
  have HC19 := Lib.hid (show u2 0 = .bool true from hG 0 (by simp))
  have HC6 := Lib.hid (show u2 1 = .bool true from hG 1 (by simp))
  have hbel0 := hbel
  clear hJ hG hall hb
  go_wp2
  go_ret
  exact ⟨by rw [HC6.out]; rfl, hbel⟩
theorem edSmall_any {a0 : Option Addr} {n0 cap0 : Nat} {la : List UInt8} {a1 : Option Addr} {n1 cap1 : Nat} {lb : List UInt8} {k : Int} (w : World) (ha : RdB w a0 n0 cap0 la) (hb : RdB w a1 n1 cap1 lb) (_hwk : (Lit.int .i64 k).wf = true) :
    Calls Try.prog 4 #[.slice a0 n0 cap0, .slice a1 n1 cap1, .int .i64 k] w fun e w' => e = .returned (.bool true) ∧ Below w.heap.size w w' := by
  by_cases t0 : la.length ≤ 100
  rotate_left
  · exact edSmall_no0 (IsB.mk ha) (IsB.mk hb)  (Nat.lt_of_not_le t0)
  by_cases t1 : lb.length ≤ 300
  rotate_left
  · exact edSmall_no1 (IsB.mk ha) (IsB.mk hb) t0 (Nat.lt_of_not_le t1)
  exact edSmall_few (IsB.mk ha) (IsB.mk hb) t0 t1
namespace edSmallDone
theorem own : ownKnob Try.prog.godebug = none := by kernel_rfl
theorem laidOut : laidOutB Try.prog = true := by kernel_rfl
set_option maxRecDepth 100000 in
theorem lifted (os : Os) (started : os.Started) (H : Type) (enc : TypeId × Value → H) :
    ReturnsInHanded {} Try.checked os 4 .any (Rows.edSmallSpec.pre6 enc Try.prog Try.f4 Rows.edSmallRow.domain false) (Rows.edSmallSpec.post enc Try.prog Try.f4 false true false false) := by
  refine returnsInHanded_of_change (C := Try.checked) own started (by kernel_rfl) Try.func4
    (ChangeSpec.witness6 (enc := enc) (C := Try.checked) false ⟨#[], #[.slice none 0 0, .slice none 0 0, .int .i64 0], []⟩ 8 (by kernel_rfl) (by kernel_rfl) (by kernel_rfl) (by kernel_rfl)) ?_
  intro W base args ds gs before hval0 hW hcnd _
  have hval : ∀ (j : Nat) t v, Try.f4.params[j]? = some t → args[j]? = some v → Value.okWide Try.prog W .any base t v := hval0
  have hW' := hW
  obtain ⟨p, q, hA0, hV, rfl, hfz, hnd⟩ := hW
  have hA : DataW.TrodAll enc Try.prog W 0 (fun _ => true) true Try.f4.params.toList args.toList ds p := hA0
  rw [Try.params4] at hA hval
  obtain ⟨v0, vs0, d0, ds0, p0, q0, hargs, rfl, rfl, h0, r0⟩ := trodAll_cons hA
  obtain ⟨v1, vs1, d1, ds1, p1, q1, rfl, rfl, rfl, h1, r1⟩ := trodAll_cons r0
  obtain ⟨v2, vs2, d2, ds2, p2, q2, rfl, rfl, rfl, h2, r2⟩ := trodAll_cons r1
  obtain ⟨rfl, rfl, rfl⟩ := trodAll_nil r2
  obtain rfl : args = #[v0, v1, v2] := by cases args; simp_all
  obtain ⟨rfl, rfl⟩ := trodVars_none hV
  obtain ⟨a0, len0, cap0, rfl⟩ := okWide_slice Try.underlying22 (hval 0 22 v0 rfl rfl)
  have k0 := h0
  have lt0 : ∀ x ∈ p0, x.block < W.heap.size := by obtain ⟨m, hm⟩ := k0; exact DataW.trod_lt m _ _ _ hm
  obtain ⟨l0, w0⟩ : ∃ l, RdB W a0 len0 cap0 l := by
    obtain ⟨fuel, hf⟩ := h0
    rcases open_ints Try.underlying22 Try.underlying5 (by kernel_rfl) hf with ⟨hcs, _⟩ | ⟨x, l, c, zs, hcs, _, hl, hm, hz, _, hcell, hwz⟩
    · simp [Value.cells] at hcs
      obtain ⟨rfl, rfl, rfl⟩ := hcs
      exact ⟨[], RdB.nil _⟩
    · simp [Value.cells] at hcs
      obtain ⟨rfl, rfl, rfl⟩ := hcs
      exact RdB.of_ints (.inr ⟨_, rfl, hl, hm, by simpa using hz, hcell, hwz⟩)
  obtain ⟨a1, len1, cap1, rfl⟩ := okWide_slice Try.underlying22 (hval 1 22 v1 rfl rfl)
  have k1 := h1
  have lt1 : ∀ x ∈ p1, x.block < W.heap.size := by obtain ⟨m, hm⟩ := k1; exact DataW.trod_lt m _ _ _ hm
  obtain ⟨l1, w1⟩ : ∃ l, RdB W a1 len1 cap1 l := by
    obtain ⟨fuel, hf⟩ := h1
    rcases open_ints Try.underlying22 Try.underlying5 (by kernel_rfl) hf with ⟨hcs, _⟩ | ⟨x, l, c, zs, hcs, _, hl, hm, hz, _, hcell, hwz⟩
    · simp [Value.cells] at hcs
      obtain ⟨rfl, rfl, rfl⟩ := hcs
      exact ⟨[], RdB.nil _⟩
    · simp [Value.cells] at hcs
      obtain ⟨rfl, rfl, rfl⟩ := hcs
      exact RdB.of_ints (.inr ⟨_, rfl, hl, hm, by simpa using hz, hcell, hwz⟩)
  obtain ⟨a2, rfl, rfl, rfl, w2⟩ := open_int Try.underlying3 (hval 2 3 v2 rfl rfl) h2
  clear hA0 hval0
  refine (edSmall_any W w0 w1 w2).mono fun e W' ⟨he, bel⟩ => ?_
  subst he
  exact ⟨_, rfl, _, _, _, [], _, [], hW', trodAll_mk1 (shut_bool Try.underlying4 _), (trodAll_cons_mk (Below.trod laidOut (by kernel_rfl) (of_decide_eq_true (by kernel_rfl)) k0 bel lt0) (trodAll_cons_mk (Below.trod laidOut (by kernel_rfl) (of_decide_eq_true (by kernel_rfl)) k1 bel lt1) (trodAll_cons_mk (shut_int Try.underlying3 w2) trodAll_mk0))), rfl, bel.frame _, fun h => by cases h⟩
theorem over : Rows.edSmallRow.holds Try.pinned (OpenSpec.ofChange Rows.edSmallSpec) :=
  OpenClaim.holds_of_wide 4 Try.f4 rfl rfl rfl rfl rfl rfl rfl ⟨rfl, rfl, rfl, rfl, rfl⟩ rfl rfl rfl rfl rfl (by kernel_rfl) Try.func4 (by kernel_rfl)
    (of_decide_eq_true (by kernel_rfl)) (by unfold Func.isWrapper; first | (rw [if_pos (by decide +kernel)]; kernel_rfl) | (rw [if_neg (by decide +kernel)]; exact ⟨rfl, rfl⟩))
    (fun os started H enc _ => lifted os started H enc)
theorem proved : Rows.EdSmallSaid := over
#print axioms proved
end edSmallDone

end Go.Proofs.Ytielgpefoameiaa
