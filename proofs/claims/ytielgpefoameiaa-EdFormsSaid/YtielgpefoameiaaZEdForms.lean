/- Of chapter 9, EdForms: for every input the law returns true, and each argument reads behind the call as it read before. No condition. -/
import Derived.Test.YtielgpefoameiaaZEBF
import Derived.ProofKit
import Derived.ShutString
import Derived.ChangeOld
namespace Go.Proofs.Ytielgpefoameiaa
open Go Go.ChangeShapes Go.WideShapes Go.ChangeAt Go.RowKit
open Go.ChangeMaps (open_string shut_string)

theorem mkN {w w' : World} {l : List UInt8} {e : Ending} {B : Nat} (hB : B ≤ w.heap.size) (h : NewBy w l e w') : ∃ r, e = .returned r ∧ (NwB B l).P r w' ∧ Below w.heap.size w w' := NwB.new hB h
theorem NwB.lt {B : Nat} {l : List UInt8} {v : Value} {w : World} (h : (NwB B l).P v w) : ∃ g n c, v = .slice (some ⟨g, 0, none⟩) n c ∧ g < w.heap.size := by
  obtain ⟨g, n, c, r, e, _, hB, _⟩ := h
  exact ⟨g, n, c, e, hB.lt⟩
/-- The world is one behind W. -/
def BelW (W : World) : WP := ⟨fun _ w => Below W.heap.size W w, fun _ _ _ h hb => Below.call h hb⟩
theorem BelW.start (W : World) : (BelW W).P undef W := Below.refl _ _
set_option maxRecDepth 100000 in
theorem rOrder9 (w : World) : Calls Try.prog 15 #[] w (NewBy w (leB 32 Lq)) := by
  have hrd : ∀ W : World, ∀ g, Blk W g (row 32 (uV (bR 32 Lq))) 5 → RdB W (some ⟨g, 0, none⟩) 32 32 ((leB 32 Lq).reverse) := fun W g h => rdRow h (by unfold maxLen; omega)
  have HRD := Lib.hid hrd
  clear hrd
  go_enter Try.func15, Try.ntmps15
  go_wp2_with (first | (go_at_call 31; go_must (refine (rorder_any _).mono ?_; rintro e w1 ⟨rfl, hP, hb⟩; have hR := HRD.out _ _ hP; clear hP))     | (go_at_call 30; go_must (refine (rturned_any _ hR (by omega) (by omega)).mono ?_; intro e w2 hN; rw [List.reverse_reverse] at hN; have hN2 := Lib.hid (NewBy.on hN hb); clear hN hR; obtain ⟨g, n', cap', r, he, hr⟩ := hN2.out; subst he)))
  go_ret
  exact hN2.out
theorem gOrder {B : Nat} {w : World} (hB : B ≤ w.heap.size) : Calls Try.prog 15 #[] w fun e w' => ∃ r, e = .returned r ∧ (NwB B (leB 32 Lq)).P r w' ∧ Below w.heap.size w w' := (rOrder9 w).mono fun _ _ h => mkN hB h
/-- Bytes of y, then of x. -/
def mixV (x y j i : Nat) : Value := .int .u8 ((if i < j then dB y i else dB x i : Nat) : Nat)
theorem leB_row9 (x : Nat) : (leB 32 x).map bV = row 32 (fun i => .int .u8 (dB x i : Nat)) := by
  apply List.ext_getElem
  · simp [row, leB_len]
  · intro i h1 h2
    have hi : i < 32 := by simpa [row] using h2
    simp only [row, List.getElem_map, List.getElem_range, leB_get, bV, UInt8.toNat_ofNat', dB]
    rw [p256]
theorem mixE_start (x y : Nat) : (leB 32 x).map bV = row 32 (mixV x y 0) := by
  rw [leB_row9]; exact row_ext fun i _ => by unfold mixV; rw [if_neg (by omega)]
theorem mixE_full (x y : Nat) : row 32 (mixV x y 32) = (leB 32 y).map bV := by
  rw [leB_row9]; exact row_ext fun i hi => by unfold mixV; rw [if_pos hi]
theorem mixE_step (x y j : Nat) : (row 32 (mixV x y j)).set j (.int .u8 (dB y j : Nat)) = row 32 (mixV x y (j + 1)) := by
  refine row_set j _ (by simp [mixV]) (fun i _ hi => ?_)
  unfold mixV
  by_cases h : i < j
  · rw [if_pos h, if_pos (by omega)]
  · rw [if_neg h, if_neg (by omega)]
theorem mixE_cell {w : World} {g E j : Nat} {A r : List Value} {f : Nat → Value} (h : Blk w g (A ++ (row 32 f ++ r)) E) (hA : A.length = 32) (hj : j < 32) : w.cell? ⟨g, 32 + j, none⟩ = some (f j) := by
  rw [h.cell, List.getElem?_append_right (by omega), hA, Nat.add_sub_cancel_left, List.getElem?_append_left (by rw [row_len]; exact hj), row_get hj]
theorem mixE_set {A r : List Value} {x y j : Nat} (hA : A.length = 32) (hj : j < 32) : (A ++ (row 32 (mixV x y j) ++ r)).set (32 + j) (.int .u8 (dB y j : Nat)) = A ++ (row 32 (mixV x y (j + 1)) ++ r) := by
  rw [List.set_append_right _ _ (by omega), hA, Nat.add_sub_cancel_left, List.set_append_left _ _ (by rw [row_len]; exact hj), mixE_step]
theorem leB_cell9 {w : World} {g E x i : Nat} {r : List Value} (h : Blk w g ((leB 32 x).map bV ++ r) E) (hi : i < 32) : w.cell? ⟨g, i, none⟩ = some (.int .u8 (dB x i : Nat)) := by
  rw [leB_row9] at h
  rw [h.cell, List.getElem?_append_left (by rw [row_len]; exact hi), row_get hi]
/-- A signature with L added. -/
def plusSig (seed l : List UInt8) : List UInt8 := edR (edP seed) l ++ leB 32 ((edS (edA seed) (edP seed) (edPub seed) l).val + Lq)
theorem ver_plusC (seed l : List UInt8) : verC (edPub seed) (plusSig seed l) l = 3 := ver_plus seed l
theorem plusSig_len (seed l : List UInt8) : (plusSig seed l).length = 64 := by unfold plusSig; rw [List.length_append, edR_len, leB_len]
theorem sig_mix (seed l : List UInt8) : (edSig seed l).map bV = (edR (edP seed) l).map bV ++ row 32 (mixV (edS (edA seed) (edP seed) (edPub seed) l).val ((edS (edA seed) (edP seed) (edPub seed) l).val + Lq) 0) := by
  rw [← mixE_start]; unfold edSig; rw [edSign_eq, List.map_append]
theorem plus_mix (seed l : List UInt8) : (plusSig seed l).map bV = (edR (edP seed) l).map bV ++ row 32 (mixV (edS (edA seed) (edP seed) (edPub seed) l).val ((edS (edA seed) (edP seed) (edPub seed) l).val + Lq) 32) := by
  rw [mixE_full]; unfold plusSig; rw [List.map_append]

set_option maxRecDepth 100000 in
set_option maxHeartbeats 8000000 in
theorem edForms_few {w : World} {va : Value} {la : List UInt8} {vb : Value} {lb : List UInt8} (ha : (IsB la).P va w) (hb : (IsB lb).P vb w) (t0 : la.length = 32) (t1 : lb.length ≤ 300) :
    Calls Try.prog 5 #[va, vb] w fun e w' => e = .returned (.bool true) ∧ Below w.heap.size w w' := by
  have T0 := Lib.hid t0; clear t0
  have T1 := Lib.hid t1; clear t1
  go_enter Try.func5, Try.ntmps5
  have hbel : Below w.heap.size w w := Below.refl _ _
  have hbel0 := hbel
  go_upto_region 0 with fail
  refine wp_region_turn (fun u => (va :: vb :: undef :: undef :: u 0 :: undef :: undef :: undef :: undef :: undef :: undef :: undef :: undef :: undef :: undef :: undef :: undef :: undef :: undef :: undef :: undef :: undef :: undef :: undef :: undef :: undef :: undef :: undef :: undef :: undef :: undef :: undef :: undef :: undef :: undef :: undef :: undef :: undef :: undef :: undef :: undef :: undef :: undef :: undef :: undef :: undef :: undef :: undef :: undef :: undef :: undef :: undef :: undef :: undef :: undef :: undef :: undef :: undef :: undef :: undef :: undef :: undef :: undef :: undef :: undef :: undef :: undef :: undef :: undef :: undef :: undef :: undef :: undef :: undef :: undef :: undef :: undef :: undef :: undef :: undef :: undef :: undef :: undef :: undef :: undef :: undef :: undef :: undef :: undef :: undef :: undef :: undef :: undef :: undef :: undef :: undef :: undef :: undef :: undef :: undef :: undef :: undef :: undef :: undef :: undef :: undef :: undef :: undef :: undef :: []).toArray) (Holds [.oth (fun v => v = .bool false)] w) (Keep [.oth (fun v => v = .bool false)] w) (fun _ => undef) ?_ (by rfl) Keep.start (holds_soft (by kernel_rfl)) ?_ ?_
  · intro u i v h
    rcases i with _ | i
    all_goals first | (simp [Act.put, putV]; done) | (exfalso; simp at h; omega)
  · intro hs
    refine ⟨?_, trivial⟩
    · exact step_pureO hs (wants_none rfl) rfl fun L u W hG hdep => ⟨_, run_assign rfl, rfl⟩
  intro L0 u0 W0 hall hJ hG
  have hb := hJ.all rfl
  have hbel := Below.call hbel hb
  have HC4 := Lib.hid (show u0 0 = .bool false from hG 0 (by simp))
  have hbel0 := hbel
  clear hJ hG hall hb
  go_upto_region 1 with fail
  refine wp_region_turn (fun u => (va :: vb :: undef :: undef :: u0 0 :: undef :: undef :: undef :: undef :: undef :: undef :: undef :: undef :: undef :: undef :: u 0 :: u 1 :: u 2 :: u 3 :: u 4 :: u 5 :: u 6 :: u 7 :: undef :: undef :: undef :: undef :: undef :: undef :: undef :: undef :: undef :: undef :: undef :: undef :: undef :: undef :: undef :: undef :: undef :: undef :: undef :: undef :: undef :: undef :: undef :: undef :: undef :: undef :: undef :: undef :: undef :: undef :: undef :: undef :: undef :: undef :: undef :: undef :: undef :: undef :: undef :: undef :: undef :: undef :: undef :: undef :: undef :: undef :: undef :: undef :: undef :: undef :: undef :: undef :: undef :: undef :: undef :: undef :: undef :: undef :: undef :: undef :: undef :: undef :: undef :: undef :: undef :: undef :: undef :: undef :: undef :: undef :: undef :: undef :: undef :: undef :: undef :: undef :: undef :: undef :: undef :: undef :: undef :: undef :: undef :: undef :: undef :: undef :: []).toArray) (Holds [.wld (IsB la) none, .oth (fun v => v = .int .i64 32), .oth (fun v => v = .bool false), .oth (fun v => v = .bool false), .wld (IsB lb) none, .oth (fun v => v = .int .i64 (lb.length : Int)), .oth (fun v => v = .bool false), .oth (fun v => v = .bool false)] W0) (Keep [.wld (IsB la) none, .oth (fun v => v = .int .i64 32), .oth (fun v => v = .bool false), .oth (fun v => v = .bool false), .wld (IsB lb) none, .oth (fun v => v = .int .i64 (lb.length : Int)), .oth (fun v => v = .bool false), .oth (fun v => v = .bool false)] W0) (fun _ => undef) ?_ (by rfl) Keep.start (holds_soft (by kernel_rfl)) ?_ ?_
  · intro u i v h
    rcases i with _ | _ | _ | _ | _ | _ | _ | _ | i
    all_goals first | (simp [Act.put, putV]; done) | (exfalso; simp at h; omega)
  · intro hs
    refine ⟨?_, ?_, ?_, ?_, ?_, ?_, ?_, ?_, trivial⟩
    · exact step_runP hs (wants_none rfl) rfl fun L u W hJ hG hL hdep => run_moveP (.inl rfl) ((IsB la).st _ _ _ ha (Below.call hbel (hJ.all rfl)))
    · exact step_runO hs (wants_none rfl) rfl fun L u W hJ hG hL hdep => run_lenP rfl (holds_wld (φ := IsB la) (hG 0 (hdep 0 (by kernel_rfl))) rfl till_none) (by rw [T0.out]; rfl)
    · refine step_pureO hs (wants_none rfl) rfl fun L u W hG hdep => ⟨_, ?_, rfl⟩
      have e0 := (show u 1 = .int .i64 32 from hG 1 (hdep 1 (by kernel_rfl)))
      go_simp
      try simp [bne]
    · exact step_pureO hs (wants_none rfl) rfl fun L u W hG hdep => ⟨_, run_move rfl, (show u 2 = .bool false from hG 2 (hdep 2 (by kernel_rfl)))⟩
    · exact step_runP hs (wants_on 3 rfl rfl (by kernel_rfl) (fun _ => rfl)) rfl fun L u W hJ hG hL hdep => run_moveP (.inl rfl) ((IsB lb).st _ _ _ hb (Below.call hbel (hJ.all rfl)))
    · exact step_runO hs (wants_on 3 rfl rfl (by kernel_rfl) (fun _ => rfl)) rfl fun L u W hJ hG hL hdep => run_lenP rfl (holds_wld (φ := IsB lb) (hG 4 (hdep 4 (by kernel_rfl))) rfl till_none) (rfl)
    · refine step_pureO hs (wants_on 3 rfl rfl (by kernel_rfl) (fun _ => rfl)) rfl fun L u W hG hdep => ⟨_, ?_, rfl⟩
      have e0 := (show u 5 = .int .i64 (lb.length : Int) from hG 5 (hdep 5 (by kernel_rfl)))
      have e9 := T1.out
      go_simp
      try omega
    · exact step_pick false hs (wants_none rfl) rfl rfl (fun L u W hG hdep => (show u 3 = .bool false from hG 3 (hdep 3 (by kernel_rfl)))) (fun L u W hG hdep => (show u 6 = .bool false from hG 6 (hdep 6 (by kernel_rfl))))
  intro L1 u1 W1 hall hJ hG
  have hb := hJ.all rfl
  have hbel := Below.call hbel hb
  have HC17 := Lib.hid (show u1 2 = .bool false from hG 2 (by simp))
  have HC18 := Lib.hid (show u1 3 = .bool false from hG 3 (by simp))
  have HC21 := Lib.hid (show u1 6 = .bool false from hG 6 (by simp))
  have HC22 := Lib.hid (show u1 7 = .bool false from hG 7 (by simp))
  have hbel0 := hbel
  clear hJ hG hall hb
  have hx : u1 7 = .bool false := HC22.out
  go_wp2_with fail
  rw [hx]
  clear hx
  go_upto_region 3 with fail
  refine wp_region_turn (fun u => (va :: vb :: undef :: undef :: u0 0 :: u 5 :: u 6 :: undef :: undef :: undef :: undef :: undef :: undef :: undef :: undef :: u1 0 :: u1 1 :: u1 2 :: u1 3 :: u1 4 :: u1 5 :: u1 6 :: .bool false :: undef :: u 2 :: u 0 :: u 1 :: u 3 :: u 4 :: undef :: undef :: undef :: undef :: undef :: undef :: undef :: undef :: undef :: undef :: undef :: undef :: undef :: undef :: undef :: undef :: undef :: undef :: undef :: undef :: undef :: undef :: undef :: undef :: undef :: undef :: undef :: undef :: undef :: undef :: undef :: undef :: undef :: undef :: undef :: undef :: undef :: undef :: undef :: undef :: undef :: undef :: undef :: undef :: undef :: undef :: undef :: undef :: undef :: undef :: undef :: undef :: undef :: undef :: undef :: undef :: undef :: undef :: undef :: undef :: undef :: undef :: undef :: undef :: undef :: undef :: undef :: undef :: undef :: undef :: undef :: undef :: undef :: undef :: undef :: undef :: undef :: undef :: undef :: undef :: []).toArray) (Holds [.wld (IsB la) none, .wld (TwV (IsB (edPub la)) (.int .i64 0)) none, .wld (TwV (IsB (edPub la)) (.int .i64 0)) none, .wld (IsB (edPub la)) none, .oth (fun v => v = .int .i64 0), .wld (IsB (edPub la)) none, .oth (fun v => v = .int .i64 0)] W1) (Keep [.wld (IsB la) none, .wld (TwV (IsB (edPub la)) (.int .i64 0)) none, .wld (TwV (IsB (edPub la)) (.int .i64 0)) none, .wld (IsB (edPub la)) none, .oth (fun v => v = .int .i64 0), .wld (IsB (edPub la)) none, .oth (fun v => v = .int .i64 0)] W1) (fun _ => undef) ?_ (by rfl) Keep.start (holds_soft (by kernel_rfl)) ?_ ?_
  · intro u i v h
    rcases i with _ | _ | _ | _ | _ | _ | _ | i
    all_goals first | (simp [Act.put, putV]; done) | (exfalso; simp at h; omega)
  · intro hs
    refine ⟨?_, ?_, ?_, ?_, ?_, ?_, ?_, trivial⟩
    · exact step_runP hs (wants_none rfl) rfl fun L u W hJ hG hL hdep => run_moveP (.inl rfl) ((IsB la).st _ _ _ ha (Below.call hbel (hJ.all rfl)))
    · refine step_callP hs (wants_none rfl) rfl fun L u W hJ hG hL hdep K hK => ?_
      go_simp
      go_at_call 9
      (with_reducible refine (gPublicW (holds_wld (φ := IsB la) (hG 0 (hdep 0 (by kernel_rfl))) rfl till_none) (T0.out)).mono ?_); rintro e w1 ⟨r, rfl, hr, hb⟩
      have hk := hK.out _ _ hr hb
      exact hk
    · exact step_runP hs (wants_none rfl) rfl fun L u W hJ hG hL hdep => run_moveP (.inl rfl) (holds_wld (φ := TwV (IsB (edPub la)) (.int .i64 0)) (hG 1 (hdep 1 (by kernel_rfl))) rfl till_none)
    · exact step_runP hs (wants_none rfl) rfl fun L u W hJ hG hL hdep => run_tw0 rfl (holds_wld (φ := TwV (IsB (edPub la)) (.int .i64 0)) (hG 2 (hdep 2 (by kernel_rfl))) rfl till_none)
    · exact step_runO hs (wants_none rfl) rfl fun L u W hJ hG hL hdep => run_tw1 rfl (holds_wld (φ := TwV (IsB (edPub la)) (.int .i64 0)) (hG 2 (hdep 2 (by kernel_rfl))) rfl till_none)
    · exact step_runP hs (wants_none rfl) rfl fun L u W hJ hG hL hdep => run_moveP (.inr rfl) (holds_wld (φ := IsB (edPub la)) (hG 3 (hdep 3 (by kernel_rfl))) rfl till_none)
    · exact step_pureO hs (wants_none rfl) rfl fun L u W hG hdep => ⟨_, run_assign rfl, (show u 4 = .int .i64 0 from hG 4 (hdep 4 (by kernel_rfl)))⟩
  intro L3 u3 W3 hall hJ hG
  have hb := hJ.all rfl
  have hbel := Below.call hbel hb
  have hw5 := holds_wld (φ := IsB (edPub la)) (hG 5 (by simp)) rfl till_none
  have HC6 := Lib.hid (show u3 6 = .int .i64 0 from hG 6 (by simp))
  have hbel0 := hbel
  clear hJ hG hall hb
  go_upto_region 4 with fail
  refine wp_region_turn (fun u => (va :: vb :: undef :: undef :: u0 0 :: u3 5 :: u3 6 :: u 7 :: u 8 :: undef :: undef :: undef :: undef :: undef :: undef :: u1 0 :: u1 1 :: u1 2 :: u1 3 :: u1 4 :: u1 5 :: u1 6 :: .bool false :: undef :: u3 2 :: u3 0 :: u3 1 :: u3 3 :: u3 4 :: u 4 :: u 0 :: u 1 :: u 2 :: u 3 :: u 5 :: u 6 :: undef :: undef :: undef :: undef :: undef :: undef :: undef :: undef :: undef :: undef :: undef :: undef :: undef :: undef :: undef :: undef :: undef :: undef :: undef :: undef :: undef :: undef :: undef :: undef :: undef :: undef :: undef :: undef :: undef :: undef :: undef :: undef :: undef :: undef :: undef :: undef :: undef :: undef :: undef :: undef :: undef :: undef :: undef :: undef :: undef :: undef :: undef :: undef :: undef :: undef :: undef :: undef :: undef :: undef :: undef :: undef :: undef :: undef :: undef :: undef :: undef :: undef :: undef :: undef :: undef :: undef :: undef :: undef :: undef :: undef :: undef :: undef :: undef :: []).toArray) (Holds [.wld (IsB la) none, .wld (IsB lb) none, .wld (IsR [lb]) none, .wld (TwV (IsB (edSig la lb)) (.int .i64 0)) none, .wld (TwV (IsB (edSig la lb)) (.int .i64 0)) none, .wld (IsB (edSig la lb)) none, .oth (fun v => v = .int .i64 0), .wld (IsB (edSig la lb)) none, .oth (fun v => v = .int .i64 0)] W3) (Keep [.wld (IsB la) none, .wld (IsB lb) none, .wld (IsR [lb]) none, .wld (TwV (IsB (edSig la lb)) (.int .i64 0)) none, .wld (TwV (IsB (edSig la lb)) (.int .i64 0)) none, .wld (IsB (edSig la lb)) none, .oth (fun v => v = .int .i64 0), .wld (IsB (edSig la lb)) none, .oth (fun v => v = .int .i64 0)] W3) (fun _ => undef) ?_ (by rfl) Keep.start (holds_soft (by kernel_rfl)) ?_ ?_
  · intro u i v h
    rcases i with _ | _ | _ | _ | _ | _ | _ | _ | _ | i
    all_goals first | (simp [Act.put, putV]; done) | (exfalso; simp at h; omega)
  · intro hs
    refine ⟨?_, ?_, ?_, ?_, ?_, ?_, ?_, ?_, ?_, trivial⟩
    · exact step_runP hs (wants_none rfl) rfl fun L u W hJ hG hL hdep => run_moveP (.inl rfl) ((IsB la).st _ _ _ ha (Below.call hbel (hJ.all rfl)))
    · exact step_runP hs (wants_none rfl) rfl fun L u W hJ hG hL hdep => run_moveP (.inl rfl) ((IsB lb).st _ _ _ hb (Below.call hbel (hJ.all rfl)))
    · exact step_runP hs (wants_none rfl) rfl fun L u W hJ hG hL hdep => run_rows1 rfl (holds_wld (φ := IsB lb) (hG 1 (hdep 1 (by kernel_rfl))) rfl till_none)
    · refine step_callP hs (wants_none rfl) rfl fun L u W hJ hG hL hdep K hK => ?_
      go_simp
      go_at_call 10
      (with_reducible refine (gSignW (l := lb) (holds_wld (φ := IsB la) (hG 0 (hdep 0 (by kernel_rfl))) rfl till_none) (holds_wld (φ := IsR [lb]) (hG 2 (hdep 2 (by kernel_rfl))) rfl till_none) (by simp) (by have := T1.out; omega) (T0.out)).mono ?_); rintro e w1 ⟨r, rfl, hr, hb⟩
      have hk := hK.out _ _ hr hb
      exact hk
    · exact step_runP hs (wants_none rfl) rfl fun L u W hJ hG hL hdep => run_moveP (.inl rfl) (holds_wld (φ := TwV (IsB (edSig la lb)) (.int .i64 0)) (hG 3 (hdep 3 (by kernel_rfl))) rfl till_none)
    · exact step_runP hs (wants_none rfl) rfl fun L u W hJ hG hL hdep => run_tw0 rfl (holds_wld (φ := TwV (IsB (edSig la lb)) (.int .i64 0)) (hG 4 (hdep 4 (by kernel_rfl))) rfl till_none)
    · exact step_runO hs (wants_none rfl) rfl fun L u W hJ hG hL hdep => run_tw1 rfl (holds_wld (φ := TwV (IsB (edSig la lb)) (.int .i64 0)) (hG 4 (hdep 4 (by kernel_rfl))) rfl till_none)
    · exact step_runP hs (wants_none rfl) rfl fun L u W hJ hG hL hdep => run_moveP (.inr rfl) (holds_wld (φ := IsB (edSig la lb)) (hG 5 (hdep 5 (by kernel_rfl))) rfl till_none)
    · exact step_pureO hs (wants_none rfl) rfl fun L u W hG hdep => ⟨_, run_assign rfl, (show u 6 = .int .i64 0 from hG 6 (hdep 6 (by kernel_rfl)))⟩
  intro L4 u4 W4 hall hJ hG
  have hb := hJ.all rfl
  have hbel := Below.call hbel hb
  have hw5 := (IsB (edPub la)).st _ _ _ hw5 hb
  have hw7 := holds_wld (φ := IsB (edSig la lb)) (hG 7 (by simp)) rfl till_none
  have HC8 := Lib.hid (show u4 8 = .int .i64 0 from hG 8 (by simp))
  have hbel0 := hbel
  clear hJ hG hall hb
  have hv5 := Lib.hid hw5; have hv7 := Lib.hid hw7
  have hwx := BelW.start W4
  have HBW4 := Lib.hid hbel
  go_upto_region 5 with fail
  refine wp_region_turn (fun u => (va :: vb :: undef :: undef :: u0 0 :: u3 5 :: u3 6 :: u4 7 :: u4 8 :: u 7 :: u 8 :: undef :: undef :: undef :: undef :: u1 0 :: u1 1 :: u1 2 :: u1 3 :: u1 4 :: u1 5 :: u1 6 :: .bool false :: undef :: u3 2 :: u3 0 :: u3 1 :: u3 3 :: u3 4 :: u4 4 :: u4 0 :: u4 1 :: u4 2 :: u4 3 :: u4 5 :: u4 6 :: u 4 :: u 0 :: u 1 :: u 2 :: u 3 :: u 5 :: u 6 :: undef :: undef :: undef :: undef :: undef :: undef :: undef :: undef :: undef :: undef :: undef :: undef :: undef :: undef :: undef :: undef :: undef :: undef :: undef :: undef :: undef :: undef :: undef :: undef :: undef :: undef :: undef :: undef :: undef :: undef :: undef :: undef :: undef :: undef :: undef :: undef :: undef :: undef :: undef :: undef :: undef :: undef :: undef :: undef :: undef :: undef :: undef :: undef :: undef :: undef :: undef :: undef :: undef :: undef :: undef :: undef :: undef :: undef :: undef :: undef :: undef :: undef :: undef :: undef :: undef :: undef :: []).toArray) (Holds [.wld (IsB la) none, .wld (IsB lb) none, .wld (IsR [lb]) none, .wld (TwV (NwB W4.heap.size (edSig la lb)) (.int .i64 0)) none, .wld (TwV (NwB W4.heap.size (edSig la lb)) (.int .i64 0)) none, .wld (NwB W4.heap.size (edSig la lb)) none, .oth (fun v => v = .int .i64 0), .wld (NwB W4.heap.size (edSig la lb)) none, .oth (fun v => v = .int .i64 0)] W4) (Keep [.wld (IsB la) none, .wld (IsB lb) none, .wld (IsR [lb]) none, .wld (TwV (NwB W4.heap.size (edSig la lb)) (.int .i64 0)) none, .wld (TwV (NwB W4.heap.size (edSig la lb)) (.int .i64 0)) none, .wld (NwB W4.heap.size (edSig la lb)) none, .oth (fun v => v = .int .i64 0), .wld (NwB W4.heap.size (edSig la lb)) none, .oth (fun v => v = .int .i64 0)] W4) (fun _ => undef) ?_ (by rfl) Keep.start (holds_soft (by kernel_rfl)) ?_ ?_
  · intro u i v h
    rcases i with _ | _ | _ | _ | _ | _ | _ | _ | _ | i
    all_goals first | (simp [Act.put, putV]; done) | (exfalso; simp at h; omega)
  · intro hs
    refine ⟨?_, ?_, ?_, ?_, ?_, ?_, ?_, ?_, ?_, trivial⟩
    · exact step_runP hs (wants_none rfl) rfl fun L u W hJ hG hL hdep => run_moveP (.inl rfl) ((IsB la).st _ _ _ ha (Below.call hbel (hJ.all rfl)))
    · exact step_runP hs (wants_none rfl) rfl fun L u W hJ hG hL hdep => run_moveP (.inl rfl) ((IsB lb).st _ _ _ hb (Below.call hbel (hJ.all rfl)))
    · exact step_runP hs (wants_none rfl) rfl fun L u W hJ hG hL hdep => run_rows1 rfl (holds_wld (φ := IsB lb) (hG 1 (hdep 1 (by kernel_rfl))) rfl till_none)
    · refine step_callP hs (wants_none rfl) rfl fun L u W hJ hG hL hdep K hK => ?_
      go_simp
      go_at_call 10
      (with_reducible refine (gSignNW (B := W4.heap.size) (l := lb) hJ.size (holds_wld (φ := IsB la) (hG 0 (hdep 0 (by kernel_rfl))) rfl till_none) (holds_wld (φ := IsR [lb]) (hG 2 (hdep 2 (by kernel_rfl))) rfl till_none) (by simp) (by have := T1.out; omega) (T0.out)).mono ?_); rintro e w1 ⟨r, rfl, hr, hb⟩
      have hk := hK.out _ _ hr hb
      exact hk
    · exact step_runP hs (wants_none rfl) rfl fun L u W hJ hG hL hdep => run_moveP (.inl rfl) (holds_wld (φ := TwV (NwB W4.heap.size (edSig la lb)) (.int .i64 0)) (hG 3 (hdep 3 (by kernel_rfl))) rfl till_none)
    · exact step_runP hs (wants_none rfl) rfl fun L u W hJ hG hL hdep => run_tw0 rfl (holds_wld (φ := TwV (NwB W4.heap.size (edSig la lb)) (.int .i64 0)) (hG 4 (hdep 4 (by kernel_rfl))) rfl till_none)
    · exact step_runO hs (wants_none rfl) rfl fun L u W hJ hG hL hdep => run_tw1 rfl (holds_wld (φ := TwV (NwB W4.heap.size (edSig la lb)) (.int .i64 0)) (hG 4 (hdep 4 (by kernel_rfl))) rfl till_none)
    · exact step_runP hs (wants_none rfl) rfl fun L u W hJ hG hL hdep => run_moveP (.inr rfl) (holds_wld (φ := NwB W4.heap.size (edSig la lb)) (hG 5 (hdep 5 (by kernel_rfl))) rfl till_none)
    · exact step_pureO hs (wants_none rfl) rfl fun L u W hG hdep => ⟨_, run_assign rfl, (show u 6 = .int .i64 0 from hG 6 (hdep 6 (by kernel_rfl)))⟩
  intro L5 u5 W5 hall hJ hG
  have hb := hJ.all rfl
  have hbel := Below.call hbel hb
  have hw5 := (IsB (edPub la)).st _ _ _ hw5 hb
  have hw7 := (IsB (edSig la lb)).st _ _ _ hw7 hb
  have hwx := (BelW W4).st _ _ _ hwx hb
  have hw9 := holds_wld (φ := NwB W4.heap.size (edSig la lb)) (hG 7 (by simp)) rfl till_none
  have HC10 := Lib.hid (show u5 8 = .int .i64 0 from hG 8 (by simp))
  have hbel0 := hbel
  clear hJ hG hall hb
  go_upto_region 6 with fail
  refine wp_region_turn (fun u => (va :: vb :: undef :: undef :: u0 0 :: u3 5 :: u3 6 :: u4 7 :: u4 8 :: u5 7 :: u5 8 :: undef :: undef :: undef :: undef :: u1 0 :: u1 1 :: u1 2 :: u1 3 :: u1 4 :: u1 5 :: u1 6 :: .bool false :: undef :: u3 2 :: u3 0 :: u3 1 :: u3 3 :: u3 4 :: u4 4 :: u4 0 :: u4 1 :: u4 2 :: u4 3 :: u4 5 :: u4 6 :: u5 4 :: u5 0 :: u5 1 :: u5 2 :: u5 3 :: u5 5 :: u5 6 :: u 0 :: u 1 :: u 2 :: u 3 :: u 4 :: u 5 :: u 6 :: u 7 :: u 8 :: u 9 :: u 10 :: u 11 :: u 12 :: u 13 :: u 14 :: u 15 :: u 16 :: u 17 :: u 18 :: u 19 :: u 20 :: u 21 :: undef :: undef :: undef :: undef :: undef :: undef :: undef :: undef :: undef :: undef :: undef :: undef :: undef :: undef :: undef :: undef :: undef :: undef :: undef :: undef :: undef :: undef :: undef :: undef :: undef :: undef :: undef :: undef :: undef :: undef :: undef :: undef :: undef :: undef :: undef :: undef :: undef :: undef :: undef :: undef :: undef :: undef :: undef :: undef :: []).toArray) (Holds [.oth (fun v => v = .int .i64 0), .oth (fun v => v = .bool false), .oth (fun v => v = .bool false), .oth (fun v => v = .int .i64 0), .oth (fun v => v = .bool false), .oth (fun v => v = .bool false), .oth (fun v => v = .bool false), .oth (fun v => v = .int .i64 0), .oth (fun v => v = .bool false), .oth (fun v => v = .bool false), .oth (fun v => v = .bool false), .wld (IsB (edSig la lb)) none, .oth (fun v => v = .int .i64 64), .oth (fun v => v = .bool false), .oth (fun v => v = .bool false), .oth (fun v => v = .bool false), .wld (IsB (edSig la lb)) none, .oth (fun v => v = (.string (bs (edSig la lb)))), .wld (NwB W4.heap.size (edSig la lb)) none, .oth (fun v => v = (.string (bs (edSig la lb)))), .oth (fun v => v = .bool false), .oth (fun v => v = .bool false)] W5) (Keep [.oth (fun v => v = .int .i64 0), .oth (fun v => v = .bool false), .oth (fun v => v = .bool false), .oth (fun v => v = .int .i64 0), .oth (fun v => v = .bool false), .oth (fun v => v = .bool false), .oth (fun v => v = .bool false), .oth (fun v => v = .int .i64 0), .oth (fun v => v = .bool false), .oth (fun v => v = .bool false), .oth (fun v => v = .bool false), .wld (IsB (edSig la lb)) none, .oth (fun v => v = .int .i64 64), .oth (fun v => v = .bool false), .oth (fun v => v = .bool false), .oth (fun v => v = .bool false), .wld (IsB (edSig la lb)) none, .oth (fun v => v = (.string (bs (edSig la lb)))), .wld (NwB W4.heap.size (edSig la lb)) none, .oth (fun v => v = (.string (bs (edSig la lb)))), .oth (fun v => v = .bool false), .oth (fun v => v = .bool false)] W5) (fun _ => undef) ?_ (by rfl) Keep.start (holds_soft (by kernel_rfl)) ?_ ?_
  · intro u i v h
    rcases i with _ | _ | _ | _ | _ | _ | _ | _ | _ | _ | _ | _ | _ | _ | _ | _ | _ | _ | _ | _ | _ | _ | i
    all_goals first | (simp [Act.put, putV]; done) | (exfalso; simp at h; omega)
  · intro hs
    refine ⟨?_, ?_, ?_, ?_, ?_, ?_, ?_, ?_, ?_, ?_, ?_, ?_, ?_, ?_, ?_, ?_, ?_, ?_, ?_, ?_, ?_, ?_, trivial⟩
    · exact step_pureO hs (wants_none rfl) rfl fun L u W hG hdep => ⟨_, run_move rfl, HC6.out⟩
    · refine step_pureO hs (wants_none rfl) rfl fun L u W hG hdep => ⟨_, ?_, rfl⟩
      have e0 := (show u 0 = .int .i64 0 from hG 0 (hdep 0 (by kernel_rfl)))
      go_simp
      try simp [bne]
    · exact step_pureO hs (wants_none rfl) rfl fun L u W hG hdep => ⟨_, run_move rfl, (show u 1 = .bool false from hG 1 (hdep 1 (by kernel_rfl)))⟩
    · exact step_pureO hs (wants_on 2 rfl rfl (by kernel_rfl) (fun _ => rfl)) rfl fun L u W hG hdep => ⟨_, run_move rfl, HC8.out⟩
    · refine step_pureO hs (wants_on 2 rfl rfl (by kernel_rfl) (fun _ => rfl)) rfl fun L u W hG hdep => ⟨_, ?_, rfl⟩
      have e0 := (show u 3 = .int .i64 0 from hG 3 (hdep 3 (by kernel_rfl)))
      go_simp
      try simp [bne]
    · exact step_pick false hs (wants_none rfl) rfl rfl (fun L u W hG hdep => (show u 2 = .bool false from hG 2 (hdep 2 (by kernel_rfl)))) (fun L u W hG hdep => (show u 4 = .bool false from hG 4 (hdep 4 (by kernel_rfl))))
    · exact step_pureO hs (wants_none rfl) rfl fun L u W hG hdep => ⟨_, run_move rfl, (show u 5 = .bool false from hG 5 (hdep 5 (by kernel_rfl)))⟩
    · exact step_pureO hs (wants_on 6 rfl rfl (by kernel_rfl) (fun _ => rfl)) rfl fun L u W hG hdep => ⟨_, run_move rfl, HC10.out⟩
    · refine step_pureO hs (wants_on 6 rfl rfl (by kernel_rfl) (fun _ => rfl)) rfl fun L u W hG hdep => ⟨_, ?_, rfl⟩
      have e0 := (show u 7 = .int .i64 0 from hG 7 (hdep 7 (by kernel_rfl)))
      go_simp
      try simp [bne]
    · exact step_pick false hs (wants_none rfl) rfl rfl (fun L u W hG hdep => (show u 6 = .bool false from hG 6 (hdep 6 (by kernel_rfl)))) (fun L u W hG hdep => (show u 8 = .bool false from hG 8 (hdep 8 (by kernel_rfl))))
    · exact step_pureO hs (wants_none rfl) rfl fun L u W hG hdep => ⟨_, run_move rfl, (show u 9 = .bool false from hG 9 (hdep 9 (by kernel_rfl)))⟩
    · exact step_runP hs (wants_on 10 rfl rfl (by kernel_rfl) (fun _ => rfl)) rfl fun L u W hJ hG hL hdep => run_moveP (.inl rfl) ((IsB (edSig la lb)).st _ _ _ hw7 (hJ.all rfl))
    · exact step_runO hs (wants_on 10 rfl rfl (by kernel_rfl) (fun _ => rfl)) rfl fun L u W hJ hG hL hdep => run_lenP rfl (holds_wld (φ := IsB (edSig la lb)) (hG 11 (hdep 11 (by kernel_rfl))) rfl till_none) (by rw [edSig_len]; rfl)
    · refine step_pureO hs (wants_on 10 rfl rfl (by kernel_rfl) (fun _ => rfl)) rfl fun L u W hG hdep => ⟨_, ?_, rfl⟩
      have e0 := (show u 12 = .int .i64 64 from hG 12 (hdep 12 (by kernel_rfl)))
      go_simp
      try simp [bne]
    · exact step_pick false hs (wants_none rfl) rfl rfl (fun L u W hG hdep => (show u 10 = .bool false from hG 10 (hdep 10 (by kernel_rfl)))) (fun L u W hG hdep => (show u 13 = .bool false from hG 13 (hdep 13 (by kernel_rfl))))
    · exact step_pureO hs (wants_none rfl) rfl fun L u W hG hdep => ⟨_, run_move rfl, (show u 14 = .bool false from hG 14 (hdep 14 (by kernel_rfl)))⟩
    · exact step_runP hs (wants_on 15 rfl rfl (by kernel_rfl) (fun _ => rfl)) rfl fun L u W hJ hG hL hdep => run_moveP (.inl rfl) ((IsB (edSig la lb)).st _ _ _ hw7 (hJ.all rfl))
    · exact step_runO hs (wants_on 15 rfl rfl (by kernel_rfl) (fun _ => rfl)) rfl fun L u W hJ hG hL hdep => run_convP rfl (holds_wld (φ := IsB (edSig la lb)) (hG 16 (hdep 16 (by kernel_rfl))) rfl till_none)
    · exact step_runP hs (wants_on 15 rfl rfl (by kernel_rfl) (fun _ => rfl)) rfl fun L u W hJ hG hL hdep => run_moveP (.inl rfl) ((NwB W4.heap.size (edSig la lb)).st _ _ _ hw9 (hJ.all rfl))
    · exact step_runO hs (wants_on 15 rfl rfl (by kernel_rfl) (fun _ => rfl)) rfl fun L u W hJ hG hL hdep => run_convP rfl (NwB.is (holds_wld (φ := NwB W4.heap.size (edSig la lb)) (hG 18 (hdep 18 (by kernel_rfl))) rfl till_none))
    · exact step_pureO hs (wants_on 15 rfl rfl (by kernel_rfl) (fun _ => rfl)) rfl fun L u W hG hdep => ⟨_, run_neqS rfl (show u 17 = (.string (bs (edSig la lb))) from hG 17 (hdep 17 (by kernel_rfl))) (show u 19 = (.string (bs (edSig la lb))) from hG 19 (hdep 19 (by kernel_rfl))), by simp⟩
    · exact step_pick false hs (wants_none rfl) rfl rfl (fun L u W hG hdep => (show u 15 = .bool false from hG 15 (hdep 15 (by kernel_rfl)))) (fun L u W hG hdep => (show u 20 = .bool false from hG 20 (hdep 20 (by kernel_rfl))))
  intro L6 u6 W6 hall hJ hG
  have hb := hJ.all rfl
  have hbel := Below.call hbel hb
  have hw5 := (IsB (edPub la)).st _ _ _ hw5 hb
  have hw7 := (IsB (edSig la lb)).st _ _ _ hw7 hb
  have hwx := (BelW W4).st _ _ _ hwx hb
  have hw9 := (NwB W4.heap.size (edSig la lb)).st _ _ _ hw9 hb
  have HC44 := Lib.hid (show u6 1 = .bool false from hG 1 (by simp))
  have HC45 := Lib.hid (show u6 2 = .bool false from hG 2 (by simp))
  have HC47 := Lib.hid (show u6 4 = .bool false from hG 4 (by simp))
  have HC48 := Lib.hid (show u6 5 = .bool false from hG 5 (by simp))
  have HC49 := Lib.hid (show u6 6 = .bool false from hG 6 (by simp))
  have HC51 := Lib.hid (show u6 8 = .bool false from hG 8 (by simp))
  have HC52 := Lib.hid (show u6 9 = .bool false from hG 9 (by simp))
  have HC53 := Lib.hid (show u6 10 = .bool false from hG 10 (by simp))
  have HC56 := Lib.hid (show u6 13 = .bool false from hG 13 (by simp))
  have HC57 := Lib.hid (show u6 14 = .bool false from hG 14 (by simp))
  have HC58 := Lib.hid (show u6 15 = .bool false from hG 15 (by simp))
  have HC63 := Lib.hid (show u6 20 = .bool false from hG 20 (by simp))
  have HC64 := Lib.hid (show u6 21 = .bool false from hG 21 (by simp))
  have hbel0 := hbel
  clear hJ hG hall hb
  have hx : u6 21 = .bool false := HC64.out
  go_wp2_with fail
  rw [hx]
  clear hx
  have NB := Lib.hid (NwB.lt hw9)
  go_upto_region 8 with fail
  refine wp_region_turn (fun u => (va :: vb :: undef :: undef :: u0 0 :: u3 5 :: u3 6 :: u4 7 :: u4 8 :: u5 7 :: u5 8 :: u 1 :: undef :: undef :: undef :: u1 0 :: u1 1 :: u1 2 :: u1 3 :: u1 4 :: u1 5 :: u1 6 :: .bool false :: undef :: u3 2 :: u3 0 :: u3 1 :: u3 3 :: u3 4 :: u4 4 :: u4 0 :: u4 1 :: u4 2 :: u4 3 :: u4 5 :: u4 6 :: u5 4 :: u5 0 :: u5 1 :: u5 2 :: u5 3 :: u5 5 :: u5 6 :: u6 0 :: u6 1 :: u6 2 :: u6 3 :: u6 4 :: u6 5 :: u6 6 :: u6 7 :: u6 8 :: u6 9 :: u6 10 :: u6 11 :: u6 12 :: u6 13 :: u6 14 :: u6 15 :: u6 16 :: u6 17 :: u6 18 :: u6 19 :: u6 20 :: .bool false :: u 0 :: undef :: undef :: undef :: undef :: undef :: undef :: undef :: undef :: undef :: undef :: undef :: undef :: undef :: undef :: undef :: undef :: undef :: undef :: undef :: undef :: undef :: undef :: undef :: undef :: undef :: undef :: undef :: undef :: undef :: undef :: undef :: undef :: undef :: undef :: undef :: undef :: undef :: undef :: undef :: undef :: undef :: undef :: undef :: []).toArray) (Holds [.wld (NwB W6.heap.size (leB 32 Lq)) none, .wld (NwB W6.heap.size (leB 32 Lq)) none] W6) (Keep [.wld (NwB W6.heap.size (leB 32 Lq)) none, .wld (NwB W6.heap.size (leB 32 Lq)) none] W6) (fun _ => undef) ?_ (by rfl) Keep.start (holds_soft (by kernel_rfl)) ?_ ?_
  · intro u i v h
    rcases i with _ | _ | i
    all_goals first | (simp [Act.put, putV]; done) | (exfalso; simp at h; omega)
  · intro hs
    refine ⟨?_, ?_, trivial⟩
    · refine step_callP hs (wants_none rfl) rfl fun L u W hJ hG hL hdep K hK => ?_
      go_simp
      go_at_call 15
      (with_reducible refine (gOrder (B := W6.heap.size) hJ.size).mono ?_); rintro e w1 ⟨r, rfl, hr, hb⟩
      have hk := hK.out _ _ hr hb
      exact hk
    · exact step_runP hs (wants_none rfl) rfl fun L u W hJ hG hL hdep => run_moveP (.inr rfl) (holds_wld (φ := NwB W6.heap.size (leB 32 Lq)) (hG 0 (hdep 0 (by kernel_rfl))) rfl till_none)
  intro L8 u8 W8 hall hJ hG
  have hb := hJ.all rfl
  have hbel := Below.call hbel hb
  have hw5 := (IsB (edPub la)).st _ _ _ hw5 hb
  have hw7 := (IsB (edSig la lb)).st _ _ _ hw7 hb
  have hwx := (BelW W4).st _ _ _ hwx hb
  have hw9 := (NwB W4.heap.size (edSig la lb)).st _ _ _ hw9 hb
  have hw11 := holds_wld (φ := NwB W6.heap.size (leB 32 Lq)) (hG 1 (by simp)) rfl till_none
  have hbel0 := hbel
  clear hJ hG hall hb
  obtain ⟨g9, n9, c9, r9, e9, hg9, hB9, hl9, hc9, hm9⟩ := hw9
  rw [edSig_len] at hl9
  subst hl9
  obtain ⟨g11, n11, c11, r11, e11, hg11, hB11, hl11, hc11, hm11⟩ := hw11
  rw [leB_len] at hl11
  subst hl11
  have hne : g9 ≠ g11 := by
    obtain ⟨g', n', c', e', hlt'⟩ := NB.out
    rw [e9] at e'
    cases e'
    omega
  rw [e9, e11]
  obtain ⟨SV, hSV⟩ : ∃ s, s = (edS (edA la) (edP la) (edPub la) lb).val := ⟨_, rfl⟩
  have hsl := edS_lt (edA la) (edP la) (edPub la) lb
  have hmx := sig_mix la lb
  have hpx := plus_mix la lb
  rw [← hSV] at hsl hmx hpx
  clear hSV
  obtain ⟨RV, hRV⟩ : ∃ l, l = (edR (edP la) lb).map bV := ⟨_, rfl⟩
  have hRL : RV.length = 32 := by rw [hRV, List.length_map, edR_len]
  rw [← hRV] at hmx hpx
  clear hRV
  rw [hmx, List.append_assoc] at hB9
  have HPX := Lib.hid hpx; have HRL := Lib.hid hRL; have HSL := Lib.hid hsl
  have HG9 := Lib.hid hg9; have HNE := Lib.hid hne; have HC9 := Lib.hid hc9; have HM9 := Lib.hid hm9
  have HBX : Hid (Below W4.heap.size W4 W8) := Lib.hid hwx
  have hG9 : w.heap.size ≤ g9 := by have := HBW4.out.size; omega
  have HGW := Lib.hid hG9
  clear hmx hpx hRL hsl hg9 hg11 hne hc9 hm9 hc11 hm11 hwx e9 e11 hG9 hbel0
  have hbx := HBX.out
  go_wp2_with fail
  go_loopw [12, 13] (fun cv i wr => ∃ j : Nat, j ≤ 32 ∧ i = .int .i64 (j : Int) ∧ cv = .int .i64 (cyB SV Lq j : Nat) ∧ Blk wr g9 (RV ++ (row 32 (mixV SV (SV + Lq) j) ++ r9)) 5 ∧ Blk wr g11 ((leB 32 Lq).map bV ++ r11) 5 ∧ Below W4.heap.size W4 wr ∧ Below w.heap.size w wr) (fun _ i _ => 32 - (intOf i).toNat)
  case atStart => exact ⟨0, by omega, rfl, by rw [cyB_zero]; rfl, hB9, hB11, hbx, hbel⟩
  case round =>
    clear hB9 hB11 hbel hbx HBX
    obtain ⟨j, hj, rfl, rfl, hB9, hB11, hbx, hbel⟩ := hrel
    by_cases hlj : j < 32
    · obtain ⟨s1, s2⟩ := add_step SV Lq j
      have ca := mixE_cell hB9 HRL.out hlj
      unfold mixV at ca
      rw [if_neg (Nat.lt_irrefl _)] at ca
      have cb := leB_cell9 hB11 hlj
      have a1 := dB_lt SV j
      have a2 := dB_lt Lq j
      have a3 := cyB_le SV Lq j
      obtain ⟨q, hq⟩ : ∃ q : Nat, q = 32 + j := ⟨_, rfl⟩
      have hwq : IntKind.i64.wrap (32 + (j : Int)) = (q : Int) := by rw [IntKind.wrap_i64]; omega
      have hwq2 : (32 : Int) + (j : Int) = (q : Int) := by omega
      have hfr := hB9.frozen (32 + j)
      obtain ⟨S, hS⟩ : ∃ S, S = dB (SV + Lq) j := ⟨_, rfl⟩
      obtain ⟨c', hc'⟩ : ∃ c', c' = cyB SV Lq (j + 1) := ⟨_, rfl⟩
      rw [← hS] at s1
      rw [← hc'] at s2
      have hB2 := hB9.set (32 + j) (.int .u8 (S : Nat))
      rw [hS, mixE_set HRL.out hlj] at hB2
      rw [← hS] at hB2
      rw [← hq] at ca hfr hB2
      have i0 : (0 : Int) ≤ (j : Int) := by omega
      have i1 : (j : Int) < 32 := by omega
      have i2 : (0 : Int) ≤ (q : Int) := by omega
      have i3 : (q : Int) < 64 := by omega
      have HB2 := Lib.hid hB2
      have HB11 := Lib.hid (hB11.other ⟨g9, q, none⟩ HNE.out (.int .u8 (S : Nat)))
      have HBX2 : Hid (Below W4.heap.size W4 (wr.setCell ⟨g9, q, none⟩ (.int .u8 (S : Nat)))) := Lib.hid (hbx.setCell HG9.out _)
      have HBel : Hid (Below w.heap.size w (wr.setCell ⟨g9, q, none⟩ (.int .u8 (S : Nat)))) := Lib.hid (hbel.setCell HGW.out _)
      have HCY := Lib.hid hc'
      generalize dB SV j = p at *
      generalize dB Lq j = r at *
      generalize cyB SV Lq j = cc' at *
      obtain ⟨V, hV⟩ : ∃ V : Nat, V = p + r + cc' := ⟨_, rfl⟩
      rw [← hV] at s1 s2
      have hsum : (p : Int) + (r : Int) + (cc' : Int) = (V : Int) := by omega
      have hV1 : (V : Int) ≤ 1000 := by omega
      have f1 : (V : Int) % 256 = (S : Int) := by omega
      have f2 : (V : Int) / 256 = (c' : Int) := by omega
      have HQ := Lib.hid hq
      clear hB9 hB11 hbx hbel hB2 hV hS hc' s1 s2 hq
      go_wp2
      go_region
      go_wp2
      go_roundw
      case rel => exact ⟨j + 1, by omega, by go_num, by rw [HCY.out], HB2.out.drew, HB11.out.drew, HBX2.out.drew, HBel.out.drew⟩
      case measure => simp [intOf]; omega
    · obtain rfl : j = 32 := by omega
      rw [← List.append_assoc, ← HPX.out] at hB9
      have hw5 := (IsB (edPub la)).st _ _ _ hv5.out hbx
      have hw7 := (IsB (edSig la lb)).st _ _ _ hv7.out hbx
      have hw9 : (IsB (plusSig la lb)).P (.slice (some ⟨g9, 0, none⟩) 64 c9) wr := IsB.mk (RdB.blk r9 hB9 (plusSig_len _ _) HC9.out HM9.out)
      have hd1 : decide (((32 : Nat) : Int) < 32) = false := by decide
      have hbel0 := hbel
      clear hB9 hB11 hbx hlj hj
      go_upto_region 16 with fail
      clear hd1
      refine wp_region_turn (fun u => (va :: vb :: undef :: undef :: u 17 :: u3 5 :: u3 6 :: u4 7 :: u4 8 :: Value.slice (some { block := g9, off := 0 }) 64 c9 :: u5 8 :: Value.slice (some { block := g11, off := 0 }) 32 c11 :: Value.int IntKind.i64 ↑(cyB SV Lq 32) :: Value.int IntKind.i64 ↑32 :: u14 :: u1 0 :: u1 1 :: u1 2 :: u1 3 :: u1 4 :: u1 5 :: u1 6 :: Value.bool false :: undef :: u3 2 :: u3 0 :: u3 1 :: u3 3 :: u3 4 :: u4 4 :: u4 0 :: u4 1 :: u4 2 :: u4 3 :: u4 5 :: u4 6 :: u5 4 :: u5 0 :: u5 1 :: u5 2 :: u5 3 :: u5 5 :: u5 6 :: u6 0 :: u6 1 :: u6 2 :: u6 3 :: u6 4 :: u6 5 :: u6 6 :: u6 7 :: u6 8 :: u6 9 :: u6 10 :: u6 11 :: u6 12 :: u6 13 :: u6 14 :: u6 15 :: u6 16 :: u6 17 :: u6 18 :: u6 19 :: u6 20 :: Value.bool false :: u8 0 :: Value.int IntKind.i64 ↑32 :: Value.bool false :: u68 :: u69 :: u70 :: u71 :: u72 :: u73 :: u74 :: u75 :: u76 :: u77 :: u78 :: u79 :: u80 :: u81 :: u82 :: u83 :: u84 :: u85 :: u86 :: u87 :: u88 :: u89 :: u90 :: u91 :: u 0 :: u 1 :: u 2 :: u 3 :: u 4 :: u 5 :: u 6 :: u 7 :: u 8 :: u 9 :: u 10 :: u 11 :: u 12 :: u 13 :: u 14 :: u 15 :: u 16 :: []).toArray) (Holds [.wld (IsB (edPub la)) none, .wld (IsB (plusSig la lb)) none, .wld (IsB lb) none, .wld (IsR [lb]) none, .oth (fun v => v = .int .i64 3), .oth (fun v => v = .bool true), .oth (fun v => v = .bool true), .wld (IsB (edPub la)) none, .wld (IsB (edSig la lb)) none, .wld (IsB lb) none, .wld (IsR [lb]) none, .oth (fun v => v = .int .i64 0), .oth (fun v => v = .bool true), .oth (fun v => v = .bool true), .oth (fun v => v = .bool true), .oth (fun v => v = .bool true), .oth (fun v => v = .bool true), .oth (fun v => v = .bool true)] wr) (Keep [.wld (IsB (edPub la)) none, .wld (IsB (plusSig la lb)) none, .wld (IsB lb) none, .wld (IsR [lb]) none, .oth (fun v => v = .int .i64 3), .oth (fun v => v = .bool true), .oth (fun v => v = .bool true), .wld (IsB (edPub la)) none, .wld (IsB (edSig la lb)) none, .wld (IsB lb) none, .wld (IsR [lb]) none, .oth (fun v => v = .int .i64 0), .oth (fun v => v = .bool true), .oth (fun v => v = .bool true), .oth (fun v => v = .bool true), .oth (fun v => v = .bool true), .oth (fun v => v = .bool true), .oth (fun v => v = .bool true)] wr) (fun k => ((undef :: undef :: undef :: undef :: undef :: undef :: undef :: undef :: undef :: undef :: undef :: undef :: undef :: undef :: undef :: undef :: undef :: u0 0 :: []) : List Value).getD k undef) ?_ (by rfl) Keep.start (holds_soft (by kernel_rfl)) ?_ ?_
      · intro u i v h
        rcases i with _ | _ | _ | _ | _ | _ | _ | _ | _ | _ | _ | _ | _ | _ | _ | _ | _ | _ | i
        all_goals first | (simp [Act.put, putV]; done) | (exfalso; simp at h; omega)
      · intro hs
        refine ⟨?_, ?_, ?_, ?_, ?_, ?_, ?_, ?_, ?_, ?_, ?_, ?_, ?_, ?_, ?_, ?_, ?_, ?_, trivial⟩
        · exact step_runP hs (wants_none rfl) rfl fun L u W hJ hG hL hdep => run_moveP (.inl rfl) ((IsB (edPub la)).st _ _ _ hw5 (hJ.all rfl))
        · exact step_runP hs (wants_none rfl) rfl fun L u W hJ hG hL hdep => run_moveP (.inl rfl) ((IsB (plusSig la lb)).st _ _ _ hw9 (hJ.all rfl))
        · exact step_runP hs (wants_none rfl) rfl fun L u W hJ hG hL hdep => run_moveP (.inl rfl) ((IsB lb).st _ _ _ hb (Below.call hbel (hJ.all rfl)))
        · exact step_runP hs (wants_none rfl) rfl fun L u W hJ hG hL hdep => run_rows1 rfl (holds_wld (φ := IsB lb) (hG 2 (hdep 2 (by kernel_rfl))) rfl till_none)
        · refine step_callO hs (wants_none rfl) rfl fun L u W hJ hG hL hdep K hK => ?_
          go_simp
          go_at_call 12
          (with_reducible refine (gVerifyC (l := lb) (holds_wld (φ := IsB (edPub la)) (hG 0 (hdep 0 (by kernel_rfl))) rfl till_none) (holds_wld (φ := IsB (plusSig la lb)) (hG 1 (hdep 1 (by kernel_rfl))) rfl till_none) (holds_wld (φ := IsR [lb]) (hG 3 (hdep 3 (by kernel_rfl))) rfl till_none) (by simp) (by have := T1.out; omega) (ver_plusC la lb)).mono ?_); rintro e w1 ⟨rfl, hb⟩
          have hk := hK.out _ _ rfl hb
          exact hk
        · refine step_pureO hs (wants_none rfl) rfl fun L u W hG hdep => ⟨_, ?_, rfl⟩
          have e0 := (show u 4 = .int .i64 3 from hG 4 (hdep 4 (by kernel_rfl)))
          go_simp
          try simp [bne]
        · exact step_pureO hs (wants_none rfl) rfl fun L u W hG hdep => ⟨_, run_move rfl, (show u 5 = .bool true from hG 5 (hdep 5 (by kernel_rfl)))⟩
        · exact step_runP hs (wants_on 6 rfl rfl (by kernel_rfl) (fun _ => rfl)) rfl fun L u W hJ hG hL hdep => run_moveP (.inl rfl) ((IsB (edPub la)).st _ _ _ hw5 (hJ.all rfl))
        · exact step_runP hs (wants_on 6 rfl rfl (by kernel_rfl) (fun _ => rfl)) rfl fun L u W hJ hG hL hdep => run_moveP (.inl rfl) ((IsB (edSig la lb)).st _ _ _ hw7 (hJ.all rfl))
        · exact step_runP hs (wants_on 6 rfl rfl (by kernel_rfl) (fun _ => rfl)) rfl fun L u W hJ hG hL hdep => run_moveP (.inl rfl) ((IsB lb).st _ _ _ hb (Below.call hbel (hJ.all rfl)))
        · exact step_runP hs (wants_on 6 rfl rfl (by kernel_rfl) (fun _ => rfl)) rfl fun L u W hJ hG hL hdep => run_rows1 rfl (holds_wld (φ := IsB lb) (hG 9 (hdep 9 (by kernel_rfl))) rfl till_none)
        · refine step_callO hs (wants_on 6 rfl rfl (by kernel_rfl) (fun _ => rfl)) rfl fun L u W hJ hG hL hdep K hK => ?_
          go_simp
          go_at_call 12
          (with_reducible refine (gVerifyC (l := lb) (holds_wld (φ := IsB (edPub la)) (hG 7 (hdep 7 (by kernel_rfl))) rfl till_none) (holds_wld (φ := IsB (edSig la lb)) (hG 8 (hdep 8 (by kernel_rfl))) rfl till_none) (holds_wld (φ := IsR [lb]) (hG 10 (hdep 10 (by kernel_rfl))) rfl till_none) (by simp) (by have := T1.out; omega) (ver_sig la lb)).mono ?_); rintro e w1 ⟨rfl, hb⟩
          have hk := hK.out _ _ rfl hb
          exact hk
        · refine step_pureO hs (wants_on 6 rfl rfl (by kernel_rfl) (fun _ => rfl)) rfl fun L u W hG hdep => ⟨_, ?_, rfl⟩
          have e0 := (show u 11 = .int .i64 0 from hG 11 (hdep 11 (by kernel_rfl)))
          go_simp
          try simp [bne]
        · exact step_pick true hs (wants_none rfl) rfl rfl (fun L u W hG hdep => (show u 6 = .bool true from hG 6 (hdep 6 (by kernel_rfl)))) (fun L u W hG hdep => (show u 12 = .bool true from hG 12 (hdep 12 (by kernel_rfl))))
        · exact step_pureO hs (wants_none rfl) rfl fun L u W hG hdep => ⟨_, run_move rfl, (show u 13 = .bool true from hG 13 (hdep 13 (by kernel_rfl)))⟩
        · refine step_callO hs (wants_on 14 rfl rfl (by kernel_rfl) (fun _ => rfl)) rfl fun L u W hJ hG hL hdep K hK => ?_
          go_simp
          go_at_call 8
          (with_reducible refine (law9awake_any _).mono ?_); rintro e w1 ⟨rfl, hb⟩
          have hk := hK.out _ _ rfl hb
          exact hk
        · exact step_pick true hs (wants_none rfl) rfl rfl (fun L u W hG hdep => (show u 14 = .bool true from hG 14 (hdep 14 (by kernel_rfl)))) (fun L u W hG hdep => (show u 15 = .bool true from hG 15 (hdep 15 (by kernel_rfl))))
        · exact step_pureO hs (wants_none rfl) rfl fun L u W hG hdep => ⟨_, run_assign rfl, (show u 16 = .bool true from hG 16 (hdep 16 (by kernel_rfl)))⟩
      intro L16 u16e W16e hall hJ hG
      have hb := hJ.all rfl
      have hbel := Below.call hbel hb
      have hw5 := (IsB (edPub la)).st _ _ _ hw5 hb
      have hw7 := (IsB (edSig la lb)).st _ _ _ hw7 hb
      have hw9 := (IsB (plusSig la lb)).st _ _ _ hw9 hb
      have HC97 := Lib.hid (show u16e 5 = .bool true from hG 5 (by simp))
      have HC98 := Lib.hid (show u16e 6 = .bool true from hG 6 (by simp))
      have HC104 := Lib.hid (show u16e 12 = .bool true from hG 12 (by simp))
      have HC105 := Lib.hid (show u16e 13 = .bool true from hG 13 (by simp))
      have HC106 := Lib.hid (show u16e 14 = .bool true from hG 14 (by simp))
      have HC107 := Lib.hid (show u16e 15 = .bool true from hG 15 (by simp))
      have HC108 := Lib.hid (show u16e 16 = .bool true from hG 16 (by simp))
      have HC4 := Lib.hid (show u16e 17 = .bool true from hG 17 (by simp))
      have hbel0 := hbel
      clear hJ hG hall hb
      go_wp2
      go_ret
      exact ⟨by rw [HC4.out]; rfl, hbel⟩
set_option maxRecDepth 100000 in
set_option maxHeartbeats 8000000 in
theorem edForms_no0 {w : World} {va : Value} {la : List UInt8} {vb : Value} {lb : List UInt8} (ha : (IsB la).P va w) (hb : (IsB lb).P vb w) (t0 : ¬ la.length = 32) :
    Calls Try.prog 5 #[va, vb] w fun e w' => e = .returned (.bool true) ∧ Below w.heap.size w w' := by
  have T0 := Lib.hid t0; clear t0
  have _ua := ha
  have _ub := hb
  clear _ua _ub
  go_enter Try.func5, Try.ntmps5
  have hbel : Below w.heap.size w w := Below.refl _ _
  have hbel0 := hbel
  go_upto_region 0 with fail
  refine wp_region_turn (fun u => (va :: vb :: undef :: undef :: u 0 :: undef :: undef :: undef :: undef :: undef :: undef :: undef :: undef :: undef :: undef :: undef :: undef :: undef :: undef :: undef :: undef :: undef :: undef :: undef :: undef :: undef :: undef :: undef :: undef :: undef :: undef :: undef :: undef :: undef :: undef :: undef :: undef :: undef :: undef :: undef :: undef :: undef :: undef :: undef :: undef :: undef :: undef :: undef :: undef :: undef :: undef :: undef :: undef :: undef :: undef :: undef :: undef :: undef :: undef :: undef :: undef :: undef :: undef :: undef :: undef :: undef :: undef :: undef :: undef :: undef :: undef :: undef :: undef :: undef :: undef :: undef :: undef :: undef :: undef :: undef :: undef :: undef :: undef :: undef :: undef :: undef :: undef :: undef :: undef :: undef :: undef :: undef :: undef :: undef :: undef :: undef :: undef :: undef :: undef :: undef :: undef :: undef :: undef :: undef :: undef :: undef :: undef :: undef :: undef :: []).toArray) (Holds [.oth (fun v => v = .bool false)] w) (Keep [.oth (fun v => v = .bool false)] w) (fun _ => undef) ?_ (by rfl) Keep.start (holds_soft (by kernel_rfl)) ?_ ?_
  · intro u i v h
    rcases i with _ | i
    all_goals first | (simp [Act.put, putV]; done) | (exfalso; simp at h; omega)
  · intro hs
    refine ⟨?_, trivial⟩
    · exact step_pureO hs (wants_none rfl) rfl fun L u W hG hdep => ⟨_, run_assign rfl, rfl⟩
  intro L0 u0 W0 hall hJ hG
  have hb := hJ.all rfl
  have hbel := Below.call hbel hb
  have HC4 := Lib.hid (show u0 0 = .bool false from hG 0 (by simp))
  have hbel0 := hbel
  clear hJ hG hall hb
  go_upto_region 1 with fail
  refine wp_region_turn (fun u => (va :: vb :: undef :: undef :: u0 0 :: undef :: undef :: undef :: undef :: undef :: undef :: undef :: undef :: undef :: undef :: u 0 :: u 1 :: u 2 :: u 3 :: u 4 :: u 5 :: u 6 :: u 7 :: undef :: undef :: undef :: undef :: undef :: undef :: undef :: undef :: undef :: undef :: undef :: undef :: undef :: undef :: undef :: undef :: undef :: undef :: undef :: undef :: undef :: undef :: undef :: undef :: undef :: undef :: undef :: undef :: undef :: undef :: undef :: undef :: undef :: undef :: undef :: undef :: undef :: undef :: undef :: undef :: undef :: undef :: undef :: undef :: undef :: undef :: undef :: undef :: undef :: undef :: undef :: undef :: undef :: undef :: undef :: undef :: undef :: undef :: undef :: undef :: undef :: undef :: undef :: undef :: undef :: undef :: undef :: undef :: undef :: undef :: undef :: undef :: undef :: undef :: undef :: undef :: undef :: undef :: undef :: undef :: undef :: undef :: undef :: undef :: undef :: undef :: []).toArray) (Holds [.wld (IsB la) none, .oth (fun v => v = .int .i64 (la.length : Int)), .oth (fun v => v = .bool true), .oth (fun v => v = .bool true), .oth (fun v => v = undef), .oth (fun v => v = undef), .oth (fun v => v = undef), .oth (fun v => v = .bool true)] W0) (Keep [.wld (IsB la) none, .oth (fun v => v = .int .i64 (la.length : Int)), .oth (fun v => v = .bool true), .oth (fun v => v = .bool true), .oth (fun v => v = undef), .oth (fun v => v = undef), .oth (fun v => v = undef), .oth (fun v => v = .bool true)] W0) (fun _ => undef) ?_ (by rfl) Keep.start (holds_soft (by kernel_rfl)) ?_ ?_
  · intro u i v h
    rcases i with _ | _ | _ | _ | _ | _ | _ | _ | i
    all_goals first | (simp [Act.put, putV]; done) | (exfalso; simp at h; omega)
  · intro hs
    refine ⟨?_, ?_, ?_, ?_, ?_, ?_, ?_, ?_, trivial⟩
    · exact step_runP hs (wants_none rfl) rfl fun L u W hJ hG hL hdep => run_moveP (.inl rfl) ((IsB la).st _ _ _ ha (Below.call hbel (hJ.all rfl)))
    · exact step_runO hs (wants_none rfl) rfl fun L u W hJ hG hL hdep => run_lenP rfl (holds_wld (φ := IsB la) (hG 0 (hdep 0 (by kernel_rfl))) rfl till_none) (rfl)
    · refine step_pureO hs (wants_none rfl) rfl fun L u W hG hdep => ⟨_, ?_, rfl⟩
      have e0 := (show u 1 = .int .i64 (la.length : Int) from hG 1 (hdep 1 (by kernel_rfl)))
      have e9 := T0.out
      go_simp
      try omega
    · exact step_pureO hs (wants_none rfl) rfl fun L u W hG hdep => ⟨_, run_move rfl, (show u 2 = .bool true from hG 2 (hdep 2 (by kernel_rfl)))⟩
    · exact step_outU hs (wants_off 3 rfl rfl rfl (by kernel_rfl) (fun _ => rfl)) rfl
    · exact step_outU hs (wants_off 3 rfl rfl rfl (by kernel_rfl) (fun _ => rfl)) rfl
    · exact step_outU hs (wants_off 3 rfl rfl rfl (by kernel_rfl) (fun _ => rfl)) rfl
    · exact step_pick true hs (wants_none rfl) rfl rfl (fun L u W hG hdep => (show u 3 = .bool true from hG 3 (hdep 3 (by kernel_rfl)))) (fun L u W hG hdep => rfl)
  intro L1 u1 W1 hall hJ hG
  have hb := hJ.all rfl
  have hbel := Below.call hbel hb
  have HC17 := Lib.hid (show u1 2 = .bool true from hG 2 (by simp))
  have HC18 := Lib.hid (show u1 3 = .bool true from hG 3 (by simp))
  have HC22 := Lib.hid (show u1 7 = .bool true from hG 7 (by simp))
  have hbel0 := hbel
  clear hJ hG hall hb
  have hx : u1 7 = .bool true := HC22.out
  go_wp2_with fail
  rw [hx]
  clear hx
  go_upto_region 2 with fail
  refine wp_region_turn (fun u => (va :: vb :: undef :: undef :: u 1 :: undef :: undef :: undef :: undef :: undef :: undef :: undef :: undef :: undef :: undef :: u1 0 :: u1 1 :: u1 2 :: u1 3 :: u1 4 :: u1 5 :: u1 6 :: .bool true :: u 0 :: undef :: undef :: undef :: undef :: undef :: undef :: undef :: undef :: undef :: undef :: undef :: undef :: undef :: undef :: undef :: undef :: undef :: undef :: undef :: undef :: undef :: undef :: undef :: undef :: undef :: undef :: undef :: undef :: undef :: undef :: undef :: undef :: undef :: undef :: undef :: undef :: undef :: undef :: undef :: undef :: undef :: undef :: undef :: undef :: undef :: undef :: undef :: undef :: undef :: undef :: undef :: undef :: undef :: undef :: undef :: undef :: undef :: undef :: undef :: undef :: undef :: undef :: undef :: undef :: undef :: undef :: undef :: undef :: undef :: undef :: undef :: undef :: undef :: undef :: undef :: undef :: undef :: undef :: undef :: undef :: undef :: undef :: undef :: undef :: undef :: []).toArray) (Holds [.oth (fun v => v = .bool true), .oth (fun v => v = .bool true)] W1) (Keep [.oth (fun v => v = .bool true), .oth (fun v => v = .bool true)] W1) (fun k => ((undef :: u0 0 :: []) : List Value).getD k undef) ?_ (by rfl) Keep.start (holds_soft (by kernel_rfl)) ?_ ?_
  · intro u i v h
    rcases i with _ | _ | i
    all_goals first | (simp [Act.put, putV]; done) | (exfalso; simp at h; omega)
  · intro hs
    refine ⟨?_, ?_, trivial⟩
    · refine step_callO hs (wants_none rfl) rfl fun L u W hJ hG hL hdep K hK => ?_
      go_simp
      go_at_call 8
      (with_reducible refine (law9awake_any _).mono ?_); rintro e w1 ⟨rfl, hb⟩
      have hk := hK.out _ _ rfl hb
      exact hk
    · exact step_pureO hs (wants_none rfl) rfl fun L u W hG hdep => ⟨_, run_assign rfl, (show u 0 = .bool true from hG 0 (hdep 0 (by kernel_rfl)))⟩
  intro L2 u2 W2 hall hJ hG
  have hb := hJ.all rfl
  have hbel := Below.call hbel hb
  have HC23 := Lib.hid (show u2 0 = .bool true from hG 0 (by simp))
  have HC4 := Lib.hid (show u2 1 = .bool true from hG 1 (by simp))
  have hbel0 := hbel
  clear hJ hG hall hb
  go_wp2
  go_ret
  exact ⟨by rw [HC4.out]; rfl, hbel⟩
set_option maxRecDepth 100000 in
set_option maxHeartbeats 8000000 in
theorem edForms_no1 {w : World} {va : Value} {la : List UInt8} {vb : Value} {lb : List UInt8} (ha : (IsB la).P va w) (hb : (IsB lb).P vb w) (t0 : la.length = 32) (t1 : 300 < lb.length) :
    Calls Try.prog 5 #[va, vb] w fun e w' => e = .returned (.bool true) ∧ Below w.heap.size w w' := by
  have T0 := Lib.hid t0; clear t0
  have T1 := Lib.hid t1; clear t1
  have _ua := ha
  have _ub := hb
  clear _ua _ub
  go_enter Try.func5, Try.ntmps5
  have hbel : Below w.heap.size w w := Below.refl _ _
  have hbel0 := hbel
  go_upto_region 0 with fail
  refine wp_region_turn (fun u => (va :: vb :: undef :: undef :: u 0 :: undef :: undef :: undef :: undef :: undef :: undef :: undef :: undef :: undef :: undef :: undef :: undef :: undef :: undef :: undef :: undef :: undef :: undef :: undef :: undef :: undef :: undef :: undef :: undef :: undef :: undef :: undef :: undef :: undef :: undef :: undef :: undef :: undef :: undef :: undef :: undef :: undef :: undef :: undef :: undef :: undef :: undef :: undef :: undef :: undef :: undef :: undef :: undef :: undef :: undef :: undef :: undef :: undef :: undef :: undef :: undef :: undef :: undef :: undef :: undef :: undef :: undef :: undef :: undef :: undef :: undef :: undef :: undef :: undef :: undef :: undef :: undef :: undef :: undef :: undef :: undef :: undef :: undef :: undef :: undef :: undef :: undef :: undef :: undef :: undef :: undef :: undef :: undef :: undef :: undef :: undef :: undef :: undef :: undef :: undef :: undef :: undef :: undef :: undef :: undef :: undef :: undef :: undef :: undef :: []).toArray) (Holds [.oth (fun v => v = .bool false)] w) (Keep [.oth (fun v => v = .bool false)] w) (fun _ => undef) ?_ (by rfl) Keep.start (holds_soft (by kernel_rfl)) ?_ ?_
  · intro u i v h
    rcases i with _ | i
    all_goals first | (simp [Act.put, putV]; done) | (exfalso; simp at h; omega)
  · intro hs
    refine ⟨?_, trivial⟩
    · exact step_pureO hs (wants_none rfl) rfl fun L u W hG hdep => ⟨_, run_assign rfl, rfl⟩
  intro L0 u0 W0 hall hJ hG
  have hb := hJ.all rfl
  have hbel := Below.call hbel hb
  have HC4 := Lib.hid (show u0 0 = .bool false from hG 0 (by simp))
  have hbel0 := hbel
  clear hJ hG hall hb
  go_upto_region 1 with fail
  refine wp_region_turn (fun u => (va :: vb :: undef :: undef :: u0 0 :: undef :: undef :: undef :: undef :: undef :: undef :: undef :: undef :: undef :: undef :: u 0 :: u 1 :: u 2 :: u 3 :: u 4 :: u 5 :: u 6 :: u 7 :: undef :: undef :: undef :: undef :: undef :: undef :: undef :: undef :: undef :: undef :: undef :: undef :: undef :: undef :: undef :: undef :: undef :: undef :: undef :: undef :: undef :: undef :: undef :: undef :: undef :: undef :: undef :: undef :: undef :: undef :: undef :: undef :: undef :: undef :: undef :: undef :: undef :: undef :: undef :: undef :: undef :: undef :: undef :: undef :: undef :: undef :: undef :: undef :: undef :: undef :: undef :: undef :: undef :: undef :: undef :: undef :: undef :: undef :: undef :: undef :: undef :: undef :: undef :: undef :: undef :: undef :: undef :: undef :: undef :: undef :: undef :: undef :: undef :: undef :: undef :: undef :: undef :: undef :: undef :: undef :: undef :: undef :: undef :: undef :: undef :: undef :: []).toArray) (Holds [.wld (IsB la) none, .oth (fun v => v = .int .i64 32), .oth (fun v => v = .bool false), .oth (fun v => v = .bool false), .wld (IsB lb) none, .oth (fun v => v = .int .i64 (lb.length : Int)), .oth (fun v => v = .bool true), .oth (fun v => v = .bool true)] W0) (Keep [.wld (IsB la) none, .oth (fun v => v = .int .i64 32), .oth (fun v => v = .bool false), .oth (fun v => v = .bool false), .wld (IsB lb) none, .oth (fun v => v = .int .i64 (lb.length : Int)), .oth (fun v => v = .bool true), .oth (fun v => v = .bool true)] W0) (fun _ => undef) ?_ (by rfl) Keep.start (holds_soft (by kernel_rfl)) ?_ ?_
  · intro u i v h
    rcases i with _ | _ | _ | _ | _ | _ | _ | _ | i
    all_goals first | (simp [Act.put, putV]; done) | (exfalso; simp at h; omega)
  · intro hs
    refine ⟨?_, ?_, ?_, ?_, ?_, ?_, ?_, ?_, trivial⟩
    · exact step_runP hs (wants_none rfl) rfl fun L u W hJ hG hL hdep => run_moveP (.inl rfl) ((IsB la).st _ _ _ ha (Below.call hbel (hJ.all rfl)))
    · exact step_runO hs (wants_none rfl) rfl fun L u W hJ hG hL hdep => run_lenP rfl (holds_wld (φ := IsB la) (hG 0 (hdep 0 (by kernel_rfl))) rfl till_none) (by rw [T0.out]; rfl)
    · refine step_pureO hs (wants_none rfl) rfl fun L u W hG hdep => ⟨_, ?_, rfl⟩
      have e0 := (show u 1 = .int .i64 32 from hG 1 (hdep 1 (by kernel_rfl)))
      have e9 := T1.out
      go_simp
      try omega
    · exact step_pureO hs (wants_none rfl) rfl fun L u W hG hdep => ⟨_, run_move rfl, (show u 2 = .bool false from hG 2 (hdep 2 (by kernel_rfl)))⟩
    · exact step_runP hs (wants_on 3 rfl rfl (by kernel_rfl) (fun _ => rfl)) rfl fun L u W hJ hG hL hdep => run_moveP (.inl rfl) ((IsB lb).st _ _ _ hb (Below.call hbel (hJ.all rfl)))
    · exact step_runO hs (wants_on 3 rfl rfl (by kernel_rfl) (fun _ => rfl)) rfl fun L u W hJ hG hL hdep => run_lenP rfl (holds_wld (φ := IsB lb) (hG 4 (hdep 4 (by kernel_rfl))) rfl till_none) (rfl)
    · refine step_pureO hs (wants_on 3 rfl rfl (by kernel_rfl) (fun _ => rfl)) rfl fun L u W hG hdep => ⟨_, ?_, rfl⟩
      have e0 := (show u 5 = .int .i64 (lb.length : Int) from hG 5 (hdep 5 (by kernel_rfl)))
      have e9 := T1.out
      go_simp
      try omega
    · exact step_pick false hs (wants_none rfl) rfl rfl (fun L u W hG hdep => (show u 3 = .bool false from hG 3 (hdep 3 (by kernel_rfl)))) (fun L u W hG hdep => (show u 6 = .bool true from hG 6 (hdep 6 (by kernel_rfl))))
  intro L1 u1 W1 hall hJ hG
  have hb := hJ.all rfl
  have hbel := Below.call hbel hb
  have HC17 := Lib.hid (show u1 2 = .bool false from hG 2 (by simp))
  have HC18 := Lib.hid (show u1 3 = .bool false from hG 3 (by simp))
  have HC21 := Lib.hid (show u1 6 = .bool true from hG 6 (by simp))
  have HC22 := Lib.hid (show u1 7 = .bool true from hG 7 (by simp))
  have hbel0 := hbel
  clear hJ hG hall hb
  have hx : u1 7 = .bool true := HC22.out
  go_wp2_with fail
  rw [hx]
  clear hx
  go_upto_region 2 with fail
  refine wp_region_turn (fun u => (va :: vb :: undef :: undef :: u 1 :: undef :: undef :: undef :: undef :: undef :: undef :: undef :: undef :: undef :: undef :: u1 0 :: u1 1 :: u1 2 :: u1 3 :: u1 4 :: u1 5 :: u1 6 :: .bool true :: u 0 :: undef :: undef :: undef :: undef :: undef :: undef :: undef :: undef :: undef :: undef :: undef :: undef :: undef :: undef :: undef :: undef :: undef :: undef :: undef :: undef :: undef :: undef :: undef :: undef :: undef :: undef :: undef :: undef :: undef :: undef :: undef :: undef :: undef :: undef :: undef :: undef :: undef :: undef :: undef :: undef :: undef :: undef :: undef :: undef :: undef :: undef :: undef :: undef :: undef :: undef :: undef :: undef :: undef :: undef :: undef :: undef :: undef :: undef :: undef :: undef :: undef :: undef :: undef :: undef :: undef :: undef :: undef :: undef :: undef :: undef :: undef :: undef :: undef :: undef :: undef :: undef :: undef :: undef :: undef :: undef :: undef :: undef :: undef :: undef :: undef :: []).toArray) (Holds [.oth (fun v => v = .bool true), .oth (fun v => v = .bool true)] W1) (Keep [.oth (fun v => v = .bool true), .oth (fun v => v = .bool true)] W1) (fun k => ((undef :: u0 0 :: []) : List Value).getD k undef) ?_ (by rfl) Keep.start (holds_soft (by kernel_rfl)) ?_ ?_
  · intro u i v h
    rcases i with _ | _ | i
    all_goals first | (simp [Act.put, putV]; done) | (exfalso; simp at h; omega)
  · intro hs
    refine ⟨?_, ?_, trivial⟩
    · refine step_callO hs (wants_none rfl) rfl fun L u W hJ hG hL hdep K hK => ?_
      go_simp
      go_at_call 8
      (with_reducible refine (law9awake_any _).mono ?_); rintro e w1 ⟨rfl, hb⟩
      have hk := hK.out _ _ rfl hb
      exact hk
    · exact step_pureO hs (wants_none rfl) rfl fun L u W hG hdep => ⟨_, run_assign rfl, (show u 0 = .bool true from hG 0 (hdep 0 (by kernel_rfl)))⟩
  intro L2 u2 W2 hall hJ hG
  have hb := hJ.all rfl
  have hbel := Below.call hbel hb
  have HC23 := Lib.hid (show u2 0 = .bool true from hG 0 (by simp))
  have HC4 := Lib.hid (show u2 1 = .bool true from hG 1 (by simp))
  have hbel0 := hbel
  clear hJ hG hall hb
  go_wp2
  go_ret
  exact ⟨by rw [HC4.out]; rfl, hbel⟩
theorem edForms_any {a0 : Option Addr} {n0 cap0 : Nat} {la : List UInt8} {a1 : Option Addr} {n1 cap1 : Nat} {lb : List UInt8} (w : World) (ha : RdB w a0 n0 cap0 la) (hb : RdB w a1 n1 cap1 lb) :
    Calls Try.prog 5 #[.slice a0 n0 cap0, .slice a1 n1 cap1] w fun e w' => e = .returned (.bool true) ∧ Below w.heap.size w w' := by
  by_cases t0 : la.length = 32
  rotate_left
  · exact edForms_no0 (IsB.mk ha) (IsB.mk hb)  (t0)
  by_cases t1 : lb.length ≤ 300
  rotate_left
  · exact edForms_no1 (IsB.mk ha) (IsB.mk hb) t0 (Nat.lt_of_not_le t1)
  exact edForms_few (IsB.mk ha) (IsB.mk hb) t0 t1
namespace edFormsDone
theorem own : ownKnob Try.prog.godebug = none := by kernel_rfl
theorem laidOut : laidOutB Try.prog = true := by kernel_rfl
set_option maxRecDepth 100000 in
theorem lifted (os : Os) (started : os.Started) (H : Type) (enc : TypeId × Value → H) :
    ReturnsInHanded {} Try.checked os 5 .any (Rows.edFormsSpec.pre6 enc Try.prog Try.f5 Rows.edFormsRow.domain false) (Rows.edFormsSpec.post enc Try.prog Try.f5 false true false false) := by
  refine returnsInHanded_of_change (C := Try.checked) own started (by kernel_rfl) Try.func5
    (ChangeSpec.witness6 (enc := enc) (C := Try.checked) false ⟨#[], #[.slice none 0 0, .slice none 0 0], []⟩ 8 (by kernel_rfl) (by kernel_rfl) (by kernel_rfl) (by kernel_rfl)) ?_
  intro W base args ds gs before hval0 hW hcnd _
  have hval : ∀ (j : Nat) t v, Try.f5.params[j]? = some t → args[j]? = some v → Value.okWide Try.prog W .any base t v := hval0
  have hW' := hW
  obtain ⟨p, q, hA0, hV, rfl, hfz, hnd⟩ := hW
  have hA : DataW.TrodAll enc Try.prog W 0 (fun _ => true) true Try.f5.params.toList args.toList ds p := hA0
  rw [Try.params5] at hA hval
  obtain ⟨v0, vs0, d0, ds0, p0, q0, hargs, rfl, rfl, h0, r0⟩ := trodAll_cons hA
  obtain ⟨v1, vs1, d1, ds1, p1, q1, rfl, rfl, rfl, h1, r1⟩ := trodAll_cons r0
  obtain ⟨rfl, rfl, rfl⟩ := trodAll_nil r1
  obtain rfl : args = #[v0, v1] := by cases args; simp_all
  obtain ⟨rfl, rfl⟩ := trodVars_none hV
  obtain ⟨a0, len0, cap0, rfl⟩ := okWide_slice Try.underlying22 (hval 0 22 v0 rfl rfl)
  have k0 := h0
  have lt0 : ∀ x ∈ p0, x.block < W.heap.size := by obtain ⟨m, hm⟩ := k0; exact DataW.trod_lt m _ _ _ hm
  obtain ⟨l0, w0⟩ : ∃ l, RdB W a0 len0 cap0 l := by
    obtain ⟨fuel, hf⟩ := h0
    rcases open_ints Try.underlying22 Try.underlying5 (by kernel_rfl) hf with ⟨hcs, _⟩ | ⟨x, l, c, zs, hcs, _, hl, hm, hz, _, hcell, hwz⟩
    · simp [Value.cells] at hcs
      obtain ⟨rfl, rfl, rfl⟩ := hcs
      exact ⟨[], RdB.nil _⟩
    · simp [Value.cells] at hcs
      obtain ⟨rfl, rfl, rfl⟩ := hcs
      exact RdB.of_ints (.inr ⟨_, rfl, hl, hm, by simpa using hz, hcell, hwz⟩)
  obtain ⟨a1, len1, cap1, rfl⟩ := okWide_slice Try.underlying22 (hval 1 22 v1 rfl rfl)
  have k1 := h1
  have lt1 : ∀ x ∈ p1, x.block < W.heap.size := by obtain ⟨m, hm⟩ := k1; exact DataW.trod_lt m _ _ _ hm
  obtain ⟨l1, w1⟩ : ∃ l, RdB W a1 len1 cap1 l := by
    obtain ⟨fuel, hf⟩ := h1
    rcases open_ints Try.underlying22 Try.underlying5 (by kernel_rfl) hf with ⟨hcs, _⟩ | ⟨x, l, c, zs, hcs, _, hl, hm, hz, _, hcell, hwz⟩
    · simp [Value.cells] at hcs
      obtain ⟨rfl, rfl, rfl⟩ := hcs
      exact ⟨[], RdB.nil _⟩
    · simp [Value.cells] at hcs
      obtain ⟨rfl, rfl, rfl⟩ := hcs
      exact RdB.of_ints (.inr ⟨_, rfl, hl, hm, by simpa using hz, hcell, hwz⟩)
  clear hA0 hval0
  refine (edForms_any W w0 w1).mono fun e W' ⟨he, bel⟩ => ?_
  subst he
  exact ⟨_, rfl, _, _, _, [], _, [], hW', trodAll_mk1 (shut_bool Try.underlying4 _), (trodAll_cons_mk (Below.trod laidOut (by kernel_rfl) (of_decide_eq_true (by kernel_rfl)) k0 bel lt0) (trodAll_cons_mk (Below.trod laidOut (by kernel_rfl) (of_decide_eq_true (by kernel_rfl)) k1 bel lt1) trodAll_mk0)), rfl, bel.frame _, fun h => by cases h⟩
theorem over : Rows.edFormsRow.holds Try.pinned (OpenSpec.ofChange Rows.edFormsSpec) :=
  OpenClaim.holds_of_wide 5 Try.f5 rfl rfl rfl rfl rfl rfl rfl ⟨rfl, rfl, rfl, rfl, rfl⟩ rfl rfl rfl rfl rfl (by kernel_rfl) Try.func5 (by kernel_rfl)
    (of_decide_eq_true (by kernel_rfl)) (by unfold Func.isWrapper; first | (rw [if_pos (by decide +kernel)]; kernel_rfl) | (rw [if_neg (by decide +kernel)]; exact ⟨rfl, rfl⟩))
    (fun os started H enc _ => lifted os started H enc)
theorem proved : Rows.EdFormsSaid := over
#print axioms proved
end edFormsDone

end Go.Proofs.Ytielgpefoameiaa
