/- Of chapter 16, StoreNothing: for every input the law returns true, and each argument reads behind the call as it read before. No condition. -/
import Derived.Test.YtogjbhkhdccahaaZSOB
import Derived.ProofKit
import Derived.ShutString
import Derived.ChangeOld
namespace Go.Proofs.Ytogjbhkhdccahaa
open Go Go.ChangeShapes Go.WideShapes Go.ChangeAt Go.RowKit Go.Maps

theorem stRoom_lt {N : Nat} (w : World) (h : N < 64) : Calls Try.prog 18 #[.int .i64 (N : Int)] w fun e w' => e = .returned (.int .i64 0) ∧ w = w' := (stRoom_any (n := N) w (by omega)).mono (fun _ _ ⟨h1, h2⟩ => ⟨by rw [h1, if_pos h]; rfl, h2⟩)
theorem stRoom_ge {N : Nat} (w : World) (h : ¬ N < 64) (h2 : N ≤ 1000) : Calls Try.prog 18 #[.int .i64 (N : Int)] w fun e w' => e = .returned (.int .i64 ((20 * N : Nat) : Int)) ∧ w = w' := (stRoom_any (n := N) w (by omega)).mono (fun _ _ ⟨h1, h3⟩ => ⟨by rw [h1, if_neg h], h3⟩)
theorem bNew_N {N : Nat} {w : World} (h0 : 0 < N) (h1 : N ≤ 1000) : Calls Try.prog 20 #[.int .i64 (N : Int)] w fun e w' => ∃ g F, e = .returned (.tuple #[.pointer (some ⟨g, 0, none⟩), .int .i64 0]) ∧ Dv w' g (Bd.new N) F ∧ DxN w.heap.size noK w' g (Bd.new N) ∧ Below w.heap.size w w' :=
  (bNew_any h0 h1).mono fun _ _ ⟨g, F, e1, hD, hF, hb⟩ => ⟨g, F, e1, hD, ⟨⟨F, hD, fun x hx => ⟨hF x hx, id⟩⟩, fun _ h => h.elim, hb.size⟩, hb⟩
set_option maxRecDepth 100000 in
set_option maxHeartbeats 4000000 in
theorem nothing_main {blocks n : Int} (w : World) (h1 : 1 ≤ blocks) (h2 : blocks ≤ 200) (h3 : n ≤ 300) :
    Calls Try.prog 6 #[.int .i64 blocks, .int .i64 n] w fun e w' => e = .returned (.bool true) ∧ Below w.heap.size w w' := by
  have f_blocks : decide (blocks < 1) = false := decide_eq_false (by omega)
  have d_blocks : decide (200 < blocks) = false := decide_eq_false (by omega)
  have d_n : decide (300 < n) = false := decide_eq_false (by omega)
  obtain ⟨N, rfl⟩ : ∃ N : Nat, blocks = (N : Int) := ⟨blocks.toNat, by omega⟩
  obtain ⟨M, hM⟩ : ∃ M : Nat, max n 0 = (M : Int) := ⟨(max n 0).toNat, by omega⟩
  have hM3 : M ≤ 300 := by omega
  replace hM : max n 0 = (M : Int) ∧ M ≤ 300 := ⟨hM, hM3⟩
  have hmx := hM.1
  have hmx2 : (if n < 0 then (0 : Int) else n) = (M : Int) := by rw [← hmx]; split <;> omega
  have HN0 : Hid (0 < N) := Lib.hid (by omega)
  have HN1 : Hid (N ≤ 1000) := Lib.hid (by omega)
  have hw20 : IntKind.i64.wrap (20 * (N : Int)) = ((20 * N : Nat) : Int) := by rw [IntKind.wrap_i64]; omega
  clear hM3
  by_cases hx : N < 64
  · skip
    have HM := Lib.hid hM
    have c64 : decide ((64 : Int) ≤ (N : Int)) = false := decide_eq_false (by omega)
    have c65 : decide (64 ≤ N) = false := decide_eq_false (by omega)
    have hq2 : ((0 : Int) == 20 * (N : Int)) = false := by rw [beq_eq_false_iff_ne]; omega
    have hq : ((0 : Int) == ((20 * N : Nat) : Int)) = false := by rw [beq_eq_false_iff_ne]; omega
    have HX := Lib.hid hx
    clear h1 h2 h3 hx hM
    go_enter Try.func6, Try.ntmps6
    go_wp2_with (first
      | (go_at_call 20; (with_reducible refine (bNew_N HN0.out HN1.out).mono ?_); rintro e w1 ⟨g, F, rfl, hV, hD, hb⟩; have HV := Lib.hid hV; have HD := Lib.hid hD; have HB := Lib.hid hb; clear hV hD hb)
      | (go_at_call 14; go_must (refine (stOpen_small HV.out (by show (List.replicate N zero64).length < 64; rw [List.length_replicate]; exact HX.out)).mono ?_; rintro e wz ⟨rfl, rfl⟩; have hmk := mkB M (by have := HM.out; omega) w1))
      | (go_at_call 16; (with_reducible refine (stLoad_nil _).mono ?_); rintro e wz ⟨rfl, rfl⟩)
      | (go_at_call 13; (with_reducible refine (stSave_nil _).mono ?_); rintro e wz ⟨rfl, rfl⟩)
      | (go_at_call 21; (with_reducible refine (stCount_nil _).mono ?_); rintro e wz ⟨rfl, rfl⟩)
      | (go_at_call 19; (with_reducible refine (stDead_nil _).mono ?_); rintro e wz ⟨rfl, rfl⟩)
      | (go_at_call 18; (with_reducible refine (stRoom_lt _ HX.out).mono ?_); rintro e wz ⟨rfl, rfl⟩)
      | (go_at_call 9; (with_reducible refine (stAwake_any _).mono ?_); rintro e w8 ⟨rfl, hb⟩; have HB8 := Lib.hid (Below.call (HB.out.alloc HB.out.size _) hb); clear hb))
    go_ret
    exact ⟨rfl, HB8.out⟩
  · skip
    have HM := Lib.hid hM
    have c64 : decide ((64 : Int) ≤ (N : Int)) = true := decide_eq_true (by omega)
    have c65 : decide (64 ≤ N) = true := decide_eq_true (by omega)
    have hq : (((20 * N : Nat) : Int) == ((20 * N : Nat) : Int)) = true := by simp
    have HX := Lib.hid hx
    clear h1 h2 h3 hx hM
    go_enter Try.func6, Try.ntmps6
    go_wp2_with (first
      | (go_at_call 20; (with_reducible refine (bNew_N HN0.out HN1.out).mono ?_); rintro e w1 ⟨g, F, rfl, hV, hD, hb⟩; have HV := Lib.hid hV; have HD := Lib.hid hD; have HB := Lib.hid hb; clear hV hD hb)
      | (go_at_call 14; go_must (refine (stOpen_new HD.out (Gs.new (by have := HX.out; omega)) (by show (List.replicate N zero64).length ≤ 1000; rw [List.length_replicate]; exact HN1.out) (by show (0 : Nat) < 1000000; omega) (by show (0 : Int) ≤ 9223372036854775807; omega) (On.flushC ⟨rfl, rfl⟩)).mono ?_; rintro e w2 ⟨s2, rfl, hS, hO⟩; have HB2 := Lib.hid (HB.out.trans (hO.below HB.out.size)); have hmk := mkB M (by have := HM.out; omega) w2; clear hS hO))
      | (go_at_call 16; (with_reducible refine (stLoad_nil _).mono ?_); rintro e wz ⟨rfl, rfl⟩)
      | (go_at_call 13; (with_reducible refine (stSave_nil _).mono ?_); rintro e wz ⟨rfl, rfl⟩)
      | (go_at_call 21; (with_reducible refine (stCount_nil _).mono ?_); rintro e wz ⟨rfl, rfl⟩)
      | (go_at_call 19; (with_reducible refine (stDead_nil _).mono ?_); rintro e wz ⟨rfl, rfl⟩)
      | (go_at_call 18; (with_reducible refine (stRoom_ge _ HX.out HN1.out).mono ?_); rintro e wz ⟨rfl, rfl⟩)
      | (go_at_call 9; (with_reducible refine (stAwake_any _).mono ?_); rintro e w8 ⟨rfl, hb⟩; have HB8 := Lib.hid (Below.call (HB2.out.alloc HB2.out.size _) hb); clear hb))
    go_ret
    exact ⟨rfl, HB8.out⟩
set_option maxRecDepth 100000 in
set_option maxHeartbeats 1000000 in
theorem nothing_big {blocks n : Int} (w : World) (h : blocks < 1 ∨ 200 < blocks ∨ 300 < n) :
    Calls Try.prog 6 #[.int .i64 blocks, .int .i64 n] w fun e w' => e = .returned (.bool true) ∧ Below w.heap.size w w' := by
  by_cases h0 : blocks < 1
  · have f_blocks : decide (blocks < 1) = true := decide_eq_true (by omega)
    clear h h0
    go_enter Try.func6, Try.ntmps6
    go_wp2_with (go_at_call 9; (with_reducible refine (stAwake_any _).mono ?_); rintro e w1 ⟨rfl, hb⟩)
    go_ret
    exact ⟨rfl, hb⟩
  have f_blocks : decide (blocks < 1) = false := decide_eq_false (by omega)
  replace h : 200 < blocks ∨ 300 < n := by omega
  clear h0
  by_cases h1 : 200 < blocks
  · have d_blocks : decide (200 < blocks) = true := decide_eq_true (by omega)
    clear h h1
    go_enter Try.func6, Try.ntmps6
    go_wp2_with (go_at_call 9; (with_reducible refine (stAwake_any _).mono ?_); rintro e w1 ⟨rfl, hb⟩)
    go_ret
    exact ⟨rfl, hb⟩
  have d_blocks : decide (200 < blocks) = false := decide_eq_false (by omega)
  replace h : 300 < n := by omega
  clear h1
  have d_n : decide (300 < n) = true := decide_eq_true (by omega)
  clear h
  go_enter Try.func6, Try.ntmps6
  go_wp2_with (go_at_call 9; (with_reducible refine (stAwake_any _).mono ?_); rintro e w1 ⟨rfl, hb⟩)
  go_ret
  exact ⟨rfl, hb⟩
theorem storeNothing_any {blocks n : Int} (w : World) (_hb : (Lit.int .i64 blocks).wf = true) (_hn : (Lit.int .i64 n).wf = true) :
    Calls Try.prog 6 #[.int .i64 blocks, .int .i64 n] w fun e w' => e = .returned (.bool true) ∧ Below w.heap.size w w' := by
  by_cases h : blocks < 1 ∨ 200 < blocks ∨ 300 < n
  · exact nothing_big w h
  · exact nothing_main w (by omega) (by omega) (by omega)
namespace storeNothingDone
theorem own : ownKnob Try.prog.godebug = none := by kernel_rfl
theorem laidOut : laidOutB Try.prog = true := by kernel_rfl
set_option maxRecDepth 100000 in
theorem lifted (os : Os) (started : os.Started) (H : Type) (enc : TypeId × Value → H) :
    ReturnsInHanded {} Try.checked os 6 .any (Rows.storeNothingSpec.pre6 enc Try.prog Try.f6 Rows.storeNothingRow.domain false) (Rows.storeNothingSpec.post enc Try.prog Try.f6 false true false false) := by
  refine returnsInHanded_of_change (C := Try.checked) own started (by kernel_rfl) Try.func6
    (ChangeSpec.witness6 (enc := enc) (C := Try.checked) false ⟨#[], #[.int .i64 0, .int .i64 0], []⟩ 8 (by kernel_rfl) (by kernel_rfl) (by kernel_rfl) (by kernel_rfl)) ?_
  intro W base args ds gs before hval0 hW hcnd _
  have hval : ∀ (j : Nat) t v, Try.f6.params[j]? = some t → args[j]? = some v → Value.okWide Try.prog W .any base t v := hval0
  have hW' := hW
  obtain ⟨p, q, hA0, hV, rfl, hfz, hnd⟩ := hW
  have hA : DataW.TrodAll enc Try.prog W 0 (fun _ => true) true Try.f6.params.toList args.toList ds p := hA0
  rw [Try.params6] at hA hval
  obtain ⟨v0, vs0, d0, ds0, p0, q0, hargs, rfl, rfl, h0, r0⟩ := trodAll_cons hA
  obtain ⟨v1, vs1, d1, ds1, p1, q1, rfl, rfl, rfl, h1, r1⟩ := trodAll_cons r0
  obtain ⟨rfl, rfl, rfl⟩ := trodAll_nil r1
  obtain rfl : args = #[v0, v1] := by cases args; simp_all
  obtain ⟨rfl, rfl⟩ := trodVars_none hV
  obtain ⟨a0, rfl, rfl, rfl, w0⟩ := open_int Try.underlying3 (hval 0 3 v0 rfl rfl) h0
  obtain ⟨a1, rfl, rfl, rfl, w1⟩ := open_int Try.underlying3 (hval 1 3 v1 rfl rfl) h1
  clear hA0 hval0
  refine (storeNothing_any W w0 w1).mono fun e W' ⟨he, bel⟩ => ?_
  subst he
  exact ⟨_, rfl, _, _, _, [], _, [], hW', trodAll_mk1 (shut_bool Try.underlying4 _), (trodAll_cons_mk (shut_int Try.underlying3 w0) (trodAll_cons_mk (shut_int Try.underlying3 w1) trodAll_mk0)), rfl, bel.frame _, fun h => by cases h⟩
theorem over : Rows.storeNothingRow.holds Try.pinned (OpenSpec.ofChange Rows.storeNothingSpec) :=
  OpenClaim.holds_of_wide 6 Try.f6 rfl rfl rfl rfl rfl rfl rfl ⟨rfl, rfl, rfl, rfl, rfl⟩ rfl rfl rfl rfl rfl (by kernel_rfl) Try.func6 (by kernel_rfl)
    (of_decide_eq_true (by kernel_rfl)) (by unfold Func.isWrapper; first | (rw [if_pos (by decide +kernel)]; kernel_rfl) | (rw [if_neg (by decide +kernel)]; exact ⟨rfl, rfl⟩))
    (fun os started H enc _ => lifted os started H enc)
theorem proved : Rows.StoreNothingSaid := over
#print axioms proved
end storeNothingDone

end Go.Proofs.Ytogjbhkhdccahaa
