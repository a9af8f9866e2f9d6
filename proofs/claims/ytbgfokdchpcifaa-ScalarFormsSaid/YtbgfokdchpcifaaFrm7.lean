/- Of chapter 7: ScalarForms for few bytes. -/
import Derived.Test.YtbgfokdchpcifaaSrt
import Derived.Test.YtbgfokdchpcifaaLsc
import Derived.Deep.RegionHeld3
import Derived.Test.YtbgfokdchpcifaaRnd
namespace Go.Proofs.Ytbgfokdchpcifaa
open Go Go.RowKit

theorem make32 (w : World) : (Instr.makeSlice 22 (.int .i64 32) (.int .i64 32)).run Try.prog w = .ok (.slice (some ⟨w.heap.size, 0, none⟩) 32 32) (w.alloc (.cells (row 32 (uV fun _ => 0)).toArray 5)) := by kernel_rfl
/-- The bytes of the lowest k digits. -/
def cbV (x k i : Nat) : Value := .int .u8 (dB (x % 2 ^ k) i : Nat)
theorem cbV_start (x : Nat) : row 32 (uV fun _ => 0) = row 32 (cbV x 0) := row_ext fun i hi => by
  unfold uV cbV dB; rw [Nat.pow_zero, Nat.mod_one, Nat.zero_div]
theorem cb_mod (x k : Nat) : x % 2 ^ (k + 1) = x % 2 ^ k + 2 ^ k * (x / 2 ^ k % 2) := Nat.mod_pow_succ
theorem cb_other (x k i : Nat) (h : i ≠ k / 8) : dB (x % 2 ^ (k + 1)) i = dB (x % 2 ^ k) i := by
  rw [cb_mod]
  unfold dB
  have hb : x / 2 ^ k % 2 < 2 := Nat.mod_lt _ (by omega)
  have hm := Nat.mod_lt x (Nat.pow_pos (n := k) (show 0 < 2 by omega))
  generalize x % 2 ^ k = r at *
  generalize x / 2 ^ k % 2 = b at *
  rcases Nat.lt_or_ge i (k / 8) with h1 | h1
  · have e : 2 ^ k * b = 256 ^ i * (256 * (2 ^ (k - 8 * i - 8) * b)) := by
      rw [p256, ← Nat.mul_assoc, ← Nat.mul_assoc, show (256 : Nat) = 2 ^ 8 from rfl, ← Nat.pow_add, ← Nat.pow_add]
      congr 2; omega
    rw [e, Nat.add_mul_div_left _ _ (pow256 i), Nat.add_mul_mod_self_left]
  · have h2 : 2 ^ (k + 1) ≤ 256 ^ i := by rw [p256]; exact Nat.pow_le_pow_right (by omega) (by omega)
    have h3 : 2 ^ k * b ≤ 2 ^ k := by
      have : b = 0 ∨ b = 1 := by omega
      rcases this with rfl | rfl <;> omega
    rw [Nat.pow_succ] at h2
    rw [Nat.div_eq_of_lt (by omega), Nat.div_eq_of_lt (by omega)]
theorem cb_same (x k : Nat) : dB (x % 2 ^ (k + 1)) (k / 8) = dB (x % 2 ^ k) (k / 8) + 2 ^ (k % 8) * (x / 2 ^ k % 2) ∧ dB (x % 2 ^ k) (k / 8) < 2 ^ (k % 8) := by
  rw [cb_mod]
  unfold dB
  have hb : x / 2 ^ k % 2 < 2 := Nat.mod_lt _ (by omega)
  have hm := Nat.mod_lt x (Nat.pow_pos (n := k) (show 0 < 2 by omega))
  generalize x % 2 ^ k = r at *
  generalize x / 2 ^ k % 2 = b at *
  have e : 2 ^ k = 256 ^ (k / 8) * 2 ^ (k % 8) := by rw [p256, ← Nat.pow_add]; congr 1; omega
  rw [e] at hm
  have hq : r / 256 ^ (k / 8) < 2 ^ (k % 8) := by rw [Nat.div_lt_iff_lt_mul (pow256 _), Nat.mul_comm]; exact hm
  rw [e, Nat.mul_assoc, Nat.add_mul_div_left _ _ (pow256 _)]
  generalize r / 256 ^ (k / 8) = q at *
  have h8 : k % 8 = 0 ∨ k % 8 = 1 ∨ k % 8 = 2 ∨ k % 8 = 3 ∨ k % 8 = 4 ∨ k % 8 = 5 ∨ k % 8 = 6 ∨ k % 8 = 7 := by omega
  have hb2 : b = 0 ∨ b = 1 := by omega
  refine ⟨?_, ?_⟩
  · rcases h8 with h | h | h | h | h | h | h | h <;> rw [h] at hq ⊢ <;> rcases hb2 with rfl | rfl <;> simp only [Nat.reducePow] at hq ⊢ <;> omega
  · rcases h8 with h | h | h | h | h | h | h | h <;> rw [h] at hq ⊢ <;> simp only [Nat.reducePow] at hq ⊢ <;> omega
theorem cb_step (x k : Nat) (_ : k < 256) : (row 32 (cbV x k)).set (k / 8) (.int .u8 (dB (x % 2 ^ (k + 1)) (k / 8) : Nat)) = row 32 (cbV x (k + 1)) := by
  refine row_set (k / 8) _ rfl (fun i _ hi => ?_)
  unfold cbV
  rw [cb_other x k i hi]
theorem or_bit : ∀ j : Fin 8, ∀ d : Fin 256, ∀ b : Fin 2, d.val < 2 ^ j.val → bits BinOp.or IntKind.u8 (d.val : Int) ((b.val : Int) * 2 ^ j.val % 256) = ((d.val + 2 ^ j.val * b.val : Nat) : Int) := by decide +kernel
theorem cb_or (x k : Nat) : bits BinOp.or IntKind.u8 (dB (x % 2 ^ k) (k / 8) : Nat) (((x / 2 ^ k % 2 : Nat) : Int) * 2 ^ (k % 8) % 256) = (dB (x % 2 ^ (k + 1)) (k / 8) : Nat) := by
  obtain ⟨h1, h2⟩ := cb_same x k
  rw [h1]
  exact or_bit ⟨k % 8, Nat.mod_lt _ (by omega)⟩ ⟨dB (x % 2 ^ k) (k / 8), dB_lt _ _⟩ ⟨x / 2 ^ k % 2, Nat.mod_lt _ (by omega)⟩ h2
theorem cbV_full {x : Nat} (h : x < 2 ^ 256) : row 32 (cbV x 256) = (leB 32 x).map bV := by
  apply List.ext_getElem
  · simp [row, leB_len]
  · intro i h1 h2
    have hi : i < 32 := by simpa [row] using h1
    simp only [row, List.getElem_map, List.getElem_range, leB_get, bV, cbV, UInt8.toNat_ofNat', dB]
    rw [Nat.mod_eq_of_lt h, p256]
theorem leB_cell {w : World} {g E x i : Nat} {r : List Value} (h : Blk w g ((leB 32 x).map bV ++ r) E) (hi : i < 32) : w.cell? ⟨g, i, none⟩ = some (.int .u8 (dB x i : Nat)) := by
  rw [h.cell, List.getElem?_append_left (by simp [leB_len]; omega)]
  simp only [List.getElem?_map, List.getElem?_eq_getElem (show i < (leB 32 x).length by rw [leB_len]; exact hi), Option.map_some, leB_get, bV, UInt8.toNat_ofNat', dB, p256]
/-- The sum, its lowest bytes reckoned. -/
def sdV (s j i : Nat) : Value := .int .u8 ((if i < j then dB s i else 0 : Nat) : Nat)
theorem sdV_start (s : Nat) : row 32 (uV fun _ => 0) = row 32 (sdV s 0) := row_ext fun i hi => by unfold uV sdV; rw [if_neg (by omega)]
theorem sdV_step (s j : Nat) : (row 32 (sdV s j)).set j (.int .u8 (dB s j : Nat)) = row 32 (sdV s (j + 1)) := by
  refine row_set j _ (by simp [sdV]) (fun i _ hi => ?_)
  unfold sdV
  by_cases h : i < j
  · rw [if_pos h, if_pos (by omega)]
  · rw [if_neg h, if_neg (by omega)]
theorem sdV_full {s : Nat} (h : s < 2 ^ 256) : row 32 (sdV s 32) = (leB 32 s).map bV := by
  rw [← cbV_full h]
  exact row_ext fun i hi => by unfold sdV cbV; rw [if_pos hi, Nat.mod_eq_of_lt h]
theorem rOrder_any (w : World) : Calls Try.prog 14 #[] w (NewBy w (leB 32 Lq)) := by
  have hrd : ∀ W : World, ∀ g, Blk W g (row 32 (uV (bR 32 Lq))) 5 → RdB W (some ⟨g, 0, none⟩) 32 32 ((leB 32 Lq).reverse) := fun W g h => rdRow h (by unfold maxLen; omega)
  have HRD := Lib.hid hrd
  clear hrd
  go_enter Try.func14, Try.ntmps14
  go_wp2_with (first | (go_at_call 32; go_must (refine (rorder_any _).mono ?_; rintro e w1 ⟨rfl, hP, hb⟩; have hR := HRD.out _ _ hP; clear hP))     | (go_at_call 31; go_must (refine (rturned_any _ hR (by omega) (by omega)).mono ?_; intro e w2 hN; rw [List.reverse_reverse] at hN; have hN2 := Lib.hid (NewBy.on hN hb); clear hN hR; obtain ⟨g, n', cap', r, he, hr⟩ := hN2.out; subst he)))
  go_ret
  exact hN2.out
theorem round_0 (w : World) : Calls Try.prog 15 #[.int .i64 0, .int .i64 2] w fun e w' => e = .returned (.int .i64 0) ∧ Below w.heap.size w w' :=
  (round_any 0 0 2 (by omega) (by omega) (by omega) w).mono fun _ _ ⟨he, hw⟩ => ⟨he, by rw [← hw]; exact Below.refl _ _⟩
theorem sumL_lt {x : F} (h : x.val < Lq) : x.val + Lq < 2 ^ 256 := by
  have : Lq + Lq < 2 ^ 256 := by decide +kernel
  omega
theorem sumL_no {x : F} (h : x.val < Lq) : ssV (leB 32 (x.val + Lq)) = 0 ∧ ssC (leB 32 (x.val + Lq)) = 2 := by
  have e : scOk (leB 32 (x.val + Lq)) = false := by
    unfold scOk
    rw [leN_leB, Nat.mod_eq_of_lt (show x.val + Lq < 2 ^ (8 * 32) from sumL_lt h), decide_eq_false (show ¬ x.val + Lq < Lq by omega), Bool.and_false]
  unfold ssV ssC
  rw [e]
  exact ⟨rfl, rfl⟩
theorem sumL_wide {x : F} (h : x.val < Lq) : wS (leB 32 (x.val + Lq)) = x := by
  apply F.ext'
  rw [wS_32 (leB_len _ _), leN_leB, Nat.mod_eq_of_lt (show x.val + Lq < 2 ^ (8 * 32) from sumL_lt h), Nat.add_mod_right, Nat.mod_eq_of_lt h]
theorem wS_lt (l : List UInt8) : (wS l).val < Lq := by unfold wS; rw [fn_sc (Nat.mod_lt _ Lq_0)]; exact Nat.mod_lt _ Lq_0
theorem ok_leB {x : F} (h : x.val < Lq) : scOk (leB 32 x.val) = true := by
  simp [scOk, leB_len, leN_leB, Nat.mod_eq_of_lt (show x.val < 2 ^ (8 * 32) from sc256 h), h]
theorem st_leB {x : F} (h : x.val < Lq) : ssV (leB 32 x.val) = x ∧ ssC (leB 32 x.val) = 0 := by
  unfold ssV ssC
  rw [ok_leB h]
  refine ⟨?_, rfl⟩
  rw [if_pos rfl]
  apply F.ext'
  rw [leN_leB, Nat.mod_eq_of_lt (sc256 h), fn_sc h]
theorem wS_leB {x : F} (h : x.val < Lq) : wS (leB 32 x.val) = x := by
  apply F.ext'
  rw [wS_32 (leB_len _ _), leN_leB, Nat.mod_eq_of_lt (sc256 h), Nat.mod_eq_of_lt h]
set_option maxRecDepth 100000 in
set_option maxHeartbeats 8000000 in
theorem scalarForms_few {a : Option Addr} {n capa : Nat} {la : List UInt8} {x : F} (hx : wS la = x) (w : World) (ha : RdB w a n capa la) (hn : n ≤ 100) :
    Calls Try.prog 3 #[.slice a n capa] w fun e w' => e = .returned (.bool true) ∧ Below w.heap.size w w' := by
  have hxl : x.val < Lq := by rw [← hx]; exact wS_lt la
  have HXL := Lib.hid hxl
  have HX := Lib.hid hx
  have HS1 := Lib.hid (st_leB hxl).1; have HS2 := Lib.hid (st_leB hxl).2; have HW := Lib.hid (wS_leB hxl)
  have dn : decide ((100 : Int) < (n : Int)) = false := by simp; omega
  clear hn hx hxl
  go_enter Try.func3, Try.ntmps3
  have hbel : Below w.heap.size w w := Below.refl _ _
  have hbel0 := hbel
  go_upto_region 3 with fail
  clear dn
  refine wp_region_turn (fun u => (.slice a n capa :: undef :: .bool false :: u 2 :: undef :: undef :: undef :: undef :: undef :: undef :: undef :: undef :: undef :: undef :: undef :: undef :: undef :: .slice a n capa :: .int .i64 (n : Nat) :: .bool false :: undef :: u 0 :: u 1 :: undef :: undef :: undef :: undef :: undef :: undef :: undef :: undef :: undef :: undef :: undef :: undef :: undef :: undef :: undef :: undef :: undef :: undef :: undef :: undef :: undef :: undef :: undef :: undef :: undef :: undef :: undef :: undef :: undef :: undef :: undef :: undef :: undef :: undef :: undef :: undef :: undef :: undef :: undef :: undef :: undef :: undef :: undef :: undef :: undef :: undef :: undef :: undef :: undef :: undef :: undef :: undef :: undef :: undef :: undef :: undef :: undef :: undef :: undef :: undef :: undef :: undef :: undef :: undef :: undef :: undef :: undef :: undef :: undef :: undef :: undef :: undef :: undef :: undef :: undef :: undef :: undef :: undef :: undef :: undef :: undef :: undef :: undef :: undef :: undef :: undef :: undef :: undef :: undef :: undef :: undef :: undef :: undef :: undef :: undef :: undef :: undef :: undef :: undef :: undef :: undef :: undef :: undef :: undef :: undef :: undef :: undef :: undef :: undef :: undef :: []).toArray) (Holds [.oth (fun v => v = .slice a n capa), .val rS [x], .new 4, .st 2 rS [x]] w) (Keep [.oth (fun v => v = .slice a n capa), .val rS [x], .new 4, .st 2 rS [x]] w) (fun _ => undef) ?_ (by rfl) Keep.start (holds_soft (by kernel_rfl)) ?_ ?_
  · intro u i v h
    rcases i with _ | _ | _ | _ | i
    all_goals first | (simp [Act.put, putV]; done) | (exfalso; simp at h; omega)
  · intro hs
    refine ⟨?_, ?_, ?_, ?_, trivial⟩
    · exact step_pureO hs (wants_none rfl) rfl fun L u W hG hdep => ⟨_, run_move rfl, rfl⟩
    · refine step_call hs (wants_none rfl) rfl fun L u W hJ hG hL hdep K hK => ?_
      have x0 := (show u 0 = .slice a n capa from hG 0 (hdep 0 (by kernel_rfl)))
      have hRB0 := (ha.below hbel).below (hJ.all rfl)
      go_simp
      go_at_call 9
      (with_reducible refine (cWide HX.out hRB0).mono ?_); rintro e w1 ⟨r, rfl, hr, hb⟩
      have hk := hK.out _ _ hr hb
      simp only [x0] at hk
      exact hk
    · exact step_alloc hs (wants_none rfl) rfl rfl (by omega) rfl allocS
    · exact step_store 2 hs (by kernel_rfl) (wants_none rfl) rfl rfl rfl (by kernel_rfl) (by kernel_rfl) (by kernel_rfl) (by kernel_rfl) (fun _ => rfl) (gives_op 1 rfl (by kernel_rfl) (fun _ => rfl)) tyS rfl
  intro L3 u3 W3 hall hJ hG
  obtain ⟨q3, e3, hq3, _, ht3⟩ := (show ∃ g, u3 2 = .pointer (some ⟨g, 0, none⟩) ∧ w.heap.size ≤ g ∧ 0 < 4 ∧ W3.there g 0 4 from hG 2 (by simp))
  have hm3 : HasFs rS W3 q3 0 [x] := by
    obtain ⟨g, e, _, h⟩ := (show ∃ g, u3 2 = .pointer (some ⟨g, 0, none⟩) ∧ w.heap.size ≤ g ∧ HasFs rS W3 g 0 [x] from hG 3 (by simp))
    rw [e3] at e; cases e; exact h
  have hq3 : w.heap.size ≤ q3 := by have := hbel0.size; omega
  have E3 := Lib.hid e3; clear e3
  have hb := hJ.all rfl
  have hbel := Below.call hbel hb
  have hbel0 := hbel
  clear hJ hG hall hb
  go_upto_region 4 with fail
  refine wp_region_turn (fun u => (.slice a n capa :: undef :: .bool false :: u3 2 :: u 2 :: undef :: undef :: undef :: undef :: undef :: undef :: undef :: undef :: undef :: undef :: undef :: undef :: .slice a n capa :: .int .i64 (n : Nat) :: .bool false :: undef :: u3 0 :: u3 1 :: u 0 :: u 1 :: undef :: undef :: undef :: undef :: undef :: undef :: undef :: undef :: undef :: undef :: undef :: undef :: undef :: undef :: undef :: undef :: undef :: undef :: undef :: undef :: undef :: undef :: undef :: undef :: undef :: undef :: undef :: undef :: undef :: undef :: undef :: undef :: undef :: undef :: undef :: undef :: undef :: undef :: undef :: undef :: undef :: undef :: undef :: undef :: undef :: undef :: undef :: undef :: undef :: undef :: undef :: undef :: undef :: undef :: undef :: undef :: undef :: undef :: undef :: undef :: undef :: undef :: undef :: undef :: undef :: undef :: undef :: undef :: undef :: undef :: undef :: undef :: undef :: undef :: undef :: undef :: undef :: undef :: undef :: undef :: undef :: undef :: undef :: undef :: undef :: undef :: undef :: undef :: undef :: undef :: undef :: undef :: undef :: undef :: undef :: undef :: undef :: undef :: undef :: undef :: undef :: undef :: undef :: undef :: undef :: undef :: undef :: undef :: []).toArray) (Holds [.val rS [x], .rd (leB 32 x.val), .rd (leB 32 x.val)] W3) (Keep [.val rS [x], .rd (leB 32 x.val), .rd (leB 32 x.val)] W3) (fun _ => undef) ?_ (by rfl) Keep.start (holds_soft (by kernel_rfl)) ?_ ?_
  · intro u i v h
    rcases i with _ | _ | _ | i
    all_goals first | (simp [Act.put, putV]; done) | (exfalso; simp at h; omega)
  · intro hs
    refine ⟨?_, ?_, ?_, trivial⟩
    · exact step_load q3 0 hs (wants_none rfl) rfl rfl tyS (fun _ => E3.out) hm3.lt hm3 (noSto_apart (by kernel_rfl))
    · refine step_callB hs (wants_none rfl) rfl fun L u W hJ hG hdep K hK => ?_
      have a0 := (show IsFs rS (u 0) [x] from hG 0 (hdep 0 (by kernel_rfl)))
      go_simp
      go_at_call 10
      (with_reducible refine (cScBytes a0 _).mono ?_); rintro e w1 ⟨g, n, cap, r, rfl, h1, h2, h3, h4, h5, hb⟩
      have hk := hK.out _ _ _ _ _ h1 h2 h3 h4 h5 hb
      exact hk
    · exact step_moveB 1 hs (wants_none rfl) rfl (by first | exact .inl rfl | exact .inr rfl) rfl (by kernel_rfl) (fun _ => rfl)
  intro L4 u4 W4 hall hJ hG
  obtain ⟨gB2, nB2, cB2, rB2, eB2, hgB2, hB2, hlB2, hcB2, hmB2⟩ := (show ∃ g n cap r, u4 2 = .slice (some ⟨g, 0, none⟩) n cap ∧ W3.heap.size ≤ g ∧ Blk W4 g ((leB 32 x.val).map bV ++ r) 5 ∧ (leB 32 x.val).length = n ∧ n ≤ cap ∧ cap ≤ maxLen from hG 2 (by simp))
  have hgB2 : w.heap.size ≤ gB2 := by have := hbel0.size; omega
  have EB2 := Lib.hid eB2; clear eB2
  obtain rfl : nB2 = 32 := by have h : (((leB 32 x.val).length : Nat) : Int) = 32 := (by rw [leB_len]; rfl); omega
  have HB2 := Lib.hid hB2; clear hB2
  have HE2_q3 := Lib.hid (show q3 ≠ gB2 by have := there_lt ht3 (by omega); omega)
  have hb := hJ.all rfl
  have hbel := Below.call hbel hb
  have hm3 := hm3.later hb
  have ht3 := there_later ht3 hb
  have hbel0 := hbel
  clear hJ hG hall hb
  go_upto_region 5 with fail
  refine wp_region_turn (fun u => (.slice a n capa :: undef :: .bool false :: u3 2 :: u4 2 :: u 5 :: u 7 :: undef :: undef :: undef :: undef :: undef :: undef :: undef :: undef :: undef :: undef :: .slice a n capa :: .int .i64 (n : Nat) :: .bool false :: undef :: u3 0 :: u3 1 :: u4 0 :: u4 1 :: u 2 :: u 0 :: u 1 :: u 3 :: u 4 :: undef :: undef :: undef :: undef :: undef :: undef :: undef :: undef :: undef :: undef :: undef :: undef :: undef :: undef :: undef :: undef :: undef :: undef :: undef :: undef :: undef :: undef :: undef :: undef :: undef :: undef :: undef :: undef :: undef :: undef :: undef :: undef :: undef :: undef :: undef :: undef :: undef :: undef :: undef :: undef :: undef :: undef :: undef :: undef :: undef :: undef :: undef :: undef :: undef :: undef :: undef :: undef :: undef :: undef :: undef :: undef :: undef :: undef :: undef :: undef :: undef :: undef :: undef :: undef :: undef :: undef :: undef :: undef :: undef :: undef :: undef :: undef :: undef :: undef :: undef :: undef :: undef :: undef :: undef :: undef :: undef :: undef :: undef :: undef :: undef :: undef :: undef :: undef :: undef :: undef :: undef :: undef :: undef :: undef :: undef :: undef :: undef :: undef :: undef :: undef :: undef :: undef :: undef :: []).toArray) (Holds [.oth (fun v => v = .slice (some ⟨gB2, 0, none⟩) 32 cB2), .oth (fun v => IsTV rS v [x] (.int .i64 0)), .oth (fun v => IsTV rS v [x] (.int .i64 0)), .val rS [x], .oth (fun v => v = .int .i64 0), .new 4, .st 5 rS [x], .oth (fun v => v = .int .i64 0)] W4) (Keep [.oth (fun v => v = .slice (some ⟨gB2, 0, none⟩) 32 cB2), .oth (fun v => IsTV rS v [x] (.int .i64 0)), .oth (fun v => IsTV rS v [x] (.int .i64 0)), .val rS [x], .oth (fun v => v = .int .i64 0), .new 4, .st 5 rS [x], .oth (fun v => v = .int .i64 0)] W4) (fun _ => undef) ?_ (by rfl) Keep.start (holds_soft (by kernel_rfl)) ?_ ?_
  · intro u i v h
    rcases i with _ | _ | _ | _ | _ | _ | _ | _ | i
    all_goals first | (simp [Act.put, putV]; done) | (exfalso; simp at h; omega)
  · intro hs
    refine ⟨?_, ?_, ?_, ?_, ?_, ?_, ?_, ?_, trivial⟩
    · exact step_pureO hs (wants_none rfl) rfl fun L u W hG hdep => ⟨_, run_move rfl, EB2.out⟩
    · refine step_callO hs (wants_none rfl) rfl fun L u W hJ hG hdep K hK => ?_
      have x0 := (show u 0 = .slice (some ⟨gB2, 0, none⟩) 32 cB2 from hG 0 (hdep 0 (by kernel_rfl)))
      have hRB0 := (RdB.blk rB2 HB2.out hlB2 hcB2 hmB2).below (hJ.all rfl)
      go_simp
      go_at_call 11
      (with_reducible refine (cScStrict HS1.out HS2.out hRB0).mono ?_); rintro e w1 ⟨r, rfl, hr, hb⟩
      have hk := hK.out _ _ ⟨r, rfl, hr⟩ hb
      simp only [x0] at hk
      exact hk
    · exact step_pureO hs (wants_none rfl) rfl fun L u W hG hdep => ⟨_, run_move rfl, (show IsTV rS (u 1) [x] (.int .i64 0) from hG 1 (hdep 1 (by kernel_rfl)))⟩
    · exact step_pure hs (wants_none rfl) rfl fun L u W hG hdep => run_extractV0 rfl (show IsTV rS (u 2) [x] (.int .i64 0) from hG 2 (hdep 2 (by kernel_rfl)))
    · exact step_pureO hs (wants_none rfl) rfl fun L u W hG hdep => run_extractV1 rfl (show IsTV rS (u 2) [x] (.int .i64 0) from hG 2 (hdep 2 (by kernel_rfl)))
    · exact step_alloc hs (wants_none rfl) rfl rfl (by omega) rfl allocS
    · exact step_store 5 hs (by kernel_rfl) (wants_none rfl) rfl rfl rfl (by kernel_rfl) (by kernel_rfl) (by kernel_rfl) (by kernel_rfl) (fun _ => rfl) (gives_op 3 rfl (by kernel_rfl) (fun _ => rfl)) tyS rfl
    · exact step_pureO hs (wants_none rfl) rfl fun L u W hG hdep => ⟨_, run_assign rfl, (show u 4 = .int .i64 0 from hG 4 (hdep 4 (by kernel_rfl)))⟩
  intro L5 u5 W5 hall hJ hG
  obtain ⟨q5, e5, hq5, _, ht5⟩ := (show ∃ g, u5 5 = .pointer (some ⟨g, 0, none⟩) ∧ W4.heap.size ≤ g ∧ 0 < 4 ∧ W5.there g 0 4 from hG 5 (by simp))
  have hm5 : HasFs rS W5 q5 0 [x] := by
    obtain ⟨g, e, _, h⟩ := (show ∃ g, u5 5 = .pointer (some ⟨g, 0, none⟩) ∧ W4.heap.size ≤ g ∧ HasFs rS W5 g 0 [x] from hG 6 (by simp))
    rw [e5] at e; cases e; exact h
  have HD5_q3 := Lib.hid (show q3 ≠ q5 by have := there_lt ht3 (by omega); omega)
  have hq5 : w.heap.size ≤ q5 := by have := hbel0.size; omega
  have E5 := Lib.hid e5; clear e5
  have hb := hJ.all rfl
  have hbel := Below.call hbel hb
  have hm3 := hm3.later hb
  have ht3 := there_later ht3 hb
  have HB2 := Lib.hid (HB2.out.below' hb)
  have HC6 := Lib.hid (show u5 7 = .int .i64 0 from hG 7 (by simp))
  have hbel0 := hbel
  clear hJ hG hall hb
  go_upto_region 6 with fail
  refine wp_region_mid (fun u => (.slice a n capa :: undef :: .bool false :: u3 2 :: u4 2 :: u5 5 :: u5 7 :: undef :: undef :: undef :: undef :: undef :: undef :: undef :: undef :: undef :: undef :: .slice a n capa :: .int .i64 (n : Nat) :: .bool false :: undef :: u3 0 :: u3 1 :: u4 0 :: u4 1 :: u5 2 :: u5 0 :: u5 1 :: u5 3 :: u5 4 :: u 0 :: u 1 :: u 2 :: u 3 :: u 4 :: u 5 :: u 6 :: u 7 :: u 8 :: u 9 :: u 10 :: u 11 :: u 12 :: u 13 :: u 14 :: u 15 :: u 16 :: u 17 :: u 18 :: u 19 :: undef :: undef :: undef :: undef :: undef :: undef :: undef :: undef :: undef :: undef :: undef :: undef :: undef :: undef :: undef :: undef :: undef :: undef :: undef :: undef :: undef :: undef :: undef :: undef :: undef :: undef :: undef :: undef :: undef :: undef :: undef :: undef :: undef :: undef :: undef :: undef :: undef :: undef :: undef :: undef :: undef :: undef :: undef :: undef :: undef :: undef :: undef :: undef :: undef :: undef :: undef :: undef :: undef :: undef :: undef :: undef :: undef :: undef :: undef :: undef :: undef :: undef :: undef :: undef :: undef :: undef :: undef :: undef :: undef :: undef :: undef :: undef :: undef :: undef :: undef :: undef :: undef :: undef :: undef :: undef :: undef :: undef :: undef :: []).toArray) (Holds [.oth (fun v => v = .slice (some ⟨gB2, 0, none⟩) 32 cB2), .oth (fun v => v = .int .i64 32), .oth (fun v => v = .bool false), .oth (fun v => v = .bool false), .oth (fun v => v = .int .i64 0), .oth (fun v => v = .bool false), .oth (fun v => v = .bool false), .oth (fun v => v = .bool false), .val rS [x], .val rS [x], .oth (fun v => v = .bool true), .oth (fun v => v = .bool false), .oth (fun v => v = .bool false), .oth (fun v => v = .bool false), .oth (fun v => v = .slice (some ⟨gB2, 0, none⟩) 32 cB2), .val rS [x], .val rS [x], .oth (fun v => v = .bool true), .oth (fun v => v = .bool false), .oth (fun v => v = .bool false)] W5) (Keep [.oth (fun v => v = .slice (some ⟨gB2, 0, none⟩) 32 cB2), .oth (fun v => v = .int .i64 32), .oth (fun v => v = .bool false), .oth (fun v => v = .bool false), .oth (fun v => v = .int .i64 0), .oth (fun v => v = .bool false), .oth (fun v => v = .bool false), .oth (fun v => v = .bool false), .val rS [x], .val rS [x], .oth (fun v => v = .bool true), .oth (fun v => v = .bool false), .oth (fun v => v = .bool false), .oth (fun v => v = .bool false), .oth (fun v => v = .slice (some ⟨gB2, 0, none⟩) 32 cB2), .val rS [x], .val rS [x], .oth (fun v => v = .bool true), .oth (fun v => v = .bool false), .oth (fun v => v = .bool false)] W5) (fun _ => undef) (by kernel_rfl) (by kernel_rfl) ?_ (by rfl) Keep.drew (holds_soft (by kernel_rfl)) ?_ ?_
  · intro u i v h
    rcases i with _ | _ | _ | _ | _ | _ | _ | _ | _ | _ | _ | _ | _ | _ | _ | _ | _ | _ | _ | _ | i
    all_goals first | (simp [Act.put, putV]; done) | (exfalso; simp at h; omega)
  · intro hs
    refine ⟨?_, ?_, ?_, ?_, ?_, ?_, ?_, ?_, ?_, ?_, ?_, ?_, ?_, ?_, ?_, ?_, ?_, ?_, ?_, ?_, trivial⟩
    · exact step_pureO hs (wants_none rfl) rfl fun L u W hG hdep => ⟨_, run_move rfl, EB2.out⟩
    · refine step_pureO hs (wants_none rfl) rfl fun L u W hG hdep => ⟨_, ?_, rfl⟩
      have e0 := (show u 0 = .slice (some ⟨gB2, 0, none⟩) 32 cB2 from hG 0 (hdep 0 (by kernel_rfl)))
      go_simp
    · refine step_pureO hs (wants_none rfl) rfl fun L u W hG hdep => ⟨_, ?_, rfl⟩
      have e0 := (show u 1 = .int .i64 32 from hG 1 (hdep 1 (by kernel_rfl)))
      go_simp
      try simp [bne]
    · exact step_pureO hs (wants_none rfl) rfl fun L u W hG hdep => ⟨_, run_move rfl, (show u 2 = .bool false from hG 2 (hdep 2 (by kernel_rfl)))⟩
    · exact step_pureO hs (wants_on 3 rfl rfl (by kernel_rfl) (fun _ => rfl)) rfl fun L u W hG hdep => ⟨_, run_move rfl, HC6.out⟩
    · refine step_pureO hs (wants_on 3 rfl rfl (by kernel_rfl) (fun _ => rfl)) rfl fun L u W hG hdep => ⟨_, ?_, rfl⟩
      have e0 := (show u 4 = .int .i64 0 from hG 4 (hdep 4 (by kernel_rfl)))
      go_simp
      try simp [bne]
    · exact step_pick false hs (wants_none rfl) rfl rfl (fun L u W hG hdep => (show u 3 = .bool false from hG 3 (hdep 3 (by kernel_rfl)))) (fun L u W hG hdep => (show u 5 = .bool false from hG 5 (hdep 5 (by kernel_rfl))))
    · exact step_pureO hs (wants_none rfl) rfl fun L u W hG hdep => ⟨_, run_move rfl, (show u 6 = .bool false from hG 6 (hdep 6 (by kernel_rfl)))⟩
    · exact step_load q5 0 hs (wants_on 7 rfl rfl (by kernel_rfl) (fun _ => rfl)) rfl rfl tyS (fun _ => E5.out) hm5.lt hm5 (noSto_apart (by kernel_rfl))
    · exact step_load q3 0 hs (wants_on 7 rfl rfl (by kernel_rfl) (fun _ => rfl)) rfl rfl tyS (fun _ => E3.out) hm3.lt hm3 (noSto_apart (by kernel_rfl))
    · refine step_callO hs (wants_on 7 rfl rfl (by kernel_rfl) (fun _ => rfl)) rfl fun L u W hJ hG hdep K hK => ?_
      have a0 := (show IsFs rS (u 8) [x] from hG 8 (hdep 8 (by kernel_rfl)))
      have a1 := (show IsFs rS (u 9) [x] from hG 9 (hdep 9 (by kernel_rfl)))
      go_simp
      go_at_call 12
      (with_reducible refine (cScSame (b := true) (decide_eq_true rfl) a0 a1 _).mono ?_); rintro e w1 ⟨rfl, hb⟩
      have hk := hK.out _ _ rfl hb
      exact hk
    · refine step_pureO hs (wants_on 7 rfl rfl (by kernel_rfl) (fun _ => rfl)) rfl fun L u W hG hdep => ⟨_, ?_, rfl⟩
      have e0 := (show u 10 = .bool true from hG 10 (hdep 10 (by kernel_rfl)))
      go_simp
    · exact step_pick false hs (wants_none rfl) rfl rfl (fun L u W hG hdep => (show u 7 = .bool false from hG 7 (hdep 7 (by kernel_rfl)))) (fun L u W hG hdep => (show u 11 = .bool false from hG 11 (hdep 11 (by kernel_rfl))))
    · exact step_pureO hs (wants_none rfl) rfl fun L u W hG hdep => ⟨_, run_move rfl, (show u 12 = .bool false from hG 12 (hdep 12 (by kernel_rfl)))⟩
    · exact step_pureO hs (wants_on 13 rfl rfl (by kernel_rfl) (fun _ => rfl)) rfl fun L u W hG hdep => ⟨_, run_move rfl, EB2.out⟩
    · refine step_call hs (wants_on 13 rfl rfl (by kernel_rfl) (fun _ => rfl)) rfl fun L u W hJ hG hL hdep K hK => ?_
      have x0 := (show u 14 = .slice (some ⟨gB2, 0, none⟩) 32 cB2 from hG 14 (hdep 14 (by kernel_rfl)))
      have hRB0 := (RdB.blk rB2 HB2.out hlB2 hcB2 hmB2).below (hJ.all rfl)
      go_simp
      go_at_call 9
      (with_reducible refine (cWide HW.out hRB0).mono ?_); rintro e w1 ⟨r, rfl, hr, hb⟩
      have hk := hK.out _ _ hr hb
      simp only [x0] at hk
      exact hk
    · exact step_load q3 0 hs (wants_on 13 rfl rfl (by kernel_rfl) (fun _ => rfl)) rfl rfl tyS (fun _ => E3.out) hm3.lt hm3 (noSto_apart (by kernel_rfl))
    · refine step_callO hs (wants_on 13 rfl rfl (by kernel_rfl) (fun _ => rfl)) rfl fun L u W hJ hG hdep K hK => ?_
      have a0 := (show IsFs rS (u 15) [x] from hG 15 (hdep 15 (by kernel_rfl)))
      have a1 := (show IsFs rS (u 16) [x] from hG 16 (hdep 16 (by kernel_rfl)))
      go_simp
      go_at_call 12
      (with_reducible refine (cScSame (b := true) (decide_eq_true rfl) a0 a1 _).mono ?_); rintro e w1 ⟨rfl, hb⟩
      have hk := hK.out _ _ rfl hb
      exact hk
    · refine step_pureO hs (wants_on 13 rfl rfl (by kernel_rfl) (fun _ => rfl)) rfl fun L u W hG hdep => ⟨_, ?_, rfl⟩
      have e0 := (show u 17 = .bool true from hG 17 (hdep 17 (by kernel_rfl)))
      go_simp
    · exact step_pick false hs (wants_none rfl) rfl rfl (fun L u W hG hdep => (show u 13 = .bool false from hG 13 (hdep 13 (by kernel_rfl)))) (fun L u W hG hdep => (show u 18 = .bool false from hG 18 (hdep 18 (by kernel_rfl))))
  intro L6 u6 W6 hall hJ hG
  have hb := hJ.all rfl
  have hbel := Below.call hbel hb
  have hm3 := hm3.later hb
  have hm5 := hm5.later hb
  have ht3 := there_later ht3 hb
  have ht5 := there_later ht5 hb
  have HB2 := Lib.hid (HB2.out.below' hb)
  have HC32 := Lib.hid (show u6 2 = .bool false from hG 2 (by simp))
  have HC33 := Lib.hid (show u6 3 = .bool false from hG 3 (by simp))
  have HC35 := Lib.hid (show u6 5 = .bool false from hG 5 (by simp))
  have HC36 := Lib.hid (show u6 6 = .bool false from hG 6 (by simp))
  have HC37 := Lib.hid (show u6 7 = .bool false from hG 7 (by simp))
  have HC40 := Lib.hid (show u6 10 = .bool true from hG 10 (by simp))
  have HC41 := Lib.hid (show u6 11 = .bool false from hG 11 (by simp))
  have HC42 := Lib.hid (show u6 12 = .bool false from hG 12 (by simp))
  have HC43 := Lib.hid (show u6 13 = .bool false from hG 13 (by simp))
  have HC47 := Lib.hid (show u6 17 = .bool true from hG 17 (by simp))
  have HC48 := Lib.hid (show u6 18 = .bool false from hG 18 (by simp))
  have HC49 := Lib.hid (show u6 19 = .bool false from hG 19 (by simp))
  have hbel0 := hbel
  clear hJ hG hall hb
  have hx : u6 19 = .bool false := HC49.out
  go_wp2_with fail
  rw [hx]
  clear hx
  have hmk := make32
  go_upto_region 11 with fail
  clear hmk
  have e3 := E3.out
  have e4 := EB2.out
  rw [e3, e4]
  clear e3 e4
  have hm3' : HasFs rS (W6.alloc (.cells (row 32 (uV fun _ => 0)).toArray 5)) q3 0 [x] := hm3.later (Below.alloc' (Below.refl _ _) _)
  have HB2' := Lib.hid (HB2.out.alloc (.cells (row 32 (uV fun _ => 0)).toArray 5))
  have hC : Blk (W6.alloc (.cells (row 32 (uV fun _ => 0)).toArray 5)) W6.heap.size (row 32 (cbV x.val 0)) 5 := by rw [← cbV_start]; exact Blk.new _ _ _
  have hbel' : Below w.heap.size w (W6.alloc (.cells (row 32 (uV fun _ => 0)).toArray 5)) := (by repeat (first | (with_reducible refine Below.alloc' ?_ _) | (with_reducible refine Below.drew ?_) | (with_reducible refine below_drewN ?_ _) | ((with_reducible refine Below.setCell ?_ ?_ _); rotate_left; (focus (first | exact Nat.le_refl _ | (simp; done) | (simp; omega)))) | (with_reducible assumption) | (with_reducible exact Below.refl _ _)))
  have hgq : q3 ≠ W6.heap.size := by have := hm3.lt; omega
  have hgB : gB2 ≠ W6.heap.size := by have := HB2.out.lt; omega
  have hgW : w.heap.size ≤ W6.heap.size := hbel.size
  generalize W6.alloc (.cells (row 32 (uV fun _ => 0)).toArray 5) = W7 at *
  generalize W6.heap.size = C at *
  have HQ := Lib.hid hgq; have HG := Lib.hid hgB; have HGW := Lib.hid hgW
  clear hgq hgB hgW hm3 HB2 hbel
  go_loopw [9] (fun i wr => ∃ k : Nat, k ≤ 256 ∧ i = .int .i64 (k : Int) ∧ Blk wr C (row 32 (cbV x.val k)) 5 ∧ HasFs rS wr q3 0 [x] ∧ Blk wr gB2 ((leB 32 x.val).map bV ++ rB2) 5 ∧ Below w.heap.size w wr) (fun i _ => 256 - (intOf i).toNat)
  case atStart => exact ⟨0, by omega, rfl, hC, hm3', HB2'.out, hbel'⟩
  case round =>
    clear hC hm3' HB2' hbel'
    obtain ⟨k, hk, rfl, hC, hX, hB, hbel⟩ := hrel
    by_cases hlt : k < 256
    · have k0 : (0 : Int) ≤ (k : Int) := by omega
      have k1 : (k : Int) < 256 := by omega
      have cc : wr.cell? ⟨C, k / 8, none⟩ = some (.int .u8 (dB (x.val % 2 ^ k) (k / 8) : Nat)) := hC.at (by omega)
      have cf := hC.frozen (k / 8)
      have HC := Lib.hid hC
      have HCB := Lib.hid (fun v (h : IsFs rS v [x]) w => cScBit (k := (k : Int)) (z := ((x.val / 2 ^ k % 2 : Nat) : Int)) (by unfold bitI; rw [if_pos (by omega)]; rfl) h w)
      have HST := Lib.hid (cb_step x.val k hlt)
      have hd := dB_lt (x.val % 2 ^ k) (k / 8)
      have hbt : ((x.val / 2 ^ k % 2 : Nat) : Int) < 2 := by omega
      have hbt0 : (0 : Int) ≤ ((x.val / 2 ^ k % 2 : Nat) : Int) := by omega
      have HOR := Lib.hid (cb_or x.val k)
      obtain ⟨D, hD⟩ : ∃ D, D = dB (x.val % 2 ^ (k + 1)) (k / 8) := ⟨_, rfl⟩
      rw [← hD] at HOR HST
      have hD256 : D < 256 := by rw [hD]; exact dB_lt _ _
      generalize ((x.val / 2 ^ k % 2 : Nat) : Int) = bt at *
      generalize dB (x.val % 2 ^ k) (k / 8) = d at *
      have HCC := Lib.hid cc; have HCF := Lib.hid cf
      have hgC := HGW.out
      have hdiv : (k : Int).tdiv 8 = ((k / 8 : Nat) : Int) := by rw [Int.tdiv_eq_ediv_of_nonneg (by omega)]; omega
      have hrem : (k : Int).tmod 8 = ((k % 8 : Nat) : Int) := by rw [Int.tmod_eq_emod_of_nonneg (by omega)]; omega
      have HB := Lib.hid hB
      have hgq := HQ.out; have hgB := HG.out
      have hk8 : k / 8 < 32 := by omega
      clear hC hB cc cf hD
      go_upto_region 13 with fail
      have hbel0 := hbel
      refine wp_region_mid (fun u => (.slice a n capa :: undef :: .bool false :: .pointer (some ⟨q3, 0, none⟩) :: .slice (some ⟨gB2, 0, none⟩) 32 cB2 :: u5 5 :: u5 7 :: .func (.func 13) #[] #[] :: .slice (some ⟨C, 0, none⟩) 32 32 :: .int .i64 (k : Int) :: undef :: undef :: undef :: undef :: undef :: undef :: undef :: .slice a n capa :: .int .i64 (n : Nat) :: .bool false :: undef :: u3 0 :: u3 1 :: u4 0 :: u4 1 :: u5 2 :: u5 0 :: u5 1 :: u5 3 :: u5 4 :: u6 0 :: u6 1 :: u6 2 :: u6 3 :: u6 4 :: u6 5 :: u6 6 :: u6 7 :: u6 8 :: u6 9 :: u6 10 :: u6 11 :: u6 12 :: u6 13 :: u6 14 :: u6 15 :: u6 16 :: u6 17 :: u6 18 :: .bool false :: .slice (some ⟨C, 0, none⟩) 32 32 :: .int .i64 (k : Int) :: .bool true :: u53 :: u54 :: u 0 :: u 1 :: u 2 :: u 3 :: u 4 :: u 5 :: u 6 :: u 7 :: u 8 :: u 9 :: u 10 :: u 11 :: u 12 :: u 13 :: u 14 :: u 15 :: u 16 :: u 17 :: undef :: undef :: undef :: undef :: undef :: undef :: undef :: undef :: undef :: undef :: undef :: undef :: undef :: undef :: undef :: undef :: undef :: undef :: undef :: undef :: undef :: undef :: undef :: undef :: undef :: undef :: undef :: undef :: undef :: undef :: undef :: undef :: undef :: undef :: undef :: undef :: undef :: undef :: undef :: undef :: undef :: undef :: undef :: undef :: undef :: undef :: undef :: undef :: undef :: undef :: undef :: undef :: undef :: undef :: undef :: undef :: undef :: undef :: undef :: undef :: []).toArray) (Holds [.oth (fun v => v = .slice (some ⟨C, 0, none⟩) 32 32), .oth (fun v => v = .int .i64 (k : Int)), .oth (fun v => v = .int .i64 ((k / 8 : Nat) : Int)), .oth (fun v => v = .slice (some ⟨C, 0, none⟩) 32 32), .oth (fun v => v = .int .i64 (k : Int)), .oth (fun v => v = .int .i64 ((k / 8 : Nat) : Int)), .oth (fun v => v = .pointer (some ⟨C, k / 8, none⟩)), .oth (fun v => v = .int .u8 (d : Nat)), .oth (fun v => v = .func (.func 13) #[] #[]), .val rS [x], .oth (fun v => v = .int .i64 (k : Int)), .oth (fun v => v = .int .i64 bt), .oth (fun v => v = .int .u8 bt), .oth (fun v => v = .int .i64 (k : Int)), .oth (fun v => v = .int .i64 ((k % 8 : Nat) : Int)), .oth (fun v => v = .int .u8 (bt * 2 ^ (k % 8) % 256)), .oth (fun v => v = .int .u8 (D : Nat)), .oth (fun v => v = .pointer (some ⟨C, k / 8, none⟩)), .cst C (k / 8) (.int .u8 (D : Nat))] wr) (Keep [.oth (fun v => v = .slice (some ⟨C, 0, none⟩) 32 32), .oth (fun v => v = .int .i64 (k : Int)), .oth (fun v => v = .int .i64 ((k / 8 : Nat) : Int)), .oth (fun v => v = .slice (some ⟨C, 0, none⟩) 32 32), .oth (fun v => v = .int .i64 (k : Int)), .oth (fun v => v = .int .i64 ((k / 8 : Nat) : Int)), .oth (fun v => v = .pointer (some ⟨C, k / 8, none⟩)), .oth (fun v => v = .int .u8 (d : Nat)), .oth (fun v => v = .func (.func 13) #[] #[]), .val rS [x], .oth (fun v => v = .int .i64 (k : Int)), .oth (fun v => v = .int .i64 bt), .oth (fun v => v = .int .u8 bt), .oth (fun v => v = .int .i64 (k : Int)), .oth (fun v => v = .int .i64 ((k % 8 : Nat) : Int)), .oth (fun v => v = .int .u8 (bt * 2 ^ (k % 8) % 256)), .oth (fun v => v = .int .u8 (D : Nat)), .oth (fun v => v = .pointer (some ⟨C, k / 8, none⟩)), .cst C (k / 8) (.int .u8 (D : Nat))] wr) (fun k => ([u55, u56, u57, u58, u59, u60, u61, u62, u63, u64, u65, u66, u67, u68, u69, u70, u71, u72, undef] : List Value).getD k undef) (by kernel_rfl) (by kernel_rfl) ?_ (by rfl) Keep.drew (holds_soft (by kernel_rfl)) ?_ ?_
      · intro u i v h
        rcases i with _ | _ | _ | _ | _ | _ | _ | _ | _ | _ | _ | _ | _ | _ | _ | _ | _ | _ | _ | i
        all_goals first | (simp [Act.put, putV]; done) | (exfalso; simp at h; omega)
      · intro hs
        refine ⟨?_, ?_, ?_, ?_, ?_, ?_, ?_, ?_, ?_, ?_, ?_, ?_, ?_, ?_, ?_, ?_, ?_, ?_, ?_, trivial⟩
        · exact step_pureO hs (wants_none rfl) rfl fun L u W hG hdep => ⟨_, run_move rfl, rfl⟩
        · exact step_pureO hs (wants_none rfl) rfl fun L u W hG hdep => ⟨_, run_move rfl, rfl⟩
        · refine step_pureO hs (wants_none rfl) rfl fun L u W hG hdep => ⟨_, ?_, rfl⟩
          have e0 := (show u 1 = .int .i64 (k : Int) from hG 1 (hdep 1 (by kernel_rfl)))
          go_simp
          rw [IntKind.wrap_i64]; omega
        · exact step_pureO hs (wants_none rfl) rfl fun L u W hG hdep => ⟨_, run_move rfl, rfl⟩
        · exact step_pureO hs (wants_none rfl) rfl fun L u W hG hdep => ⟨_, run_move rfl, rfl⟩
        · refine step_pureO hs (wants_none rfl) rfl fun L u W hG hdep => ⟨_, ?_, rfl⟩
          have e0 := (show u 4 = .int .i64 (k : Int) from hG 4 (hdep 4 (by kernel_rfl)))
          go_simp
          rw [IntKind.wrap_i64]; omega
        · refine step_pureO hs (wants_none rfl) rfl fun L u W hG hdep => ⟨_, ?_, rfl⟩
          have e0 := (show u 3 = .slice (some ⟨C, 0, none⟩) 32 32 from hG 3 (hdep 3 (by kernel_rfl)))
          have e1 := (show u 5 = .int .i64 ((k / 8 : Nat) : Int) from hG 5 (hdep 5 (by kernel_rfl)))
          have h8 := hk8
          go_simp
          rw [if_pos (by omega), show ((k : Int) / 8).toNat = k / 8 by omega]
        · exact step_cell C (k / 8) hs (wants_none rfl) rfl rfl (fun _ h => load_u8 h) (fun L u W hG hdep => (show u 6 = .pointer (some ⟨C, k / 8, none⟩) from hG 6 (hdep 6 (by kernel_rfl)))) HCC.out (fun k g hk => by rcases k with _ | _ | _ | _ | _ | _ | _ | _ | _ | _ | _ | _ | _ | _ | _ | _ | _ | _ | _ | k <;> first | (cases hk; done) | (cases hk; exact .inl (by kernel_rfl)))
        · exact step_pureO hs (wants_none rfl) rfl fun L u W hG hdep => ⟨_, run_move rfl, rfl⟩
        · exact step_load q3 0 hs (wants_none rfl) rfl rfl tyS (fun _ => rfl) hX.lt hX (fun k g hk => by rcases k with _ | _ | _ | _ | _ | _ | _ | _ | _ | _ | _ | _ | _ | _ | _ | _ | _ | _ | _ | k <;> first | (cases hk; done) | (cases hk; exact .inr (Ne.symm hgq)))
        · exact step_pureO hs (wants_none rfl) rfl fun L u W hG hdep => ⟨_, run_move rfl, rfl⟩
        · refine step_callO hs (wants_none rfl) rfl fun L u W hJ hG hdep K hK => ?_
          have a0 := (show IsFs rS (u 9) [x] from hG 9 (hdep 9 (by kernel_rfl)))
          have x0 := (show u 8 = .func (.func 13) #[] #[] from hG 8 (hdep 8 (by kernel_rfl)))
          have x1 := (show u 10 = .int .i64 (k : Int) from hG 10 (hdep 10 (by kernel_rfl)))
          go_simp
          go_at_call 13
          (with_reducible refine (HCB.out _ a0 _).mono ?_); rintro e w1 ⟨rfl, hb⟩
          have hk := hK.out _ _ rfl hb
          simp only [x0, x1] at hk
          exact hk
        · refine step_pureO hs (wants_none rfl) rfl fun L u W hG hdep => ⟨_, ?_, rfl⟩
          have e0 := (show u 11 = .int .i64 bt from hG 11 (hdep 11 (by kernel_rfl)))
          go_simp
          rw [wrap8]; omega
        · exact step_pureO hs (wants_none rfl) rfl fun L u W hG hdep => ⟨_, run_move rfl, rfl⟩
        · refine step_pureO hs (wants_none rfl) rfl fun L u W hG hdep => ⟨_, ?_, rfl⟩
          have e0 := (show u 13 = .int .i64 (k : Int) from hG 13 (hdep 13 (by kernel_rfl)))
          go_simp
          try (rw [IntKind.wrap_i64]; omega)
        · refine step_pureO hs (wants_none rfl) rfl fun L u W hG hdep => ⟨_, ?_, rfl⟩
          have e0 := (show u 12 = .int .u8 bt from hG 12 (hdep 12 (by kernel_rfl)))
          have e1 := (show u 14 = .int .i64 ((k % 8 : Nat) : Int) from hG 14 (hdep 14 (by kernel_rfl)))
          go_simp
          rw [wrap8, show ((k : Int) % 8).toNat = k % 8 by omega]
        · refine step_pureO hs (wants_none rfl) rfl fun L u W hG hdep => ⟨_, ?_, rfl⟩
          have e0 := (show u 7 = .int .u8 (d : Nat) from hG 7 (hdep 7 (by kernel_rfl)))
          have e1 := (show u 15 = .int .u8 (bt * 2 ^ (k % 8) % 256) from hG 15 (hdep 15 (by kernel_rfl)))
          have f0 := HOR.out
          go_simp
        · refine step_pureO hs (wants_none rfl) rfl fun L u W hG hdep => ⟨_, ?_, rfl⟩
          have e0 := (show u 0 = .slice (some ⟨C, 0, none⟩) 32 32 from hG 0 (hdep 0 (by kernel_rfl)))
          have e1 := (show u 2 = .int .i64 ((k / 8 : Nat) : Int) from hG 2 (hdep 2 (by kernel_rfl)))
          have h8 := hk8
          go_simp
          rw [if_pos (by omega), show ((k : Int) / 8).toNat = k / 8 by omega]
        · refine step_cst (old := .int .u8 (d : Nat)) C (k / 8) hs (wants_none rfl) rfl rfl (by kernel_rfl) (fun k hk => ?_) (fun _ h1 h2 => store_u8 h1 h2) (fun L u W hG hdep => (show u 17 = .pointer (some ⟨C, k / 8, none⟩) from hG 17 (hdep 17 (by kernel_rfl)))) (fun L u W hG hdep => (show u 16 = .int .u8 (D : Nat) from hG 16 (hdep 16 (by kernel_rfl)))) HCC.out HCF.out
          rcases k with _ | _ | _ | _ | _ | _ | _ | _ | _ | _ | _ | _ | _ | _ | _ | _ | _ | _ | _ | k
          all_goals first | (exact absurd rfl hk) | (intro e; cases e; done)
      intro L13 u13 W13 hall hJ hG
      have hb : Below w.heap.size wr W13 := hJ.below (by have := hbel.size; omega) (fun k b hf => by rcases k with _ | _ | _ | _ | _ | _ | _ | _ | _ | _ | _ | _ | _ | _ | _ | _ | _ | _ | _ | k <;> first | (cases hf; done) | (cases hf; omega))
      have hbel := hbel.trans hb
      have hX := hX.blk (hJ.block _ (hX.lt) (fun k hk => by rcases k with _ | _ | _ | _ | _ | _ | _ | _ | _ | _ | _ | _ | _ | _ | _ | _ | _ | _ | _ | k <;> first | (cases hk; done) | (cases hk; exact absurd rfl (Ne.symm hgq))))
      have HC := Lib.hid (blk_keep (HC.out.set (k / 8) (.int .u8 (D : Nat))) (show _ ∧ W13.heap[C]? = (wr.setCell ⟨C, k / 8, none⟩ (.int .u8 (D : Nat))).heap[C]? from hG 18 (by simp)).2)
      have HB := Lib.hid (blk_keep HB.out (hJ.block _ (HB.out.lt) (fun k hk => by rcases k with _ | _ | _ | _ | _ | _ | _ | _ | _ | _ | _ | _ | _ | _ | _ | _ | _ | _ | _ | k <;> first | (cases hk; done) | (cases hk; exact absurd rfl (Ne.symm hgB)))))
      have hbel0 := hbel
      clear hJ hG hall hb
      go_wp2
      go_roundw
      case rel =>
        first
          | exact ⟨k + 1, by omega, by go_num, by rw [← HST.out]; exact HC.out, hX, HB.out, hbel⟩
          | ((repeat apply Exists.intro)
             exact ⟨⟨k + 1, by omega, by go_num, by rw [← HST.out]; exact HC.out, hX, HB.out, hbel⟩, rfl⟩)
      case measure => simp [intOf]; omega
    · obtain rfl : k = 256 := by omega
      rw [cbV_full (sc256 HXL.out)] at hC
      have HC := Lib.hid hC; have HX3 := Lib.hid hX; have HB := Lib.hid hB
      clear hC hX hB hlt hk
      have hmk := make32
      go_upto_region 16 with ((go_at_call 14; (refine (rOrder_any _).mono ?_; rintro e w8 ⟨gL, nL, cL, rL, rfl, hgL, hL, hnL, hcL, hmL, hb8⟩; (rw [leB_len] at hnL); subst hnL; have HC8 := Lib.hid (HC.out.below' hb8); have HX8 := Lib.hid (HX3.out.later hb8); have HB8 := Lib.hid (HB.out.below' hb8); have hbel8 := Below.call hbel hb8; have HL := Lib.hid hL; clear hL hb8 HC HX3 HB hbel)))
      clear hmk
      refine wp_gen (fun W => Blk W w8.heap.size (row 32 (sdV (x.val + Lq) 0)) 5 ∧ Blk W C ((leB 32 x.val).map bV) 5 ∧ HasFs rS W q3 0 [x] ∧ Blk W gB2 ((leB 32 x.val).map bV ++ rB2) 5 ∧ Blk W gL ((leB 32 Lq).map bV ++ rL) 5 ∧ Below w.heap.size w W) ?_ (fun W9 hW => ?_)
      · rw [← sdV_start]
        exact ⟨Blk.new w8 _ _, HC8.out.alloc _, HX8.out.later (Below.alloc' (Below.refl _ _) _), HB8.out.alloc _, HL.out.alloc _, (by repeat (first | (with_reducible refine Below.alloc' ?_ _) | (with_reducible refine Below.drew ?_) | (with_reducible refine below_drewN ?_ _) | ((with_reducible refine Below.setCell ?_ ?_ _); rotate_left; (focus (first | exact Nat.le_refl _ | (simp; done) | (simp; omega)))) | (with_reducible assumption) | (with_reducible exact Below.refl _ _)))⟩
      have hgD1 : C ≠ w8.heap.size := by have := HC8.out.lt; omega
      have hgD2 : q3 ≠ w8.heap.size := by have := HX8.out.lt; omega
      have hgD3 : gB2 ≠ w8.heap.size := by have := HB8.out.lt; omega
      have hgD4 : gL ≠ w8.heap.size := by have := HL.out.lt; omega
      have hgD5 : w.heap.size ≤ w8.heap.size := hbel8.size
      clear HC8 HX8 HB8 HL hbel8
      generalize w8.heap.size = G at *
      have D1 := Lib.hid hgD1; have D2 := Lib.hid hgD2; have D3 := Lib.hid hgD3; have D4 := Lib.hid hgD4; have D5 := Lib.hid hgD5
      clear hgD1 hgD2 hgD3 hgD4 hgD5 hgL
      obtain ⟨hD, hC, hX, hB, hL, hbel⟩ := hW
      go_wp2
      go_loopw [12, 13] (fun cv i wr => ∃ j : Nat, j ≤ 32 ∧ i = .int .i64 (j : Int) ∧ cv = .int .i64 (cyB x.val Lq j : Nat) ∧ Blk wr G (row 32 (sdV (x.val + Lq) j)) 5 ∧ Blk wr C ((leB 32 x.val).map bV) 5 ∧ HasFs rS wr q3 0 [x] ∧ Blk wr gB2 ((leB 32 x.val).map bV ++ rB2) 5 ∧ Blk wr gL ((leB 32 Lq).map bV ++ rL) 5 ∧ Below w.heap.size w wr) (fun _ i _ => 32 - (intOf i).toNat)
      case atStart => exact ⟨0, by omega, rfl, by rw [cyB_zero]; rfl, hD, hC, hX, hB, hL, hbel⟩
      case round =>
        clear hD hC hX hB hL hbel
        obtain ⟨j, hj, rfl, rfl, hD, hC, hX, hB, hL, hbel⟩ := hrel
        by_cases hlj : j < 32
        · obtain ⟨s1, s2⟩ := add_step x.val Lq j
          have ca := leB_cell hB hlj
          have cb := leB_cell hL hlj
          have a1 := dB_lt x.val j
          have a2 := dB_lt Lq j
          have a3 := cyB_le x.val Lq j
          have hfr := hD.frozen j
          have cd := hD.at hlj
          unfold sdV at cd
          rw [if_neg (by omega)] at cd
          have i0 : (0 : Int) ≤ (j : Int) := by omega
          have i1 : (j : Int) < 32 := by omega
          obtain ⟨S, hS⟩ : ∃ S, S = dB (x.val + Lq) j := ⟨_, rfl⟩
          obtain ⟨c', hc'⟩ : ∃ c', c' = cyB x.val Lq (j + 1) := ⟨_, rfl⟩
          rw [← hS] at s1
          rw [← hc'] at s2
          have hD2 := hD.set j (.int .u8 (S : Nat))
          rw [hS, sdV_step] at hD2
          have HD := Lib.hid hD2
          rw [← hS] at HD
          have HC := Lib.hid (hC.other ⟨G, j, none⟩ (Ne.symm D1.out) (.int .u8 (S : Nat)))
          have HX4 : Hid (HasFs rS (wr.setCell ⟨G, j, none⟩ (.int .u8 (S : Nat))) q3 0 [x]) := Lib.hid (hX.blk (set_other D2.out _ _))
          have HB := Lib.hid (hB.other ⟨G, j, none⟩ (Ne.symm D3.out) (.int .u8 (S : Nat)))
          have HL := Lib.hid (hL.other ⟨G, j, none⟩ (Ne.symm D4.out) (.int .u8 (S : Nat)))
          have HBel : Hid (Below w.heap.size w (wr.setCell ⟨G, j, none⟩ (.int .u8 (S : Nat)))) := Lib.hid (hbel.setCell D5.out _)
          have HCY := Lib.hid hc'
          generalize dB x.val j = p at *
          generalize dB Lq j = q at *
          generalize cyB x.val Lq j = cc' at *
          obtain ⟨V, hV⟩ : ∃ V : Nat, V = p + q + cc' := ⟨_, rfl⟩
          rw [← hV] at s1 s2
          have hsum : (p : Int) + (q : Int) + (cc' : Int) = (V : Int) := by omega
          have hV1 : (V : Int) ≤ 1000 := by omega
          have f1 : (V : Int) % 256 = (S : Int) := by omega
          have f2 : (V : Int) / 256 = (c' : Int) := by omega
          clear hD hC hX hB hL hD2 hV hS hc' s1 s2
          go_wp2
          go_region
          go_wp2
          go_roundw
          case rel => exact ⟨j + 1, by omega, by go_num, by rw [HCY.out], HD.out.drew, HC.out.drew, HX4.out.later (Below.drew (Below.refl _ _)), HB.out.drew, HL.out.drew, HBel.out.drew⟩
          case measure => simp [intOf]; omega
        · obtain rfl : j = 32 := by omega
          rw [sdV_full (sumL_lt HXL.out)] at hD
          have HNV := Lib.hid (sumL_no HXL.out).1; have HNC := Lib.hid (sumL_no HXL.out).2; have HNW := Lib.hid (sumL_wide HXL.out)
          have HDL : Hid ((leB 32 (x.val + Lq)).length = 32) := Lib.hid (leB_len _ _)
          have HBL : Hid ((leB 32 x.val).length = 32) := Lib.hid (leB_len _ _)
          have HB0 : Hid (bitI x (-1) = 0) := Lib.hid rfl
          have HB1 : Hid (bitI x 256 = 0) := Lib.hid rfl
          generalize leB 32 (x.val + Lq) = Dl at *
          have HD := Lib.hid hD; have HC := Lib.hid hC; have HB := Lib.hid hB
          clear hD hC hB hL hlj hj
          go_upto_region 23 with fail
          have hbel0 := hbel
          have hgC := HGW.out
          have hgD := D5.out
          have hgB : w.heap.size ≤ gB2 := hgB2
          refine wp_region_turn (fun u => (.slice a n capa :: undef :: .bool false :: .pointer (some ⟨q3, 0, none⟩) :: .slice (some ⟨gB2, 0, none⟩) 32 cB2 :: u5 5 :: u5 7 :: .func (.func 13) #[] #[] :: .slice (some ⟨C, 0, none⟩) 32 32 :: .int .i64 256 :: .slice (some ⟨gL, 0, none⟩) 32 cL :: .slice (some ⟨G, 0, none⟩) 32 32 :: .int .i64 (cyB x.val Lq 32 : Nat) :: .int .i64 32 :: u14 :: u 5 :: u 7 :: .slice a n capa :: .int .i64 (n : Nat) :: .bool false :: undef :: u3 0 :: u3 1 :: u4 0 :: u4 1 :: u5 2 :: u5 0 :: u5 1 :: u5 3 :: u5 4 :: u6 0 :: u6 1 :: u6 2 :: u6 3 :: u6 4 :: u6 5 :: u6 6 :: u6 7 :: u6 8 :: u6 9 :: u6 10 :: u6 11 :: u6 12 :: u6 13 :: u6 14 :: u6 15 :: u6 16 :: u6 17 :: u6 18 :: .bool false :: .slice (some ⟨C, 0, none⟩) 32 32 :: .int .i64 256 :: .bool false :: u53 :: u54 :: u55 :: u56 :: u57 :: u58 :: u59 :: u60 :: u61 :: u62 :: u63 :: u64 :: u65 :: u66 :: u67 :: u68 :: u69 :: u70 :: u71 :: u72 :: .slice (some ⟨gL, 0, none⟩) 32 cL :: .slice (some ⟨G, 0, none⟩) 32 32 :: .int .i64 32 :: .bool false :: u77 :: u78 :: u79 :: u80 :: u81 :: u82 :: u83 :: u84 :: u85 :: u86 :: u87 :: u88 :: u89 :: u90 :: u91 :: u92 :: u93 :: u94 :: u95 :: u96 :: u97 :: u98 :: u 2 :: u 0 :: u 1 :: u 3 :: u 4 :: undef :: undef :: undef :: undef :: undef :: undef :: undef :: undef :: undef :: undef :: undef :: undef :: undef :: undef :: undef :: undef :: undef :: undef :: undef :: undef :: undef :: undef :: undef :: undef :: undef :: undef :: undef :: undef :: undef :: []).toArray) (Holds [.oth (fun v => v = .slice (some ⟨G, 0, none⟩) 32 32), .oth (fun v => IsTV rS v [0] (.int .i64 2)), .oth (fun v => IsTV rS v [0] (.int .i64 2)), .val rS [0], .oth (fun v => v = .int .i64 2), .new 4, .st 5 rS [0], .oth (fun v => v = .int .i64 2)] wr) (Keep [.oth (fun v => v = .slice (some ⟨G, 0, none⟩) 32 32), .oth (fun v => IsTV rS v [0] (.int .i64 2)), .oth (fun v => IsTV rS v [0] (.int .i64 2)), .val rS [0], .oth (fun v => v = .int .i64 2), .new 4, .st 5 rS [0], .oth (fun v => v = .int .i64 2)] wr) (fun _ => undef) ?_ (by rfl) Keep.start (holds_soft (by kernel_rfl)) ?_ ?_
          · intro u i v h
            rcases i with _ | _ | _ | _ | _ | _ | _ | _ | i
            all_goals first | (simp [Act.put, putV]; done) | (exfalso; simp at h; omega)
          · intro hs
            refine ⟨?_, ?_, ?_, ?_, ?_, ?_, ?_, ?_, trivial⟩
            · exact step_pureO hs (wants_none rfl) rfl fun L u W hG hdep => ⟨_, run_move rfl, rfl⟩
            · refine step_callO hs (wants_none rfl) rfl fun L u W hJ hG hdep K hK => ?_
              have x0 := (show u 0 = .slice (some ⟨G, 0, none⟩) 32 32 from hG 0 (hdep 0 (by kernel_rfl)))
              have hRB0 := (RdB.blk [] (by simpa using HD.out) HDL.out (Nat.le_refl _) (by unfold maxLen; omega)).below (hJ.all rfl)
              go_simp
              go_at_call 11
              (with_reducible refine (cScStrict HNV.out HNC.out hRB0).mono ?_); rintro e w1 ⟨r, rfl, hr, hb⟩
              have hk := hK.out _ _ ⟨r, rfl, hr⟩ hb
              simp only [x0] at hk
              exact hk
            · exact step_pureO hs (wants_none rfl) rfl fun L u W hG hdep => ⟨_, run_move rfl, (show IsTV rS (u 1) [0] (.int .i64 2) from hG 1 (hdep 1 (by kernel_rfl)))⟩
            · exact step_pure hs (wants_none rfl) rfl fun L u W hG hdep => run_extractV0 rfl (show IsTV rS (u 2) [0] (.int .i64 2) from hG 2 (hdep 2 (by kernel_rfl)))
            · exact step_pureO hs (wants_none rfl) rfl fun L u W hG hdep => run_extractV1 rfl (show IsTV rS (u 2) [0] (.int .i64 2) from hG 2 (hdep 2 (by kernel_rfl)))
            · exact step_alloc hs (wants_none rfl) rfl rfl (by omega) rfl allocS
            · exact step_store 5 hs (by kernel_rfl) (wants_none rfl) rfl rfl rfl (by kernel_rfl) (by kernel_rfl) (by kernel_rfl) (by kernel_rfl) (fun _ => rfl) (gives_op 3 rfl (by kernel_rfl) (fun _ => rfl)) tyS rfl
            · exact step_pureO hs (wants_none rfl) rfl fun L u W hG hdep => ⟨_, run_assign rfl, (show u 4 = .int .i64 2 from hG 4 (hdep 4 (by kernel_rfl)))⟩
          intro L23 u23 W23 hall hJ hG
          obtain ⟨q15, e15, hq15, _, ht15⟩ := (show ∃ g, u23 5 = .pointer (some ⟨g, 0, none⟩) ∧ wr.heap.size ≤ g ∧ 0 < 4 ∧ W23.there g 0 4 from hG 5 (by simp))
          have hm15 : HasFs rS W23 q15 0 [0] := by
            obtain ⟨g, e, _, h⟩ := (show ∃ g, u23 5 = .pointer (some ⟨g, 0, none⟩) ∧ wr.heap.size ≤ g ∧ HasFs rS W23 g 0 [0] from hG 6 (by simp))
            rw [e15] at e; cases e; exact h
          have hq15 : w.heap.size ≤ q15 := by have := hbel0.size; omega
          have E15 := Lib.hid e15; clear e15
          have hb := hJ.all rfl
          have hbel := Below.call hbel hb
          have hX := hX.later hb
          have HD := Lib.hid (HD.out.below' hb)
          have HC := Lib.hid (HC.out.below' hb)
          have HB := Lib.hid (HB.out.below' hb)
          have HC16 := Lib.hid (show u23 7 = .int .i64 2 from hG 7 (by simp))
          have hbel0 := hbel
          clear hJ hG hall hb
          go_upto_region 24 with fail
          refine wp_region_mid (fun u => (.slice a n capa :: undef :: u 29 :: .pointer (some ⟨q3, 0, none⟩) :: .slice (some ⟨gB2, 0, none⟩) 32 cB2 :: u5 5 :: u5 7 :: .func (.func 13) #[] #[] :: .slice (some ⟨C, 0, none⟩) 32 32 :: .int .i64 256 :: .slice (some ⟨gL, 0, none⟩) 32 cL :: .slice (some ⟨G, 0, none⟩) 32 32 :: .int .i64 (cyB x.val Lq 32 : Nat) :: .int .i64 32 :: u14 :: u23 5 :: u23 7 :: .slice a n capa :: .int .i64 (n : Nat) :: .bool false :: undef :: u3 0 :: u3 1 :: u4 0 :: u4 1 :: u5 2 :: u5 0 :: u5 1 :: u5 3 :: u5 4 :: u6 0 :: u6 1 :: u6 2 :: u6 3 :: u6 4 :: u6 5 :: u6 6 :: u6 7 :: u6 8 :: u6 9 :: u6 10 :: u6 11 :: u6 12 :: u6 13 :: u6 14 :: u6 15 :: u6 16 :: u6 17 :: u6 18 :: .bool false :: .slice (some ⟨C, 0, none⟩) 32 32 :: .int .i64 256 :: .bool false :: u53 :: u54 :: u55 :: u56 :: u57 :: u58 :: u59 :: u60 :: u61 :: u62 :: u63 :: u64 :: u65 :: u66 :: u67 :: u68 :: u69 :: u70 :: u71 :: u72 :: .slice (some ⟨gL, 0, none⟩) 32 cL :: .slice (some ⟨G, 0, none⟩) 32 32 :: .int .i64 32 :: .bool false :: u77 :: u78 :: u79 :: u80 :: u81 :: u82 :: u83 :: u84 :: u85 :: u86 :: u87 :: u88 :: u89 :: u90 :: u91 :: u92 :: u93 :: u94 :: u95 :: u96 :: u97 :: u98 :: u23 2 :: u23 0 :: u23 1 :: u23 3 :: u23 4 :: u 0 :: u 1 :: u 2 :: u 3 :: u 4 :: u 5 :: u 6 :: u 7 :: u 8 :: u 9 :: u 10 :: u 11 :: u 12 :: u 13 :: u 14 :: u 15 :: u 16 :: u 17 :: u 18 :: u 19 :: u 20 :: u 21 :: u 22 :: u 23 :: u 24 :: u 25 :: u 26 :: u 27 :: u 28 :: []).toArray) (Holds [.oth (fun v => v = .slice (some ⟨C, 0, none⟩) 32 32), .oth (fun v => v = (.string (bs (leB 32 x.val)))), .oth (fun v => v = .slice (some ⟨gB2, 0, none⟩) 32 cB2), .oth (fun v => v = (.string (bs (leB 32 x.val)))), .oth (fun v => v = .bool true), .oth (fun v => v = .bool true), .oth (fun v => v = .int .i64 2), .oth (fun v => v = .bool true), .oth (fun v => v = .bool true), .oth (fun v => v = .bool true), .oth (fun v => v = .slice (some ⟨G, 0, none⟩) 32 32), .val rS [x], .val rS [x], .oth (fun v => v = .bool true), .oth (fun v => v = .bool true), .oth (fun v => v = .bool true), .val rS [x], .oth (fun v => v = .int .i64 0), .oth (fun v => v = .int .i64 0), .oth (fun v => v = .bool true), .oth (fun v => v = .bool true), .oth (fun v => v = .bool true), .val rS [x], .oth (fun v => v = .int .i64 0), .oth (fun v => v = .bool true), .oth (fun v => v = .bool true), .oth (fun v => v = .bool true), .oth (fun v => v = .bool true), .oth (fun v => v = .bool true), .oth (fun v => v = .bool true)] W23) (Keep [.oth (fun v => v = .slice (some ⟨C, 0, none⟩) 32 32), .oth (fun v => v = (.string (bs (leB 32 x.val)))), .oth (fun v => v = .slice (some ⟨gB2, 0, none⟩) 32 cB2), .oth (fun v => v = (.string (bs (leB 32 x.val)))), .oth (fun v => v = .bool true), .oth (fun v => v = .bool true), .oth (fun v => v = .int .i64 2), .oth (fun v => v = .bool true), .oth (fun v => v = .bool true), .oth (fun v => v = .bool true), .oth (fun v => v = .slice (some ⟨G, 0, none⟩) 32 32), .val rS [x], .val rS [x], .oth (fun v => v = .bool true), .oth (fun v => v = .bool true), .oth (fun v => v = .bool true), .val rS [x], .oth (fun v => v = .int .i64 0), .oth (fun v => v = .int .i64 0), .oth (fun v => v = .bool true), .oth (fun v => v = .bool true), .oth (fun v => v = .bool true), .val rS [x], .oth (fun v => v = .int .i64 0), .oth (fun v => v = .bool true), .oth (fun v => v = .bool true), .oth (fun v => v = .bool true), .oth (fun v => v = .bool true), .oth (fun v => v = .bool true), .oth (fun v => v = .bool true)] W23) (fun k => ([undef, undef, undef, undef, undef, undef, undef, undef, undef, undef, undef, undef, undef, undef, undef, undef, undef, undef, undef, undef, undef, undef, undef, undef, undef, undef, undef, undef, undef, .bool false] : List Value).getD k undef) (by kernel_rfl) (by kernel_rfl) ?_ (by rfl) Keep.drew (holds_soft (by kernel_rfl)) ?_ ?_
          · intro u i v h
            rcases i with _ | _ | _ | _ | _ | _ | _ | _ | _ | _ | _ | _ | _ | _ | _ | _ | _ | _ | _ | _ | _ | _ | _ | _ | _ | _ | _ | _ | _ | _ | i
            all_goals first | (simp [Act.put, putV]; done) | (exfalso; simp at h; omega)
          · intro hs
            refine ⟨?_, ?_, ?_, ?_, ?_, ?_, ?_, ?_, ?_, ?_, ?_, ?_, ?_, ?_, ?_, ?_, ?_, ?_, ?_, ?_, ?_, ?_, ?_, ?_, ?_, ?_, ?_, ?_, ?_, ?_, trivial⟩
            · exact step_pureO hs (wants_none rfl) rfl fun L u W hG hdep => ⟨_, run_move rfl, rfl⟩
            · exact step_convC hs (wants_none rfl) rfl rfl (RdB.blk [] (by simpa using HC.out) HBL.out (Nat.le_refl _) (by unfold maxLen; omega)) (by kernel_rfl) (fun L u W hG hdep => (show u 0 = .slice (some ⟨C, 0, none⟩) 32 32 from hG 0 (hdep 0 (by kernel_rfl))))
            · exact step_pureO hs (wants_none rfl) rfl fun L u W hG hdep => ⟨_, run_move rfl, rfl⟩
            · exact step_convC hs (wants_none rfl) rfl rfl (RdB.blk rB2 HB.out HBL.out hcB2 hmB2) (by kernel_rfl) (fun L u W hG hdep => (show u 2 = .slice (some ⟨gB2, 0, none⟩) 32 cB2 from hG 2 (hdep 2 (by kernel_rfl))))
            · exact step_pureO hs (wants_none rfl) rfl fun L u W hG hdep => ⟨_, run_eqlS rfl (show u 1 = (.string (bs (leB 32 x.val))) from hG 1 (hdep 1 (by kernel_rfl))) (show u 3 = (.string (bs (leB 32 x.val))) from hG 3 (hdep 3 (by kernel_rfl))), by simp⟩
            · exact step_pureO hs (wants_none rfl) rfl fun L u W hG hdep => ⟨_, run_move rfl, (show u 4 = .bool true from hG 4 (hdep 4 (by kernel_rfl)))⟩
            · exact step_pureO hs (wants_on 5 rfl rfl (by kernel_rfl) (fun _ => rfl)) rfl fun L u W hG hdep => ⟨_, run_move rfl, HC16.out⟩
            · refine step_pureO hs (wants_on 5 rfl rfl (by kernel_rfl) (fun _ => rfl)) rfl fun L u W hG hdep => ⟨_, ?_, rfl⟩
              have e0 := (show u 6 = .int .i64 2 from hG 6 (hdep 6 (by kernel_rfl)))
              go_simp
              try simp [bne]
            · exact step_pick true hs (wants_none rfl) rfl rfl (fun L u W hG hdep => (show u 5 = .bool true from hG 5 (hdep 5 (by kernel_rfl)))) (fun L u W hG hdep => (show u 7 = .bool true from hG 7 (hdep 7 (by kernel_rfl))))
            · exact step_pureO hs (wants_none rfl) rfl fun L u W hG hdep => ⟨_, run_move rfl, (show u 8 = .bool true from hG 8 (hdep 8 (by kernel_rfl)))⟩
            · exact step_pureO hs (wants_on 9 rfl rfl (by kernel_rfl) (fun _ => rfl)) rfl fun L u W hG hdep => ⟨_, run_move rfl, rfl⟩
            · refine step_call hs (wants_on 9 rfl rfl (by kernel_rfl) (fun _ => rfl)) rfl fun L u W hJ hG hL hdep K hK => ?_
              have x0 := (show u 10 = .slice (some ⟨G, 0, none⟩) 32 32 from hG 10 (hdep 10 (by kernel_rfl)))
              have hRB0 := (RdB.blk [] (by simpa using HD.out) HDL.out (Nat.le_refl _) (by unfold maxLen; omega)).below (hJ.all rfl)
              go_simp
              go_at_call 9
              (with_reducible refine (cWide HNW.out hRB0).mono ?_); rintro e w1 ⟨r, rfl, hr, hb⟩
              have hk := hK.out _ _ hr hb
              simp only [x0] at hk
              exact hk
            · exact step_load q3 0 hs (wants_on 9 rfl rfl (by kernel_rfl) (fun _ => rfl)) rfl rfl tyS (fun _ => rfl) hX.lt hX (noSto_apart (by kernel_rfl))
            · refine step_callO hs (wants_on 9 rfl rfl (by kernel_rfl) (fun _ => rfl)) rfl fun L u W hJ hG hdep K hK => ?_
              have a0 := (show IsFs rS (u 11) [x] from hG 11 (hdep 11 (by kernel_rfl)))
              have a1 := (show IsFs rS (u 12) [x] from hG 12 (hdep 12 (by kernel_rfl)))
              go_simp
              go_at_call 12
              (with_reducible refine (cScSame (b := true) (decide_eq_true rfl) a0 a1 _).mono ?_); rintro e w1 ⟨rfl, hb⟩
              have hk := hK.out _ _ rfl hb
              exact hk
            · exact step_pick true hs (wants_none rfl) rfl rfl (fun L u W hG hdep => (show u 9 = .bool true from hG 9 (hdep 9 (by kernel_rfl)))) (fun L u W hG hdep => (show u 13 = .bool true from hG 13 (hdep 13 (by kernel_rfl))))
            · exact step_pureO hs (wants_none rfl) rfl fun L u W hG hdep => ⟨_, run_move rfl, (show u 14 = .bool true from hG 14 (hdep 14 (by kernel_rfl)))⟩
            · exact step_load q3 0 hs (wants_on 15 rfl rfl (by kernel_rfl) (fun _ => rfl)) rfl rfl tyS (fun _ => rfl) hX.lt hX (noSto_apart (by kernel_rfl))
            · refine step_callO hs (wants_on 15 rfl rfl (by kernel_rfl) (fun _ => rfl)) rfl fun L u W hJ hG hdep K hK => ?_
              have a0 := (show IsFs rS (u 16) [x] from hG 16 (hdep 16 (by kernel_rfl)))
              go_simp
              go_at_call 13
              (with_reducible refine (cScBit (z := 0) (HB0.out) a0 _).mono ?_); rintro e w1 ⟨rfl, hb⟩
              have hk := hK.out _ _ rfl hb
              exact hk
            · refine step_callO hs (wants_on 15 rfl rfl (by kernel_rfl) (fun _ => rfl)) rfl fun L u W hJ hG hdep K hK => ?_
              have x0 := (show u 17 = .int .i64 0 from hG 17 (hdep 17 (by kernel_rfl)))
              go_simp
              go_at_call 15
              (with_reducible refine (round_0 _).mono ?_); rintro e w1 ⟨rfl, hb⟩
              have hk := hK.out _ _ rfl hb
              simp only [x0] at hk
              exact hk
            · refine step_pureO hs (wants_on 15 rfl rfl (by kernel_rfl) (fun _ => rfl)) rfl fun L u W hG hdep => ⟨_, ?_, rfl⟩
              have e0 := (show u 18 = .int .i64 0 from hG 18 (hdep 18 (by kernel_rfl)))
              go_simp
              try simp [bne]
            · exact step_pick true hs (wants_none rfl) rfl rfl (fun L u W hG hdep => (show u 15 = .bool true from hG 15 (hdep 15 (by kernel_rfl)))) (fun L u W hG hdep => (show u 19 = .bool true from hG 19 (hdep 19 (by kernel_rfl))))
            · exact step_pureO hs (wants_none rfl) rfl fun L u W hG hdep => ⟨_, run_move rfl, (show u 20 = .bool true from hG 20 (hdep 20 (by kernel_rfl)))⟩
            · exact step_load q3 0 hs (wants_on 21 rfl rfl (by kernel_rfl) (fun _ => rfl)) rfl rfl tyS (fun _ => rfl) hX.lt hX (noSto_apart (by kernel_rfl))
            · refine step_callO hs (wants_on 21 rfl rfl (by kernel_rfl) (fun _ => rfl)) rfl fun L u W hJ hG hdep K hK => ?_
              have a0 := (show IsFs rS (u 22) [x] from hG 22 (hdep 22 (by kernel_rfl)))
              go_simp
              go_at_call 13
              (with_reducible refine (cScBit (z := 0) (HB1.out) a0 _).mono ?_); rintro e w1 ⟨rfl, hb⟩
              have hk := hK.out _ _ rfl hb
              exact hk
            · refine step_pureO hs (wants_on 21 rfl rfl (by kernel_rfl) (fun _ => rfl)) rfl fun L u W hG hdep => ⟨_, ?_, rfl⟩
              have e0 := (show u 23 = .int .i64 0 from hG 23 (hdep 23 (by kernel_rfl)))
              go_simp
              try simp [bne]
            · exact step_pick true hs (wants_none rfl) rfl rfl (fun L u W hG hdep => (show u 21 = .bool true from hG 21 (hdep 21 (by kernel_rfl)))) (fun L u W hG hdep => (show u 24 = .bool true from hG 24 (hdep 24 (by kernel_rfl))))
            · exact step_pureO hs (wants_none rfl) rfl fun L u W hG hdep => ⟨_, run_move rfl, (show u 25 = .bool true from hG 25 (hdep 25 (by kernel_rfl)))⟩
            · refine step_callO hs (wants_on 26 rfl rfl (by kernel_rfl) (fun _ => rfl)) rfl fun L u W hJ hG hdep K hK => ?_
              go_simp
              go_at_call 8
              (with_reducible refine (law7awake_any _).mono ?_); rintro e w1 ⟨rfl, hb⟩
              have hk := hK.out _ _ rfl hb
              exact hk
            · exact step_pick true hs (wants_none rfl) rfl rfl (fun L u W hG hdep => (show u 26 = .bool true from hG 26 (hdep 26 (by kernel_rfl)))) (fun L u W hG hdep => (show u 27 = .bool true from hG 27 (hdep 27 (by kernel_rfl))))
            · exact step_pureO hs (wants_none rfl) rfl fun L u W hG hdep => ⟨_, run_assign rfl, (show u 28 = .bool true from hG 28 (hdep 28 (by kernel_rfl)))⟩
          intro L24 u24 W24 hall hJ hG
          have hb := hJ.all rfl
          have hbel := Below.call hbel hb
          have hX := hX.later hb
          have hm15 := hm15.later hb
          have ht15 := there_later ht15 hb
          have HD := Lib.hid (HD.out.below' hb)
          have HC := Lib.hid (HC.out.below' hb)
          have HB := Lib.hid (HB.out.below' hb)
          have HC108 := Lib.hid (show u24 4 = .bool true from hG 4 (by simp))
          have HC109 := Lib.hid (show u24 5 = .bool true from hG 5 (by simp))
          have HC111 := Lib.hid (show u24 7 = .bool true from hG 7 (by simp))
          have HC112 := Lib.hid (show u24 8 = .bool true from hG 8 (by simp))
          have HC113 := Lib.hid (show u24 9 = .bool true from hG 9 (by simp))
          have HC117 := Lib.hid (show u24 13 = .bool true from hG 13 (by simp))
          have HC118 := Lib.hid (show u24 14 = .bool true from hG 14 (by simp))
          have HC119 := Lib.hid (show u24 15 = .bool true from hG 15 (by simp))
          have HC123 := Lib.hid (show u24 19 = .bool true from hG 19 (by simp))
          have HC124 := Lib.hid (show u24 20 = .bool true from hG 20 (by simp))
          have HC125 := Lib.hid (show u24 21 = .bool true from hG 21 (by simp))
          have HC128 := Lib.hid (show u24 24 = .bool true from hG 24 (by simp))
          have HC129 := Lib.hid (show u24 25 = .bool true from hG 25 (by simp))
          have HC130 := Lib.hid (show u24 26 = .bool true from hG 26 (by simp))
          have HC131 := Lib.hid (show u24 27 = .bool true from hG 27 (by simp))
          have HC132 := Lib.hid (show u24 28 = .bool true from hG 28 (by simp))
          have HC2 := Lib.hid (show u24 29 = .bool true from hG 29 (by simp))
          have hbel0 := hbel
          clear hJ hG hall hb
          rw [HC2.out]
          go_wp2
          go_ret
          exact ⟨rfl, hbel⟩
end Go.Proofs.Ytbgfokdchpcifaa
