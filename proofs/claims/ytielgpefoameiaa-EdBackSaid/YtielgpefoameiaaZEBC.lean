/- What EB rests on, part 3 of 6: my own texts, put together (merge.py). -/
import Derived.Deep.RegionHeld3
import Derived.WalkKit
import Derived.ProofKit
import Derived.Lib.Hide
import Derived.OpenShut
import Derived.Deep.MidRow
import Derived.Test.YtielgpefoameiaaRows
import Derived.WalkSpells
import Derived.StillTactics
import Derived.Laws.Pointers
import Derived.Laws.CopyOwn
import Derived.Laws.AppendOwnNone
import Derived.RowKit3
import Derived.BigQuiet
import Derived.Deep.QuietTactic
import Derived.Deep.LoopGhost
import Derived.Deep.DeepFit
import Derived.WalkLawsBesides
import Derived.Shelf.Spec.BitsCarry
import Derived.Laws.IdiomStrings
import Derived.Deep.WholeRow
import Derived.Laws.Rows
import Derived.Deep.DeepCutAuto
import Derived.Lib.AppendZerosOnto
import Derived.Lib.SliceRun
import Derived.Deep.Matrix
import Derived.Deep.AppendLies
import Derived.ShutString
import Derived.ChangeOld
import Derived.Test.YtielgpefoameiaaZEBB
namespace Go.Proofs.Ytielgpefoameiaa
open Go Go.RowKit
/-- The schedule, its first t words done. -/
def wP (b : List UInt64) (t : Nat) : List UInt64 := wL b t ++ List.replicate (80 - t) 0
theorem wP_zero (b : List UInt64) : wP b 0 = List.replicate 80 0 := rfl
theorem wP_full (b : List UInt64) : wP b 80 = wL b 80 := by unfold wP; rw [Nat.sub_self]; simp
theorem wP_at {b : List UInt64} {t k : Nat} (h : k < t) : at0 (wP b t) k = at0 (wL b t) k := by
  unfold at0 wP
  rw [List.getD_eq_getElem?_getD, List.getElem?_append_left (by rw [wL_len]; exact h), ← List.getD_eq_getElem?_getD]
theorem wP_set {b : List UInt64} {t : Nat} (h : t < 80) {x : UInt64} (hx : (if t < 16 then at0 b t else wNext (wL b t) t) = x) : (wP b t).set t x = wP b (t + 1) := by
  unfold wP
  rw [List.set_append_right _ _ (by rw [wL_len]; omega), wL_len, Nat.sub_self, show 80 - t = (80 - (t + 1)) + 1 by omega, List.replicate_succ, List.set_cons_zero, wL, hx, List.append_assoc]
  rfl
/-- The last sums, the first i done. -/
def hP (h v : List UInt64) (i : Nat) : List UInt64 := (List.range 8).map fun j => if j < i then up (at0 h j) (at0 v j) else at0 h j
theorem at0_map {f : Nat → UInt64} {k n : Nat} (h : k < n) : at0 ((List.range n).map f) k = f k := by
  unfold at0; rw [List.getD_eq_getElem?_getD]; simp [h]
theorem hP_zero {h : List UInt64} (v : List UInt64) (hl : h.length = 8) : hP h v 0 = h := by
  apply List.ext_getElem
  · simp [hP, hl]
  · intro i h1 h2
    simp [hP, at0, List.getD_eq_getElem?_getD, List.getElem?_eq_getElem h2]
theorem hP_full (h v : List UInt64) : hP h v 8 = (List.range 8).map fun i => up (at0 h i) (at0 v i) := by
  unfold hP; apply List.map_congr_left; intro i hi; rw [if_pos (by simpa using hi)]
theorem hP_at {h v : List UInt64} {i : Nat} (hi : i < 8) : at0 (hP h v i) i = at0 h i := by
  unfold hP; rw [at0_map hi, if_neg (by omega)]
theorem hP_set {h v : List UInt64} {i : Nat} : (hP h v i).set i (up (at0 h i) (at0 v i)) = hP h v (i + 1) := by
  apply List.ext_getElem
  · simp [hP]
  · intro k h1 h2
    have hk : k < 8 := by simpa [hP] using h2
    rw [List.getElem_set]
    by_cases e : i = k
    · subst e; rw [if_pos rfl]; simp [hP]
    · rw [if_neg e]
      simp only [hP, List.getElem_map, List.getElem_range]
      by_cases h3 : k < i
      · rw [if_pos h3, if_pos (by omega)]
      · rw [if_neg h3, if_neg (by omega)]
theorem rotB_1 {x : UInt64} (w : World) : Calls Try.prog 84 #[.int .u64 (x.toNat : Int), .int .i64 (-1)] w fun e w' => e = .returned (.int .u64 ((rotr x 1).toNat : Int)) ∧ Below w.heap.size w w' := (rotl_1 x w).mono fun _ _ ⟨he, hw⟩ => ⟨he, by rw [← hw]; exact Below.refl _ _⟩
theorem rotB_8 {x : UInt64} (w : World) : Calls Try.prog 84 #[.int .u64 (x.toNat : Int), .int .i64 (-8)] w fun e w' => e = .returned (.int .u64 ((rotr x 8).toNat : Int)) ∧ Below w.heap.size w w' := (rotl_8 x w).mono fun _ _ ⟨he, hw⟩ => ⟨he, by rw [← hw]; exact Below.refl _ _⟩
theorem rotB_19 {x : UInt64} (w : World) : Calls Try.prog 84 #[.int .u64 (x.toNat : Int), .int .i64 (-19)] w fun e w' => e = .returned (.int .u64 ((rotr x 19).toNat : Int)) ∧ Below w.heap.size w w' := (rotl_19 x w).mono fun _ _ ⟨he, hw⟩ => ⟨he, by rw [← hw]; exact Below.refl _ _⟩
theorem rotB_61 {x : UInt64} (w : World) : Calls Try.prog 84 #[.int .u64 (x.toNat : Int), .int .i64 (-61)] w fun e w' => e = .returned (.int .u64 ((rotr x 61).toNat : Int)) ∧ Below w.heap.size w w' := (rotl_61 x w).mono fun _ _ ⟨he, hw⟩ => ⟨he, by rw [← hw]; exact Below.refl _ _⟩
theorem rotB_14 {x : UInt64} (w : World) : Calls Try.prog 84 #[.int .u64 (x.toNat : Int), .int .i64 (-14)] w fun e w' => e = .returned (.int .u64 ((rotr x 14).toNat : Int)) ∧ Below w.heap.size w w' := (rotl_14 x w).mono fun _ _ ⟨he, hw⟩ => ⟨he, by rw [← hw]; exact Below.refl _ _⟩
theorem rotB_18 {x : UInt64} (w : World) : Calls Try.prog 84 #[.int .u64 (x.toNat : Int), .int .i64 (-18)] w fun e w' => e = .returned (.int .u64 ((rotr x 18).toNat : Int)) ∧ Below w.heap.size w w' := (rotl_18 x w).mono fun _ _ ⟨he, hw⟩ => ⟨he, by rw [← hw]; exact Below.refl _ _⟩
theorem rotB_41 {x : UInt64} (w : World) : Calls Try.prog 84 #[.int .u64 (x.toNat : Int), .int .i64 (-41)] w fun e w' => e = .returned (.int .u64 ((rotr x 41).toNat : Int)) ∧ Below w.heap.size w w' := (rotl_41 x w).mono fun _ _ ⟨he, hw⟩ => ⟨he, by rw [← hw]; exact Below.refl _ _⟩
theorem rotB_28 {x : UInt64} (w : World) : Calls Try.prog 84 #[.int .u64 (x.toNat : Int), .int .i64 (-28)] w fun e w' => e = .returned (.int .u64 ((rotr x 28).toNat : Int)) ∧ Below w.heap.size w w' := (rotl_28 x w).mono fun _ _ ⟨he, hw⟩ => ⟨he, by rw [← hw]; exact Below.refl _ _⟩
theorem rotB_34 {x : UInt64} (w : World) : Calls Try.prog 84 #[.int .u64 (x.toNat : Int), .int .i64 (-34)] w fun e w' => e = .returned (.int .u64 ((rotr x 34).toNat : Int)) ∧ Below w.heap.size w w' := (rotl_34 x w).mono fun _ _ ⟨he, hw⟩ => ⟨he, by rw [← hw]; exact Below.refl _ _⟩
theorem rotB_39 {x : UInt64} (w : World) : Calls Try.prog 84 #[.int .u64 (x.toNat : Int), .int .i64 (-39)] w fun e w' => e = .returned (.int .u64 ((rotr x 39).toNat : Int)) ∧ Below w.heap.size w w' := (rotl_39 x w).mono fun _ _ ⟨he, hw⟩ => ⟨he, by rw [← hw]; exact Below.refl _ _⟩
set_option maxRecDepth 100000 in
set_option maxHeartbeats 4000000 in
theorem rounds_any (w : World) :
    Calls Try.prog 82 #[] w fun e w' => ∃ r, e = .returned r ∧ IsFs rW80 r [kTab] ∧ Below w.heap.size w w' := by
  go_enter Try.func82, Try.ntmps82
  have hbel : Below w.heap.size w w := Below.refl _ _
  have hbel0 := hbel
  go_upto_region 0 with fail
  refine wp_region_turn (fun u => #[u 0, undef]) (Holds [.new 80] w) (Keep [.new 80] w) (fun _ => undef) ?_ (by rfl) Keep.start (holds_soft (by kernel_rfl)) ?_ ?_
  · intro u i v h
    rcases i with _ | i
    all_goals first | (simp [Act.put, putV]; done) | (exfalso; simp at h; omega)
  · intro hs
    refine ⟨?_, trivial⟩
    · exact step_alloc hs (wants_none rfl) rfl rfl (by omega) rfl alloca80
  intro L0 u0 W0 hall hJ hG
  obtain ⟨q0, e0, hq0, _, ht0⟩ := (show ∃ g, u0 0 = .pointer (some ⟨g, 0, none⟩) ∧ w.heap.size ≤ g ∧ 0 < 80 ∧ W0.there g 0 80 from hG 0 (by simp))
  have hq0 : w.heap.size ≤ q0 := by have := hbel0.size; omega
  have E0 := Lib.hid e0; clear e0
  have hb := hJ.all rfl
  have hbel := Below.call hbel hb
  have hbel0 := hbel
  clear hJ hG hall hb
  go_upto_region 1 with fail
  refine wp_region_turn (fun u => #[u0 0, u 0]) (Holds [.val rW80 [kTab], .sto q0 rW80 [kTab]] W0) (Keep [.val rW80 [kTab], .sto q0 rW80 [kTab]] W0) (fun _ => undef) ?_ (by rfl) Keep.start (holds_soft (by kernel_rfl)) ?_ ?_
  · intro u i v h
    rcases i with _ | _ | i
    all_goals first | (simp [Act.put, putV]; done) | (exfalso; simp at h; omega)
  · intro hs
    refine ⟨?_, ?_, trivial⟩
    · exact step_pure hs (wants_none rfl) rfl fun L u W hG hdep => kt_build rfl
    · refine step_storeO q0 80 hs (wants_none rfl) rfl rfl (by kernel_rfl) (fun k hk => ?_) (fun _ => E0.out) (there_lt ht0 (by omega)) ht0 (gives_op 0 rfl (by kernel_rfl) (fun _ => rfl)) tya80 rfl
      rcases k with _ | _ | k
      all_goals first | (exact absurd rfl hk) | (intro e; cases e; done)
  intro L1 u1 W1 hall hJ hG
  have hb : Below w.heap.size W0 W1 := hJ.below (by have := hbel.size; omega) (fun k b hf => by rcases k with _ | _ | k <;> first | (cases hf; done) | (cases hf; omega))
  have hbel := hbel.trans hb
  obtain ⟨_, hs1_1t, hs1_1⟩ := (show _ ∧ W1.there q0 0 80 ∧ HasFs rW80 W1 q0 0 [kTab] from hG 1 (by simp))
  have hbel0 := hbel
  clear hJ hG hall hb
  go_wp2
  exact ret_cell1 (R := rW80) Try.results82 (by exact E0.out) hs1_1 tya80 rfl (fun r hr => ⟨r, rfl, hr, hbel⟩)
set_option maxRecDepth 100000 in
set_option maxHeartbeats 4000000 in
theorem start_any (w : World) :
    Calls Try.prog 60 #[] w fun e w' => ∃ r, e = .returned r ∧ IsFs rW8 r [hTab] ∧ Below w.heap.size w w' := by
  go_enter Try.func60, Try.ntmps60
  have hbel : Below w.heap.size w w := Below.refl _ _
  have hbel0 := hbel
  go_upto_region 0 with fail
  refine wp_region_turn (fun u => #[u 0, undef]) (Holds [.new 8] w) (Keep [.new 8] w) (fun _ => undef) ?_ (by rfl) Keep.start (holds_soft (by kernel_rfl)) ?_ ?_
  · intro u i v h
    rcases i with _ | i
    all_goals first | (simp [Act.put, putV]; done) | (exfalso; simp at h; omega)
  · intro hs
    refine ⟨?_, trivial⟩
    · exact step_alloc hs (wants_none rfl) rfl rfl (by omega) rfl alloca8
  intro L0 u0 W0 hall hJ hG
  obtain ⟨q0, e0, hq0, _, ht0⟩ := (show ∃ g, u0 0 = .pointer (some ⟨g, 0, none⟩) ∧ w.heap.size ≤ g ∧ 0 < 8 ∧ W0.there g 0 8 from hG 0 (by simp))
  have hq0 : w.heap.size ≤ q0 := by have := hbel0.size; omega
  have E0 := Lib.hid e0; clear e0
  have hb := hJ.all rfl
  have hbel := Below.call hbel hb
  have hbel0 := hbel
  clear hJ hG hall hb
  go_upto_region 1 with fail
  refine wp_region_turn (fun u => #[u0 0, u 0]) (Holds [.val rW8 [hTab], .sto q0 rW8 [hTab]] W0) (Keep [.val rW8 [hTab], .sto q0 rW8 [hTab]] W0) (fun _ => undef) ?_ (by rfl) Keep.start (holds_soft (by kernel_rfl)) ?_ ?_
  · intro u i v h
    rcases i with _ | _ | i
    all_goals first | (simp [Act.put, putV]; done) | (exfalso; simp at h; omega)
  · intro hs
    refine ⟨?_, ?_, trivial⟩
    · exact step_pure hs (wants_none rfl) rfl fun L u W hG hdep => ht_build rfl
    · refine step_storeO q0 8 hs (wants_none rfl) rfl rfl (by kernel_rfl) (fun k hk => ?_) (fun _ => E0.out) (there_lt ht0 (by omega)) ht0 (gives_op 0 rfl (by kernel_rfl) (fun _ => rfl)) tya8 rfl
      rcases k with _ | _ | k
      all_goals first | (exact absurd rfl hk) | (intro e; cases e; done)
  intro L1 u1 W1 hall hJ hG
  have hb : Below w.heap.size W0 W1 := hJ.below (by have := hbel.size; omega) (fun k b hf => by rcases k with _ | _ | k <;> first | (cases hf; done) | (cases hf; omega))
  have hbel := hbel.trans hb
  obtain ⟨_, hs1_1t, hs1_1⟩ := (show _ ∧ W1.there q0 0 8 ∧ HasFs rW8 W1 q0 0 [hTab] from hG 1 (by simp))
  have hbel0 := hbel
  clear hJ hG hall hb
  go_wp2
  exact ret_cell1 (R := rW8) Try.results60 (by exact E0.out) hs1_1 tya8 rfl (fun r hr => ⟨r, rfl, hr, hbel⟩)
theorem rd_drop {w : World} {b q n cap k : Nat} {l : List UInt8} (hk : k ≤ n) (h : RdB w (some ⟨b, q, none⟩) n cap l) : RdB w (some ⟨b, q + k, none⟩) (n - k) (cap - k) (l.drop k) := by
  have h1 := h.hlen; have h2 := h.hcap; have h3 := h.hmax
  refine ⟨by rw [List.length_drop]; omega, by omega, by omega, fun i hi => ?_, fun h => by cases h⟩
  obtain ⟨b', o', e, hc⟩ := h.get (k + i) (by rw [List.length_drop] at hi; omega)
  cases e
  exact ⟨b, q + k, rfl, by rw [Nat.add_assoc, List.getElem_drop]; exact hc⟩
theorem first_take {l : List UInt8} {k : Nat} (h : k ≤ l.length) : first l k = l.take k := by
  unfold first; rw [show k - l.length = 0 by omega]; simp
theorem get64B {a : Option Addr} {n cap : Nat} {l : List UInt8} {x : UInt64} {w : World} (h : RdB w a n cap l) (hx : beW (first l 8) = x) :
    Calls Try.prog 83 #[.slice a n cap] w fun e w' => e = .returned (.int .u64 (x.toNat : Int)) ∧ Below w.heap.size w w' :=
  (get64_any w h).mono fun _ _ ⟨he, hw⟩ => ⟨by rw [he, hx], by rw [← hw]; exact Below.refl _ _⟩
theorem store_u64 {w : World} {p : Addr} {c : Int} {v : Value} (h : w.cell? p = some v) (hf : w.frozen? p = false) : (Instr.storeAt 47 (.pointer (some p)) (.int .u64 c)).run Try.prog w = .ok () (w.setCell p (.int .u64 c)) := by go_simp
set_option maxRecDepth 100000 in
set_option maxHeartbeats 8000000 in
theorem turn_any {v0 : Value} {bb q n cap : Nat} {h : List UInt64} {l : List UInt8} {w : World} (h0 : IsFs rW8 v0 [h]) (hr : RdB w (some ⟨bb, q, none⟩) n cap l) (hn : 128 ≤ n) :
    Calls Try.prog 62 #[v0, .slice (some ⟨bb, q, none⟩) n cap] w fun e w' => ∃ r, e = .returned r ∧ IsFs rW8 r [turn h (words l)] ∧ Below w.heap.size w w' := by
  have HR := Lib.hid hr
  have HN := Lib.hid hn
  clear hr hn
  go_enter Try.func62, Try.ntmps62
  have hbel : Below w.heap.size w w := Below.refl _ _
  have hbel0 := hbel
  go_upto_region 0 with fail
  refine wp_region_turn (fun u => (v0 :: .slice (some ⟨bb, q, none⟩) n cap :: u 0 :: undef :: u 1 :: undef :: undef :: undef :: undef :: undef :: undef :: undef :: undef :: undef :: undef :: undef :: undef :: undef :: undef :: undef :: undef :: undef :: undef :: undef :: undef :: undef :: undef :: undef :: undef :: undef :: undef :: undef :: undef :: undef :: undef :: undef :: undef :: undef :: undef :: undef :: undef :: undef :: undef :: undef :: undef :: undef :: undef :: undef :: undef :: undef :: undef :: undef :: undef :: undef :: undef :: undef :: undef :: undef :: undef :: undef :: undef :: undef :: undef :: undef :: undef :: undef :: undef :: undef :: undef :: undef :: undef :: undef :: undef :: undef :: undef :: undef :: undef :: undef :: undef :: undef :: undef :: undef :: undef :: undef :: undef :: undef :: undef :: undef :: undef :: undef :: undef :: undef :: undef :: undef :: undef :: undef :: undef :: undef :: undef :: undef :: undef :: undef :: undef :: undef :: undef :: undef :: undef :: undef :: undef :: undef :: undef :: undef :: undef :: undef :: undef :: undef :: undef :: undef :: undef :: undef :: undef :: undef :: undef :: undef :: undef :: undef :: undef :: undef :: undef :: undef :: undef :: undef :: undef :: undef :: undef :: undef :: undef :: undef :: undef :: undef :: undef :: undef :: undef :: undef :: undef :: undef :: undef :: undef :: undef :: undef :: undef :: undef :: undef :: undef :: undef :: undef :: undef :: undef :: undef :: undef :: undef :: undef :: undef :: undef :: undef :: undef :: undef :: undef :: undef :: undef :: []).toArray) (Holds [.box rW8 [h], .new 8] w) (Keep [.box rW8 [h], .new 8] w) (fun _ => undef) ?_ (by rfl) Keep.start (holds_soft (by kernel_rfl)) ?_ ?_
  · intro u i v h
    rcases i with _ | _ | i
    all_goals first | (simp [Act.put, putV]; done) | (exfalso; simp at h; omega)
  · intro hs
    refine ⟨?_, ?_, trivial⟩
    · exact step_box hs (wants_none rfl) rfl rfl (gives_c h0 (fun _ => rfl))
    · exact step_alloc hs (wants_none rfl) rfl rfl (by omega) rfl alloca8
  intro L0 u0z W0z hall hJ hG
  obtain ⟨q2, e2, ⟨hq2, _⟩, ht2, hm2⟩ := (show ∃ g, u0z 0 = .pointer (some ⟨g, 0, none⟩) ∧ (w.heap.size ≤ g ∧ g < W0z.heap.size) ∧ W0z.there g 0 8 ∧ HasFs rW8 W0z g 0 [h] from hG 0 (by simp))
  have hq2 : w.heap.size ≤ q2 := by have := hbel0.size; omega
  have E2 := Lib.hid e2; clear e2
  obtain ⟨q4, e4, hq4, _, ht4⟩ := (show ∃ g, u0z 1 = .pointer (some ⟨g, 0, none⟩) ∧ w.heap.size ≤ g ∧ 0 < 8 ∧ W0z.there g 0 8 from hG 1 (by simp))
  have hq4 : w.heap.size ≤ q4 := by have := hbel0.size; omega
  have E4 := Lib.hid e4; clear e4
  have hb := hJ.all rfl
  have hbel := Below.call hbel hb
  have HN2_4 := Lib.hid (show q2 ≠ q4 from fun e => hJ.apart 0 1 _ (by omega) (hall _ (by simp)) (hall _ (by simp)) rfl rfl (E2.out.trans (by rw [e])) E4.out)
  have hbel0 := hbel
  clear hJ hG hall hb
  go_upto_region 1 with fail
  refine wp_region_turn (fun u => (v0 :: .slice (some ⟨bb, q, none⟩) n cap :: u0z 0 :: undef :: u0z 1 :: u 0 :: undef :: undef :: undef :: undef :: undef :: undef :: undef :: undef :: undef :: undef :: undef :: undef :: undef :: undef :: undef :: undef :: undef :: undef :: undef :: undef :: undef :: undef :: undef :: undef :: undef :: undef :: undef :: undef :: undef :: undef :: undef :: undef :: undef :: undef :: undef :: undef :: undef :: undef :: undef :: undef :: undef :: undef :: undef :: undef :: undef :: undef :: undef :: undef :: undef :: undef :: undef :: undef :: undef :: undef :: undef :: undef :: undef :: undef :: undef :: undef :: undef :: undef :: undef :: undef :: undef :: undef :: undef :: undef :: undef :: undef :: undef :: undef :: undef :: undef :: undef :: undef :: undef :: undef :: undef :: undef :: undef :: undef :: undef :: undef :: undef :: undef :: undef :: undef :: undef :: undef :: undef :: undef :: undef :: undef :: undef :: undef :: undef :: undef :: undef :: undef :: undef :: undef :: undef :: undef :: undef :: undef :: undef :: undef :: undef :: undef :: undef :: undef :: undef :: undef :: undef :: undef :: undef :: undef :: undef :: undef :: undef :: undef :: undef :: undef :: undef :: undef :: undef :: undef :: undef :: undef :: undef :: undef :: undef :: undef :: undef :: undef :: undef :: undef :: undef :: undef :: undef :: undef :: undef :: undef :: undef :: undef :: undef :: undef :: undef :: undef :: undef :: undef :: undef :: undef :: undef :: undef :: undef :: undef :: undef :: undef :: undef :: undef :: undef :: undef :: []).toArray) (Holds [.box rW80 [(List.replicate 80 0)]] W0z) (Keep [.box rW80 [(List.replicate 80 0)]] W0z) (fun _ => undef) ?_ (by rfl) Keep.start (holds_soft (by kernel_rfl)) ?_ ?_
  · intro u i v h
    rcases i with _ | i
    all_goals first | (simp [Act.put, putV]; done) | (exfalso; simp at h; omega)
  · intro hs
    refine ⟨?_, trivial⟩
    · exact step_allocZ hs (wants_none rfl) rfl rfl zero80 alloca80
  intro L1 u1z W1z hall hJ hG
  obtain ⟨q5, e5, ⟨hq5, _⟩, ht5, hm5⟩ := (show ∃ g, u1z 0 = .pointer (some ⟨g, 0, none⟩) ∧ (W0z.heap.size ≤ g ∧ g < W1z.heap.size) ∧ W1z.there g 0 80 ∧ HasFs rW80 W1z g 0 [(List.replicate 80 0)] from hG 0 (by simp))
  have HD5_q2 := Lib.hid (show q2 ≠ q5 by have := there_lt ht2 (by omega); omega)
  have HD5_q4 := Lib.hid (show q4 ≠ q5 by have := there_lt ht4 (by omega); omega)
  have hq5 : w.heap.size ≤ q5 := by have := hbel0.size; omega
  have E5 := Lib.hid e5; clear e5
  have hb := hJ.all rfl
  have hbel := Below.call hbel hb
  have hm2 := hm2.later hb
  have ht2 := there_later ht2 hb
  have ht4 := there_later ht4 hb
  have hbel0 := hbel
  clear hJ hG hall hb
  go_upto_region 2 with fail
  refine wp_region_turn (fun u => (v0 :: .slice (some ⟨bb, q, none⟩) n cap :: u0z 0 :: undef :: u0z 1 :: u1z 0 :: u 1 :: undef :: undef :: undef :: undef :: undef :: undef :: undef :: undef :: undef :: undef :: undef :: undef :: undef :: undef :: u 0 :: undef :: undef :: undef :: undef :: undef :: undef :: undef :: undef :: undef :: undef :: undef :: undef :: undef :: undef :: undef :: undef :: undef :: undef :: undef :: undef :: undef :: undef :: undef :: undef :: undef :: undef :: undef :: undef :: undef :: undef :: undef :: undef :: undef :: undef :: undef :: undef :: undef :: undef :: undef :: undef :: undef :: undef :: undef :: undef :: undef :: undef :: undef :: undef :: undef :: undef :: undef :: undef :: undef :: undef :: undef :: undef :: undef :: undef :: undef :: undef :: undef :: undef :: undef :: undef :: undef :: undef :: undef :: undef :: undef :: undef :: undef :: undef :: undef :: undef :: undef :: undef :: undef :: undef :: undef :: undef :: undef :: undef :: undef :: undef :: undef :: undef :: undef :: undef :: undef :: undef :: undef :: undef :: undef :: undef :: undef :: undef :: undef :: undef :: undef :: undef :: undef :: undef :: undef :: undef :: undef :: undef :: undef :: undef :: undef :: undef :: undef :: undef :: undef :: undef :: undef :: undef :: undef :: undef :: undef :: undef :: undef :: undef :: undef :: undef :: undef :: undef :: undef :: undef :: undef :: undef :: undef :: undef :: undef :: undef :: undef :: undef :: undef :: undef :: undef :: undef :: undef :: undef :: undef :: undef :: undef :: undef :: undef :: undef :: []).toArray) (Holds [.val rW80 [kTab], .new 80, .st 1 rW80 [kTab]] W1z) (Keep [.val rW80 [kTab], .new 80, .st 1 rW80 [kTab]] W1z) (fun _ => undef) ?_ (by rfl) Keep.start (holds_soft (by kernel_rfl)) ?_ ?_
  · intro u i v h
    rcases i with _ | _ | _ | i
    all_goals first | (simp [Act.put, putV]; done) | (exfalso; simp at h; omega)
  · intro hs
    refine ⟨?_, ?_, ?_, trivial⟩
    · refine step_call hs (wants_none rfl) rfl fun L u W hJ hG hL hdep K hK => ?_
      go_simp
      go_at_call 82
      (with_reducible refine (rounds_any _).mono ?_); rintro e w1 ⟨r, rfl, hr, hb⟩
      have hk := hK.out _ _ hr hb
      exact hk
    · exact step_alloc hs (wants_none rfl) rfl rfl (by omega) rfl alloca80
    · exact step_store 1 hs (by kernel_rfl) (wants_none rfl) rfl rfl rfl (by kernel_rfl) (by kernel_rfl) (by kernel_rfl) (by kernel_rfl) (fun _ => rfl) (gives_op 0 rfl (by kernel_rfl) (fun _ => rfl)) tya80 rfl
  intro L2 u2z W2z hall hJ hG
  obtain ⟨q6, e6, hq6, _, ht6⟩ := (show ∃ g, u2z 1 = .pointer (some ⟨g, 0, none⟩) ∧ W1z.heap.size ≤ g ∧ 0 < 80 ∧ W2z.there g 0 80 from hG 1 (by simp))
  have hm6 : HasFs rW80 W2z q6 0 [kTab] := by
    obtain ⟨g, e, _, h⟩ := (show ∃ g, u2z 1 = .pointer (some ⟨g, 0, none⟩) ∧ W1z.heap.size ≤ g ∧ HasFs rW80 W2z g 0 [kTab] from hG 2 (by simp))
    rw [e6] at e; cases e; exact h
  have HD6_q2 := Lib.hid (show q2 ≠ q6 by have := there_lt ht2 (by omega); omega)
  have HD6_q4 := Lib.hid (show q4 ≠ q6 by have := there_lt ht4 (by omega); omega)
  have HD6_q5 := Lib.hid (show q5 ≠ q6 by have := there_lt ht5 (by omega); omega)
  have hq6 : w.heap.size ≤ q6 := by have := hbel0.size; omega
  have E6 := Lib.hid e6; clear e6
  have hb := hJ.all rfl
  have hbel := Below.call hbel hb
  have hm2 := hm2.later hb
  have hm5 := hm5.later hb
  have ht2 := there_later ht2 hb
  have ht4 := there_later ht4 hb
  have ht5 := there_later ht5 hb
  have hbel0 := hbel
  clear hJ hG hall hb
  go_wp2_with fail
  go_loopw [22] (fun sk wr => ∃ t : Nat, t ≤ 80 ∧ sk = .int .i64 (t : Int) ∧ HasFs rW8 wr q2 0 [h] ∧ wr.there q2 0 8 ∧ wr.there q4 0 8 ∧ HasFs rW80 wr q5 0 [wP (words l) t] ∧ wr.there q5 0 80 ∧ HasFs rW80 wr q6 0 [kTab] ∧ wr.there q6 0 80 ∧ Below w.heap.size w wr) (fun x _ => 80 - (intOf x).toNat)
  case atStart => exact ⟨0, by omega, rfl, hm2, ht2, ht4, (by rw [wP_zero]; exact hm5), ht5, hm6, ht6, hbel⟩
  case round =>
    obtain ⟨t, ht, rfl, hmL2, htL2, htL4, hmL5, htL5, hmL6, htL6, hbel'⟩ := hrel
    clear hm2 hm5 hm6 ht2 ht4 ht5 ht6 hbel hbel0
    have hbel := hbel'
    have hbel0 := hbel'
    by_cases hlt : t < 80
    · have hd1 : decide ((t : Int) < 80) = true := decide_eq_true (by omega)
      have HLT := Lib.hid hlt
      by_cases h16 : t < 16
      · have hd2 : decide ((t : Int) < 16) = true := decide_eq_true (by omega)
        have hsl : (8 * t : Nat) ≤ n := by have := HN.out; omega
        have hcap0 := HR.out.hcap
        have hmax0 := HR.out.hmax
        unfold maxLen at hmax0
        have hn0 := HN.out
        have HSL := Lib.hid hsl
        obtain ⟨x, hx⟩ : ∃ x, beW (first (l.drop (8 * t)) 8) = x := ⟨_, rfl⟩
        have HX := Lib.hid hx
        have HXS : Hid ((if t < 16 then at0 (words l) t else wNext (wL (words l) t) t) = x) := Lib.hid (by rw [if_pos h16]; unfold words; rw [at0_map h16, ← hx, first_take (by rw [List.length_drop, HR.out.hlen]; omega)])
        clear hx hlt
        go_upto_region 7 with fail
        clear hd1 hd2
        refine wp_region_turn (fun u => (v0 :: .slice (some ⟨bb, q, none⟩) n cap :: u0z 0 :: undef :: u0z 1 :: u1z 0 :: u2z 1 :: .int .i64 (t : Int) :: u8 :: u9 :: u10 :: u11 :: undef :: undef :: undef :: undef :: undef :: undef :: undef :: undef :: undef :: u2z 0 :: .int .i64 (t : Int) :: .bool true :: .int .i64 (t : Int) :: .int .i64 (t : Int) :: .bool true :: u 0 :: u 1 :: u 2 :: u 3 :: u 4 :: u 5 :: u 6 :: u34 :: u35 :: u36 :: u37 :: u38 :: u39 :: u40 :: u41 :: u42 :: u43 :: u44 :: u45 :: u46 :: u47 :: u48 :: u49 :: u50 :: u51 :: u52 :: u53 :: u54 :: u55 :: u56 :: u57 :: u58 :: u59 :: u60 :: u61 :: u62 :: u63 :: u64 :: u65 :: u66 :: u67 :: u68 :: u69 :: u70 :: u71 :: u72 :: u73 :: undef :: undef :: undef :: undef :: undef :: undef :: undef :: undef :: undef :: undef :: undef :: undef :: undef :: undef :: undef :: undef :: undef :: undef :: undef :: undef :: undef :: undef :: undef :: undef :: undef :: undef :: undef :: undef :: undef :: undef :: undef :: undef :: undef :: undef :: undef :: undef :: undef :: undef :: undef :: undef :: undef :: undef :: undef :: undef :: undef :: undef :: undef :: undef :: undef :: undef :: undef :: undef :: undef :: undef :: undef :: undef :: undef :: undef :: undef :: undef :: undef :: undef :: undef :: undef :: undef :: undef :: undef :: undef :: undef :: undef :: undef :: undef :: undef :: undef :: undef :: undef :: undef :: undef :: undef :: undef :: undef :: undef :: undef :: undef :: undef :: undef :: undef :: undef :: undef :: undef :: undef :: undef :: undef :: undef :: undef :: undef :: []).toArray) (Holds [.oth (fun v => v = .int .i64 (t : Int)), .oth (fun v => v = .slice (some ⟨bb, q, none⟩) n cap), .oth (fun v => v = .int .i64 (t : Int)), .oth (fun v => v = .int .i64 ((8 * t : Nat) : Int)), .oth (fun v => v = .slice (some ⟨bb, q + 8 * t, none⟩) (n - 8 * t) (cap - 8 * t)), .oth (fun v => v = .int .u64 ((x).toNat : Int)), .oth (fun v => v = .pointer (some ⟨q5, t, none⟩)), .cst q5 t (.int .u64 ((x).toNat : Int))] wr) (Keep [.oth (fun v => v = .int .i64 (t : Int)), .oth (fun v => v = .slice (some ⟨bb, q, none⟩) n cap), .oth (fun v => v = .int .i64 (t : Int)), .oth (fun v => v = .int .i64 ((8 * t : Nat) : Int)), .oth (fun v => v = .slice (some ⟨bb, q + 8 * t, none⟩) (n - 8 * t) (cap - 8 * t)), .oth (fun v => v = .int .u64 ((x).toNat : Int)), .oth (fun v => v = .pointer (some ⟨q5, t, none⟩)), .cst q5 t (.int .u64 ((x).toNat : Int))] wr) (fun k => ((u27 :: u28 :: u29 :: u30 :: u31 :: u32 :: u33 :: undef :: []) : List Value).getD k undef) ?_ (by rfl) Keep.start (holds_soft (by kernel_rfl)) ?_ ?_
        · intro u i v h
          rcases i with _ | _ | _ | _ | _ | _ | _ | _ | i
          all_goals first | (simp [Act.put, putV]; done) | (exfalso; simp at h; omega)
        · intro hs
          refine ⟨?_, ?_, ?_, ?_, ?_, ?_, ?_, ?_, trivial⟩
          · exact step_pureO hs (wants_none rfl) rfl fun L u W hG hdep => ⟨_, run_move rfl, rfl⟩
          · exact step_pureO hs (wants_none rfl) rfl fun L u W hG hdep => ⟨_, run_move rfl, rfl⟩
          · exact step_pureO hs (wants_none rfl) rfl fun L u W hG hdep => ⟨_, run_move rfl, rfl⟩
          · refine step_pureO hs (wants_none rfl) rfl fun L u W hG hdep => ⟨_, ?_, rfl⟩
            have e0 := (show u 2 = .int .i64 (t : Int) from hG 2 (hdep 2 (by kernel_rfl)))
            go_simp
            try (rw [IntKind.wrap_i64]; omega)
          · refine step_pureO hs (wants_none rfl) rfl fun L u W hG hdep => ⟨_, ?_, rfl⟩
            have e0 := (show u 1 = .slice (some ⟨bb, q, none⟩) n cap from hG 1 (hdep 1 (by kernel_rfl)))
            have e1 := (show u 3 = .int .i64 ((8 * t : Nat) : Int) from hG 3 (hdep 3 (by kernel_rfl)))
            go_simp
            try rw [if_pos (by omega)]
            try rw [if_neg (by omega)]
            try (simp; omega)
          · refine step_callO hs (wants_none rfl) rfl fun L u W hJ hG hL hdep K hK => ?_
            have x0 := (show u 4 = .slice (some ⟨bb, q + 8 * t, none⟩) (n - 8 * t) (cap - 8 * t) from hG 4 (hdep 4 (by kernel_rfl)))
            have hRB0 := (rd_drop HSL.out (HR.out.below (hbel.trans (hJ.below (by have := hbel.size; omega) (fun k b hf => by rcases k with _ | _ | _ | _ | _ | _ | _ | _ | k <;> first | (cases hf; done) | (cases hf; omega))))))
            go_simp
            go_at_call 83
            (with_reducible refine (get64B hRB0 HX.out).mono ?_); rintro e w1 ⟨rfl, hb⟩
            have hk := hK.out _ _ rfl hb
            simp only [x0] at hk
            exact hk
          · refine step_pureO hs (wants_none rfl) rfl fun L u W hG hdep => ⟨_, ?_, rfl⟩
            have e0 := E5.out
            have e1 := (show u 0 = .int .i64 (t : Int) from hG 0 (hdep 0 (by kernel_rfl)))
            have hltx := HLT.out
            go_simp
            try rw [if_pos (by omega)]
            try rw [show ((t : Nat) : Int).toNat = t by omega]
            try omega
          · refine step_cst (old := .int .u64 ((at0 (wP (words l) t) t).toNat : Int)) q5 t hs (wants_none rfl) rfl rfl (by kernel_rfl) (fun k hk => ?_) (fun _ h1 h2 => store_u64 h1 h2) (fun L u W hG hdep => (show u 6 = .pointer (some ⟨q5, t, none⟩) from hG 6 (hdep 6 (by kernel_rfl)))) (fun L u W hG hdep => (show u 5 = .int .u64 ((x).toNat : Int) from hG 5 (hdep 5 (by kernel_rfl)))) (HasFs.cellW hmL5 HLT.out rfl) (there_frozen htL5 HLT.out)
            rcases k with _ | _ | _ | _ | _ | _ | _ | _ | k
            all_goals first | (exact absurd rfl hk) | (intro e; cases e; done)
        intro L7 u7z W7z hall hJ hG
        have hb : Below w.heap.size wr W7z := hJ.below (by have := hbel.size; omega) (fun k b hf => by rcases k with _ | _ | _ | _ | _ | _ | _ | _ | k <;> first | (cases hf; done) | (cases hf; omega))
        have hbel := hbel.trans hb
        have hmL2 := hmL2.blk (hJ.block _ (hmL2.lt) (fun k hk => by rcases k with _ | _ | _ | _ | _ | _ | _ | _ | k <;> first | (cases hk; done) | (cases hk; exact absurd rfl (Ne.symm HD5_q2.out))))
        have hmL5 : HasFs rW80 W7z q5 0 [wP (words l) (t + 1)] := by
          have z := (hmL5.setW htL5 HLT.out x).blk (show _ ∧ W7z.heap[q5]? = (wr.setCell ⟨q5, t, none⟩ (.int .u64 ((x).toNat : Int))).heap[q5]? from hG 7 (by simp)).2
          rw [wP_set HLT.out HXS.out] at z
          exact z
        have hmL6 := hmL6.blk (hJ.block _ (hmL6.lt) (fun k hk => by rcases k with _ | _ | _ | _ | _ | _ | _ | _ | k <;> first | (cases hk; done) | (cases hk; exact absurd rfl HD6_q5.out)))
        have htL2 := there_blk htL2 (hJ.block _ (there_lt htL2 (by omega)) (fun k hk => by rcases k with _ | _ | _ | _ | _ | _ | _ | _ | k <;> first | (cases hk; done) | (cases hk; exact absurd rfl (Ne.symm HD5_q2.out))))
        have htL4 := there_blk htL4 (hJ.block _ (there_lt htL4 (by omega)) (fun k hk => by rcases k with _ | _ | _ | _ | _ | _ | _ | _ | k <;> first | (cases hk; done) | (cases hk; exact absurd rfl (Ne.symm HD5_q4.out))))
        have htL5 := there_blk (there_set (b := q5) (k := t) (v := .int .u64 ((x).toNat : Int)) htL5) (show _ ∧ W7z.heap[q5]? = (wr.setCell ⟨q5, t, none⟩ (.int .u64 ((x).toNat : Int))).heap[q5]? from hG 7 (by simp)).2
        have htL6 := there_blk htL6 (hJ.block _ (there_lt htL6 (by omega)) (fun k hk => by rcases k with _ | _ | _ | _ | _ | _ | _ | _ | k <;> first | (cases hk; done) | (cases hk; exact absurd rfl HD6_q5.out)))
        have hbel0 := hbel
        clear hJ hG hall hb
        have hlt := HLT.out
        go_wp2_with fail
        go_roundw
        case rel => exact ⟨t + 1, by omega, by go_num, hmL2, htL2, htL4, hmL5, htL5, hmL6, htL6, hbel⟩
        case measure => simp [intOf]; omega
      · have hd2 : decide ((t : Int) < 16) = false := decide_eq_false (by omega)
        have hge : 16 ≤ t := by omega
        obtain ⟨x15, hx15⟩ : ∃ x, at0 (wP (words l) t) (t - 15) = x := ⟨_, rfl⟩
        obtain ⟨x2, hx2⟩ : ∃ x, at0 (wP (words l) t) (t - 2) = x := ⟨_, rfl⟩
        obtain ⟨x16, hx16⟩ : ∃ x, at0 (wP (words l) t) (t - 16) = x := ⟨_, rfl⟩
        obtain ⟨x7, hx7⟩ : ∃ x, at0 (wP (words l) t) (t - 7) = x := ⟨_, rfl⟩
        have HXS : Hid ((if t < 16 then at0 (words l) t else wNext (wL (words l) t) t) = up (up (up x16 (sg0 x15)) x7) (sg1 x2)) := Lib.hid (by
          rw [if_neg (by omega), ← hx15, ← hx2, ← hx16, ← hx7, wP_at (by omega), wP_at (by omega), wP_at (by omega), wP_at (by omega)]; rfl)
        have HX15 := Lib.hid hx15; have HX2 := Lib.hid hx2; have HX16 := Lib.hid hx16; have HX7 := Lib.hid hx7
        clear hx15 hx2 hx16 hx7
        go_upto_region 8 with fail
        clear hd1 hd2
        refine wp_region_mid (fun u => (v0 :: .slice (some ⟨bb, q, none⟩) n cap :: u0z 0 :: undef :: u0z 1 :: u1z 0 :: u2z 1 :: .int .i64 (t : Int) :: u 8 :: u 9 :: u10 :: u11 :: undef :: undef :: undef :: undef :: undef :: undef :: undef :: undef :: undef :: u2z 0 :: .int .i64 (t : Int) :: .bool true :: .int .i64 (t : Int) :: .int .i64 (t : Int) :: .bool false :: u27 :: u28 :: u29 :: u30 :: u31 :: u32 :: u33 :: u 0 :: u 1 :: u 2 :: u 3 :: u 4 :: u 5 :: u 6 :: u 7 :: u42 :: u43 :: u44 :: u45 :: u46 :: u47 :: u48 :: u49 :: u50 :: u51 :: u52 :: u53 :: u54 :: u55 :: u56 :: u57 :: u58 :: u59 :: u60 :: u61 :: u62 :: u63 :: u64 :: u65 :: u66 :: u67 :: u68 :: u69 :: u70 :: u71 :: u72 :: u73 :: undef :: undef :: undef :: undef :: undef :: undef :: undef :: undef :: undef :: undef :: undef :: undef :: undef :: undef :: undef :: undef :: undef :: undef :: undef :: undef :: undef :: undef :: undef :: undef :: undef :: undef :: undef :: undef :: undef :: undef :: undef :: undef :: undef :: undef :: undef :: undef :: undef :: undef :: undef :: undef :: undef :: undef :: undef :: undef :: undef :: undef :: undef :: undef :: undef :: undef :: undef :: undef :: undef :: undef :: undef :: undef :: undef :: undef :: undef :: undef :: undef :: undef :: undef :: undef :: undef :: undef :: undef :: undef :: undef :: undef :: undef :: undef :: undef :: undef :: undef :: undef :: undef :: undef :: undef :: undef :: undef :: undef :: undef :: undef :: undef :: undef :: undef :: undef :: undef :: undef :: undef :: undef :: undef :: undef :: undef :: undef :: []).toArray) (Holds [.oth (fun v => v = .int .i64 (t : Int)), .oth (fun v => v = .int .i64 ((t - 15 : Nat) : Int)), .oth (fun v => v = .pointer (some ⟨q5, t - 15, none⟩)), .oth (fun v => v = .int .u64 ((x15).toNat : Int)), .oth (fun v => v = .int .i64 (t : Int)), .oth (fun v => v = .int .i64 ((t - 2 : Nat) : Int)), .oth (fun v => v = .pointer (some ⟨q5, t - 2, none⟩)), .oth (fun v => v = .int .u64 ((x2).toNat : Int)), .oth (fun v => v = .int .u64 ((x15).toNat : Int)), .oth (fun v => v = .int .u64 ((x2).toNat : Int))] wr) (Keep [.oth (fun v => v = .int .i64 (t : Int)), .oth (fun v => v = .int .i64 ((t - 15 : Nat) : Int)), .oth (fun v => v = .pointer (some ⟨q5, t - 15, none⟩)), .oth (fun v => v = .int .u64 ((x15).toNat : Int)), .oth (fun v => v = .int .i64 (t : Int)), .oth (fun v => v = .int .i64 ((t - 2 : Nat) : Int)), .oth (fun v => v = .pointer (some ⟨q5, t - 2, none⟩)), .oth (fun v => v = .int .u64 ((x2).toNat : Int)), .oth (fun v => v = .int .u64 ((x15).toNat : Int)), .oth (fun v => v = .int .u64 ((x2).toNat : Int))] wr) (fun k => ((u34 :: u35 :: u36 :: u37 :: u38 :: u39 :: u40 :: u41 :: u8 :: u9 :: []) : List Value).getD k undef) (by kernel_rfl) (by kernel_rfl) ?_ (by rfl) Keep.drew (holds_soft (by kernel_rfl)) ?_ ?_
        · intro u i v h
          rcases i with _ | _ | _ | _ | _ | _ | _ | _ | _ | _ | i
          all_goals first | (simp [Act.put, putV]; done) | (exfalso; simp at h; omega)
        · intro hs
          refine ⟨?_, ?_, ?_, ?_, ?_, ?_, ?_, ?_, ?_, ?_, trivial⟩
          · exact step_pureO hs (wants_none rfl) rfl fun L u W hG hdep => ⟨_, run_move rfl, rfl⟩
          · refine step_pureO hs (wants_none rfl) rfl fun L u W hG hdep => ⟨_, ?_, rfl⟩
            have e0 := (show u 0 = .int .i64 (t : Int) from hG 0 (hdep 0 (by kernel_rfl)))
            go_simp
            try (rw [IntKind.wrap_i64]; omega)
          · refine step_pureO hs (wants_none rfl) rfl fun L u W hG hdep => ⟨_, ?_, rfl⟩
            have e0 := E5.out
            have e1 := (show u 1 = .int .i64 ((t - 15 : Nat) : Int) from hG 1 (hdep 1 (by kernel_rfl)))
            have hltx := HLT.out
            go_simp
            try rw [if_pos (by omega)]
            try rw [show ((t - 15 : Nat) : Int).toNat = t - 15 by omega]
            try omega
          · exact step_cell q5 (t - 15) hs (wants_none rfl) rfl rfl (fun _ h => load_u64 h) (fun L u W hG hdep => (show u 2 = .pointer (some ⟨q5, t - 15, none⟩) from hG 2 (hdep 2 (by kernel_rfl)))) (HasFs.cellW hmL5 (by omega) HX15.out) (noSto_apart (by kernel_rfl))
          · exact step_pureO hs (wants_none rfl) rfl fun L u W hG hdep => ⟨_, run_move rfl, rfl⟩
          · refine step_pureO hs (wants_none rfl) rfl fun L u W hG hdep => ⟨_, ?_, rfl⟩
            have e0 := (show u 4 = .int .i64 (t : Int) from hG 4 (hdep 4 (by kernel_rfl)))
            go_simp
            try (rw [IntKind.wrap_i64]; omega)
          · refine step_pureO hs (wants_none rfl) rfl fun L u W hG hdep => ⟨_, ?_, rfl⟩
            have e0 := E5.out
            have e1 := (show u 5 = .int .i64 ((t - 2 : Nat) : Int) from hG 5 (hdep 5 (by kernel_rfl)))
            have hltx := HLT.out
            go_simp
            try rw [if_pos (by omega)]
            try rw [show ((t - 2 : Nat) : Int).toNat = t - 2 by omega]
            try omega
          · exact step_cell q5 (t - 2) hs (wants_none rfl) rfl rfl (fun _ h => load_u64 h) (fun L u W hG hdep => (show u 6 = .pointer (some ⟨q5, t - 2, none⟩) from hG 6 (hdep 6 (by kernel_rfl)))) (HasFs.cellW hmL5 (by omega) HX2.out) (noSto_apart (by kernel_rfl))
          · exact step_pureO hs (wants_none rfl) rfl fun L u W hG hdep => ⟨_, run_assign rfl, (show u 3 = .int .u64 ((x15).toNat : Int) from hG 3 (hdep 3 (by kernel_rfl)))⟩
          · exact step_pureO hs (wants_none rfl) rfl fun L u W hG hdep => ⟨_, run_assign rfl, (show u 7 = .int .u64 ((x2).toNat : Int) from hG 7 (hdep 7 (by kernel_rfl)))⟩
        intro L8 u8z W8z hall hJ hG
        have hb := hJ.all rfl
        have hbel := Below.call hbel hb
        have hmL2 := hmL2.later hb
        have hmL5 := hmL5.later hb
        have hmL6 := hmL6.later hb
        have htL2 := there_later htL2 hb
        have htL4 := there_later htL4 hb
        have htL5 := there_later htL5 hb
        have htL6 := there_later htL6 hb
        have HC8 := Lib.hid (show u8z 8 = .int .u64 ((x15).toNat : Int) from hG 8 (by simp))
        have HC9 := Lib.hid (show u8z 9 = .int .u64 ((x2).toNat : Int) from hG 9 (by simp))
        have hbel0 := hbel
        clear hJ hG hall hb
        go_upto_region 9 with fail
        refine wp_region_turn (fun u => (v0 :: .slice (some ⟨bb, q, none⟩) n cap :: u0z 0 :: undef :: u0z 1 :: u1z 0 :: u2z 1 :: .int .i64 (t : Int) :: u8z 8 :: u8z 9 :: u 8 :: u11 :: undef :: undef :: undef :: undef :: undef :: undef :: undef :: undef :: undef :: u2z 0 :: .int .i64 (t : Int) :: .bool true :: .int .i64 (t : Int) :: .int .i64 (t : Int) :: .bool false :: u27 :: u28 :: u29 :: u30 :: u31 :: u32 :: u33 :: u8z 0 :: u8z 1 :: u8z 2 :: u8z 3 :: u8z 4 :: u8z 5 :: u8z 6 :: u8z 7 :: u 0 :: u 1 :: u 2 :: u 3 :: u 4 :: u 5 :: u 6 :: u 7 :: u50 :: u51 :: u52 :: u53 :: u54 :: u55 :: u56 :: u57 :: u58 :: u59 :: u60 :: u61 :: u62 :: u63 :: u64 :: u65 :: u66 :: u67 :: u68 :: u69 :: u70 :: u71 :: u72 :: u73 :: undef :: undef :: undef :: undef :: undef :: undef :: undef :: undef :: undef :: undef :: undef :: undef :: undef :: undef :: undef :: undef :: undef :: undef :: undef :: undef :: undef :: undef :: undef :: undef :: undef :: undef :: undef :: undef :: undef :: undef :: undef :: undef :: undef :: undef :: undef :: undef :: undef :: undef :: undef :: undef :: undef :: undef :: undef :: undef :: undef :: undef :: undef :: undef :: undef :: undef :: undef :: undef :: undef :: undef :: undef :: undef :: undef :: undef :: undef :: undef :: undef :: undef :: undef :: undef :: undef :: undef :: undef :: undef :: undef :: undef :: undef :: undef :: undef :: undef :: undef :: undef :: undef :: undef :: undef :: undef :: undef :: undef :: undef :: undef :: undef :: undef :: undef :: undef :: undef :: undef :: undef :: undef :: undef :: undef :: undef :: undef :: []).toArray) (Holds [.oth (fun v => v = .int .u64 ((x15).toNat : Int)), .oth (fun v => v = .int .u64 ((rotr x15 1).toNat : Int)), .oth (fun v => v = .int .u64 ((x15).toNat : Int)), .oth (fun v => v = .int .u64 ((rotr x15 8).toNat : Int)), .oth (fun v => v = .int .u64 ((ux (rotr x15 1) (rotr x15 8)).toNat : Int)), .oth (fun v => v = .int .u64 ((x15).toNat : Int)), .oth (fun v => v = .int .u64 ((ush x15 7).toNat : Int)), .oth (fun v => v = .int .u64 ((ux (ux (rotr x15 1) (rotr x15 8)) (ush x15 7)).toNat : Int)), .oth (fun v => v = .int .u64 ((ux (ux (rotr x15 1) (rotr x15 8)) (ush x15 7)).toNat : Int))] W8z) (Keep [.oth (fun v => v = .int .u64 ((x15).toNat : Int)), .oth (fun v => v = .int .u64 ((rotr x15 1).toNat : Int)), .oth (fun v => v = .int .u64 ((x15).toNat : Int)), .oth (fun v => v = .int .u64 ((rotr x15 8).toNat : Int)), .oth (fun v => v = .int .u64 ((ux (rotr x15 1) (rotr x15 8)).toNat : Int)), .oth (fun v => v = .int .u64 ((x15).toNat : Int)), .oth (fun v => v = .int .u64 ((ush x15 7).toNat : Int)), .oth (fun v => v = .int .u64 ((ux (ux (rotr x15 1) (rotr x15 8)) (ush x15 7)).toNat : Int)), .oth (fun v => v = .int .u64 ((ux (ux (rotr x15 1) (rotr x15 8)) (ush x15 7)).toNat : Int))] W8z) (fun k => ((u42 :: u43 :: u44 :: u45 :: u46 :: u47 :: u48 :: u49 :: u10 :: []) : List Value).getD k undef) ?_ (by rfl) Keep.start (holds_soft (by kernel_rfl)) ?_ ?_
        · intro u i v h
          rcases i with _ | _ | _ | _ | _ | _ | _ | _ | _ | i
          all_goals first | (simp [Act.put, putV]; done) | (exfalso; simp at h; omega)
        · intro hs
          refine ⟨?_, ?_, ?_, ?_, ?_, ?_, ?_, ?_, ?_, trivial⟩
          · exact step_pureO hs (wants_none rfl) rfl fun L u W hG hdep => ⟨_, run_move rfl, HC8.out⟩
          · refine step_callO hs (wants_none rfl) rfl fun L u W hJ hG hL hdep K hK => ?_
            have x0 := (show u 0 = .int .u64 ((x15).toNat : Int) from hG 0 (hdep 0 (by kernel_rfl)))
            go_simp
            go_at_call 84
            (with_reducible refine (rotB_1 (x := x15) _).mono ?_); rintro e w1 ⟨rfl, hb⟩
            have hk := hK.out _ _ rfl hb
            simp only [x0] at hk
            exact hk
          · exact step_pureO hs (wants_none rfl) rfl fun L u W hG hdep => ⟨_, run_move rfl, HC8.out⟩
          · refine step_callO hs (wants_none rfl) rfl fun L u W hJ hG hL hdep K hK => ?_
            have x0 := (show u 2 = .int .u64 ((x15).toNat : Int) from hG 2 (hdep 2 (by kernel_rfl)))
            go_simp
            go_at_call 84
            (with_reducible refine (rotB_8 (x := x15) _).mono ?_); rintro e w1 ⟨rfl, hb⟩
            have hk := hK.out _ _ rfl hb
            simp only [x0] at hk
            exact hk
          · refine step_pureO hs (wants_none rfl) rfl fun L u W hG hdep => ⟨_, ?_, rfl⟩
            have e0 := (show u 1 = .int .u64 ((rotr x15 1).toNat : Int) from hG 1 (hdep 1 (by kernel_rfl)))
            have e1 := (show u 3 = .int .u64 ((rotr x15 8).toNat : Int) from hG 3 (hdep 3 (by kernel_rfl)))
            exact run_ux rfl ((show u 1 = .int .u64 ((rotr x15 1).toNat : Int) from hG 1 (hdep 1 (by kernel_rfl)))) ((show u 3 = .int .u64 ((rotr x15 8).toNat : Int) from hG 3 (hdep 3 (by kernel_rfl))))
          · exact step_pureO hs (wants_none rfl) rfl fun L u W hG hdep => ⟨_, run_move rfl, HC8.out⟩
          · refine step_pureO hs (wants_none rfl) rfl fun L u W hG hdep => ⟨_, ?_, rfl⟩
            have e0 := (show u 5 = .int .u64 ((x15).toNat : Int) from hG 5 (hdep 5 (by kernel_rfl)))
            exact run_ush7 rfl rfl ((show u 5 = .int .u64 ((x15).toNat : Int) from hG 5 (hdep 5 (by kernel_rfl))))
          · refine step_pureO hs (wants_none rfl) rfl fun L u W hG hdep => ⟨_, ?_, rfl⟩
            have e0 := (show u 4 = .int .u64 ((ux (rotr x15 1) (rotr x15 8)).toNat : Int) from hG 4 (hdep 4 (by kernel_rfl)))
            have e1 := (show u 6 = .int .u64 ((ush x15 7).toNat : Int) from hG 6 (hdep 6 (by kernel_rfl)))
            exact run_ux rfl ((show u 4 = .int .u64 ((ux (rotr x15 1) (rotr x15 8)).toNat : Int) from hG 4 (hdep 4 (by kernel_rfl)))) ((show u 6 = .int .u64 ((ush x15 7).toNat : Int) from hG 6 (hdep 6 (by kernel_rfl))))
          · exact step_pureO hs (wants_none rfl) rfl fun L u W hG hdep => ⟨_, run_assign rfl, (show u 7 = .int .u64 ((ux (ux (rotr x15 1) (rotr x15 8)) (ush x15 7)).toNat : Int) from hG 7 (hdep 7 (by kernel_rfl)))⟩
        intro L9 u9z W9z hall hJ hG
        have hb := hJ.all rfl
        have hbel := Below.call hbel hb
        have hmL2 := hmL2.later hb
        have hmL5 := hmL5.later hb
        have hmL6 := hmL6.later hb
        have htL2 := there_later htL2 hb
        have htL4 := there_later htL4 hb
        have htL5 := there_later htL5 hb
        have htL6 := there_later htL6 hb
        have HC10 := Lib.hid (show u9z 8 = .int .u64 ((ux (ux (rotr x15 1) (rotr x15 8)) (ush x15 7)).toNat : Int) from hG 8 (by simp))
        have hbel0 := hbel
        clear hJ hG hall hb
        go_upto_region 10 with fail
        refine wp_region_turn (fun u => (v0 :: .slice (some ⟨bb, q, none⟩) n cap :: u0z 0 :: undef :: u0z 1 :: u1z 0 :: u2z 1 :: .int .i64 (t : Int) :: u8z 8 :: u8z 9 :: u9z 8 :: u 8 :: undef :: undef :: undef :: undef :: undef :: undef :: undef :: undef :: undef :: u2z 0 :: .int .i64 (t : Int) :: .bool true :: .int .i64 (t : Int) :: .int .i64 (t : Int) :: .bool false :: u27 :: u28 :: u29 :: u30 :: u31 :: u32 :: u33 :: u8z 0 :: u8z 1 :: u8z 2 :: u8z 3 :: u8z 4 :: u8z 5 :: u8z 6 :: u8z 7 :: u9z 0 :: u9z 1 :: u9z 2 :: u9z 3 :: u9z 4 :: u9z 5 :: u9z 6 :: u9z 7 :: u 0 :: u 1 :: u 2 :: u 3 :: u 4 :: u 5 :: u 6 :: u 7 :: u58 :: u59 :: u60 :: u61 :: u62 :: u63 :: u64 :: u65 :: u66 :: u67 :: u68 :: u69 :: u70 :: u71 :: u72 :: u73 :: undef :: undef :: undef :: undef :: undef :: undef :: undef :: undef :: undef :: undef :: undef :: undef :: undef :: undef :: undef :: undef :: undef :: undef :: undef :: undef :: undef :: undef :: undef :: undef :: undef :: undef :: undef :: undef :: undef :: undef :: undef :: undef :: undef :: undef :: undef :: undef :: undef :: undef :: undef :: undef :: undef :: undef :: undef :: undef :: undef :: undef :: undef :: undef :: undef :: undef :: undef :: undef :: undef :: undef :: undef :: undef :: undef :: undef :: undef :: undef :: undef :: undef :: undef :: undef :: undef :: undef :: undef :: undef :: undef :: undef :: undef :: undef :: undef :: undef :: undef :: undef :: undef :: undef :: undef :: undef :: undef :: undef :: undef :: undef :: undef :: undef :: undef :: undef :: undef :: undef :: undef :: undef :: undef :: undef :: undef :: undef :: []).toArray) (Holds [.oth (fun v => v = .int .u64 ((x2).toNat : Int)), .oth (fun v => v = .int .u64 ((rotr x2 19).toNat : Int)), .oth (fun v => v = .int .u64 ((x2).toNat : Int)), .oth (fun v => v = .int .u64 ((rotr x2 61).toNat : Int)), .oth (fun v => v = .int .u64 ((ux (rotr x2 19) (rotr x2 61)).toNat : Int)), .oth (fun v => v = .int .u64 ((x2).toNat : Int)), .oth (fun v => v = .int .u64 ((ush x2 6).toNat : Int)), .oth (fun v => v = .int .u64 ((ux (ux (rotr x2 19) (rotr x2 61)) (ush x2 6)).toNat : Int)), .oth (fun v => v = .int .u64 ((ux (ux (rotr x2 19) (rotr x2 61)) (ush x2 6)).toNat : Int))] W9z) (Keep [.oth (fun v => v = .int .u64 ((x2).toNat : Int)), .oth (fun v => v = .int .u64 ((rotr x2 19).toNat : Int)), .oth (fun v => v = .int .u64 ((x2).toNat : Int)), .oth (fun v => v = .int .u64 ((rotr x2 61).toNat : Int)), .oth (fun v => v = .int .u64 ((ux (rotr x2 19) (rotr x2 61)).toNat : Int)), .oth (fun v => v = .int .u64 ((x2).toNat : Int)), .oth (fun v => v = .int .u64 ((ush x2 6).toNat : Int)), .oth (fun v => v = .int .u64 ((ux (ux (rotr x2 19) (rotr x2 61)) (ush x2 6)).toNat : Int)), .oth (fun v => v = .int .u64 ((ux (ux (rotr x2 19) (rotr x2 61)) (ush x2 6)).toNat : Int))] W9z) (fun k => ((u50 :: u51 :: u52 :: u53 :: u54 :: u55 :: u56 :: u57 :: u11 :: []) : List Value).getD k undef) ?_ (by rfl) Keep.start (holds_soft (by kernel_rfl)) ?_ ?_
        · intro u i v h
          rcases i with _ | _ | _ | _ | _ | _ | _ | _ | _ | i
          all_goals first | (simp [Act.put, putV]; done) | (exfalso; simp at h; omega)
        · intro hs
          refine ⟨?_, ?_, ?_, ?_, ?_, ?_, ?_, ?_, ?_, trivial⟩
          · exact step_pureO hs (wants_none rfl) rfl fun L u W hG hdep => ⟨_, run_move rfl, HC9.out⟩
          · refine step_callO hs (wants_none rfl) rfl fun L u W hJ hG hL hdep K hK => ?_
            have x0 := (show u 0 = .int .u64 ((x2).toNat : Int) from hG 0 (hdep 0 (by kernel_rfl)))
            go_simp
            go_at_call 84
            (with_reducible refine (rotB_19 (x := x2) _).mono ?_); rintro e w1 ⟨rfl, hb⟩
            have hk := hK.out _ _ rfl hb
            simp only [x0] at hk
            exact hk
          · exact step_pureO hs (wants_none rfl) rfl fun L u W hG hdep => ⟨_, run_move rfl, HC9.out⟩
          · refine step_callO hs (wants_none rfl) rfl fun L u W hJ hG hL hdep K hK => ?_
            have x0 := (show u 2 = .int .u64 ((x2).toNat : Int) from hG 2 (hdep 2 (by kernel_rfl)))
            go_simp
            go_at_call 84
            (with_reducible refine (rotB_61 (x := x2) _).mono ?_); rintro e w1 ⟨rfl, hb⟩
            have hk := hK.out _ _ rfl hb
            simp only [x0] at hk
            exact hk
          · refine step_pureO hs (wants_none rfl) rfl fun L u W hG hdep => ⟨_, ?_, rfl⟩
            have e0 := (show u 1 = .int .u64 ((rotr x2 19).toNat : Int) from hG 1 (hdep 1 (by kernel_rfl)))
            have e1 := (show u 3 = .int .u64 ((rotr x2 61).toNat : Int) from hG 3 (hdep 3 (by kernel_rfl)))
            exact run_ux rfl ((show u 1 = .int .u64 ((rotr x2 19).toNat : Int) from hG 1 (hdep 1 (by kernel_rfl)))) ((show u 3 = .int .u64 ((rotr x2 61).toNat : Int) from hG 3 (hdep 3 (by kernel_rfl))))
          · exact step_pureO hs (wants_none rfl) rfl fun L u W hG hdep => ⟨_, run_move rfl, HC9.out⟩
          · refine step_pureO hs (wants_none rfl) rfl fun L u W hG hdep => ⟨_, ?_, rfl⟩
            have e0 := (show u 5 = .int .u64 ((x2).toNat : Int) from hG 5 (hdep 5 (by kernel_rfl)))
            exact run_ush6 rfl rfl ((show u 5 = .int .u64 ((x2).toNat : Int) from hG 5 (hdep 5 (by kernel_rfl))))
          · refine step_pureO hs (wants_none rfl) rfl fun L u W hG hdep => ⟨_, ?_, rfl⟩
            have e0 := (show u 4 = .int .u64 ((ux (rotr x2 19) (rotr x2 61)).toNat : Int) from hG 4 (hdep 4 (by kernel_rfl)))
            have e1 := (show u 6 = .int .u64 ((ush x2 6).toNat : Int) from hG 6 (hdep 6 (by kernel_rfl)))
            exact run_ux rfl ((show u 4 = .int .u64 ((ux (rotr x2 19) (rotr x2 61)).toNat : Int) from hG 4 (hdep 4 (by kernel_rfl)))) ((show u 6 = .int .u64 ((ush x2 6).toNat : Int) from hG 6 (hdep 6 (by kernel_rfl))))
          · exact step_pureO hs (wants_none rfl) rfl fun L u W hG hdep => ⟨_, run_assign rfl, (show u 7 = .int .u64 ((ux (ux (rotr x2 19) (rotr x2 61)) (ush x2 6)).toNat : Int) from hG 7 (hdep 7 (by kernel_rfl)))⟩
        intro L10 u10z W10z hall hJ hG
        have hb := hJ.all rfl
        have hbel := Below.call hbel hb
        have hmL2 := hmL2.later hb
        have hmL5 := hmL5.later hb
        have hmL6 := hmL6.later hb
        have htL2 := there_later htL2 hb
        have htL4 := there_later htL4 hb
        have htL5 := there_later htL5 hb
        have htL6 := there_later htL6 hb
        have HC11 := Lib.hid (show u10z 8 = .int .u64 ((ux (ux (rotr x2 19) (rotr x2 61)) (ush x2 6)).toNat : Int) from hG 8 (by simp))
        have hbel0 := hbel
        clear hJ hG hall hb
        go_upto_region 11 with fail
        refine wp_region_mid (fun u => (v0 :: .slice (some ⟨bb, q, none⟩) n cap :: u0z 0 :: undef :: u0z 1 :: u1z 0 :: u2z 1 :: .int .i64 (t : Int) :: u8z 8 :: u8z 9 :: u9z 8 :: u10z 8 :: undef :: undef :: undef :: undef :: undef :: undef :: undef :: undef :: undef :: u2z 0 :: .int .i64 (t : Int) :: .bool true :: .int .i64 (t : Int) :: .int .i64 (t : Int) :: .bool false :: u27 :: u28 :: u29 :: u30 :: u31 :: u32 :: u33 :: u8z 0 :: u8z 1 :: u8z 2 :: u8z 3 :: u8z 4 :: u8z 5 :: u8z 6 :: u8z 7 :: u9z 0 :: u9z 1 :: u9z 2 :: u9z 3 :: u9z 4 :: u9z 5 :: u9z 6 :: u9z 7 :: u10z 0 :: u10z 1 :: u10z 2 :: u10z 3 :: u10z 4 :: u10z 5 :: u10z 6 :: u10z 7 :: u 0 :: u 1 :: u 2 :: u 3 :: u 4 :: u 5 :: u 6 :: u 7 :: u 8 :: u 9 :: u 10 :: u 11 :: u 12 :: u 13 :: u 14 :: u73 :: undef :: undef :: undef :: undef :: undef :: undef :: undef :: undef :: undef :: undef :: undef :: undef :: undef :: undef :: undef :: undef :: undef :: undef :: undef :: undef :: undef :: undef :: undef :: undef :: undef :: undef :: undef :: undef :: undef :: undef :: undef :: undef :: undef :: undef :: undef :: undef :: undef :: undef :: undef :: undef :: undef :: undef :: undef :: undef :: undef :: undef :: undef :: undef :: undef :: undef :: undef :: undef :: undef :: undef :: undef :: undef :: undef :: undef :: undef :: undef :: undef :: undef :: undef :: undef :: undef :: undef :: undef :: undef :: undef :: undef :: undef :: undef :: undef :: undef :: undef :: undef :: undef :: undef :: undef :: undef :: undef :: undef :: undef :: undef :: undef :: undef :: undef :: undef :: undef :: undef :: undef :: undef :: undef :: undef :: undef :: undef :: []).toArray) (Holds [.oth (fun v => v = .int .i64 (t : Int)), .oth (fun v => v = .int .i64 (t : Int)), .oth (fun v => v = .int .i64 ((t - 16 : Nat) : Int)), .oth (fun v => v = .pointer (some ⟨q5, t - 16, none⟩)), .oth (fun v => v = .int .u64 ((x16).toNat : Int)), .oth (fun v => v = .int .u64 ((ux (ux (rotr x15 1) (rotr x15 8)) (ush x15 7)).toNat : Int)), .oth (fun v => v = .int .u64 ((up x16 (ux (ux (rotr x15 1) (rotr x15 8)) (ush x15 7))).toNat : Int)), .oth (fun v => v = .int .i64 (t : Int)), .oth (fun v => v = .int .i64 ((t - 7 : Nat) : Int)), .oth (fun v => v = .pointer (some ⟨q5, t - 7, none⟩)), .oth (fun v => v = .int .u64 ((x7).toNat : Int)), .oth (fun v => v = .int .u64 ((up (up x16 (ux (ux (rotr x15 1) (rotr x15 8)) (ush x15 7))) x7).toNat : Int)), .oth (fun v => v = .int .u64 ((ux (ux (rotr x2 19) (rotr x2 61)) (ush x2 6)).toNat : Int)), .oth (fun v => v = .int .u64 ((up (up (up x16 (ux (ux (rotr x15 1) (rotr x15 8)) (ush x15 7))) x7) (ux (ux (rotr x2 19) (rotr x2 61)) (ush x2 6))).toNat : Int)), .oth (fun v => v = .pointer (some ⟨q5, t, none⟩)), .cst q5 t (.int .u64 ((up (up (up x16 (ux (ux (rotr x15 1) (rotr x15 8)) (ush x15 7))) x7) (ux (ux (rotr x2 19) (rotr x2 61)) (ush x2 6))).toNat : Int))] W10z) (Keep [.oth (fun v => v = .int .i64 (t : Int)), .oth (fun v => v = .int .i64 (t : Int)), .oth (fun v => v = .int .i64 ((t - 16 : Nat) : Int)), .oth (fun v => v = .pointer (some ⟨q5, t - 16, none⟩)), .oth (fun v => v = .int .u64 ((x16).toNat : Int)), .oth (fun v => v = .int .u64 ((ux (ux (rotr x15 1) (rotr x15 8)) (ush x15 7)).toNat : Int)), .oth (fun v => v = .int .u64 ((up x16 (ux (ux (rotr x15 1) (rotr x15 8)) (ush x15 7))).toNat : Int)), .oth (fun v => v = .int .i64 (t : Int)), .oth (fun v => v = .int .i64 ((t - 7 : Nat) : Int)), .oth (fun v => v = .pointer (some ⟨q5, t - 7, none⟩)), .oth (fun v => v = .int .u64 ((x7).toNat : Int)), .oth (fun v => v = .int .u64 ((up (up x16 (ux (ux (rotr x15 1) (rotr x15 8)) (ush x15 7))) x7).toNat : Int)), .oth (fun v => v = .int .u64 ((ux (ux (rotr x2 19) (rotr x2 61)) (ush x2 6)).toNat : Int)), .oth (fun v => v = .int .u64 ((up (up (up x16 (ux (ux (rotr x15 1) (rotr x15 8)) (ush x15 7))) x7) (ux (ux (rotr x2 19) (rotr x2 61)) (ush x2 6))).toNat : Int)), .oth (fun v => v = .pointer (some ⟨q5, t, none⟩)), .cst q5 t (.int .u64 ((up (up (up x16 (ux (ux (rotr x15 1) (rotr x15 8)) (ush x15 7))) x7) (ux (ux (rotr x2 19) (rotr x2 61)) (ush x2 6))).toNat : Int))] W10z) (fun k => ((u58 :: u59 :: u60 :: u61 :: u62 :: u63 :: u64 :: u65 :: u66 :: u67 :: u68 :: u69 :: u70 :: u71 :: u72 :: undef :: []) : List Value).getD k undef) (by kernel_rfl) (by kernel_rfl) ?_ (by rfl) Keep.drew (holds_soft (by kernel_rfl)) ?_ ?_
        · intro u i v h
          rcases i with _ | _ | _ | _ | _ | _ | _ | _ | _ | _ | _ | _ | _ | _ | _ | _ | i
          all_goals first | (simp [Act.put, putV]; done) | (exfalso; simp at h; omega)
        · intro hs
          refine ⟨?_, ?_, ?_, ?_, ?_, ?_, ?_, ?_, ?_, ?_, ?_, ?_, ?_, ?_, ?_, ?_, trivial⟩
          · exact step_pureO hs (wants_none rfl) rfl fun L u W hG hdep => ⟨_, run_move rfl, rfl⟩
          · exact step_pureO hs (wants_none rfl) rfl fun L u W hG hdep => ⟨_, run_move rfl, rfl⟩
          · refine step_pureO hs (wants_none rfl) rfl fun L u W hG hdep => ⟨_, ?_, rfl⟩
            have e0 := (show u 1 = .int .i64 (t : Int) from hG 1 (hdep 1 (by kernel_rfl)))
            go_simp
            try (rw [IntKind.wrap_i64]; omega)
          · refine step_pureO hs (wants_none rfl) rfl fun L u W hG hdep => ⟨_, ?_, rfl⟩
            have e0 := E5.out
            have e1 := (show u 2 = .int .i64 ((t - 16 : Nat) : Int) from hG 2 (hdep 2 (by kernel_rfl)))
            have hltx := HLT.out
            go_simp
            try rw [if_pos (by omega)]
            try rw [show ((t - 16 : Nat) : Int).toNat = t - 16 by omega]
            try omega
          · exact step_cell q5 (t - 16) hs (wants_none rfl) rfl rfl (fun _ h => load_u64 h) (fun L u W hG hdep => (show u 3 = .pointer (some ⟨q5, t - 16, none⟩) from hG 3 (hdep 3 (by kernel_rfl)))) (HasFs.cellW hmL5 (by omega) HX16.out) (fun k g hk => by rcases k with _ | _ | _ | _ | _ | _ | _ | _ | _ | _ | _ | _ | _ | _ | _ | _ | k <;> first | (cases hk; done) | (cases hk; exact .inl (by kernel_rfl)))
          · exact step_pureO hs (wants_none rfl) rfl fun L u W hG hdep => ⟨_, run_move rfl, HC10.out⟩
          · refine step_pureO hs (wants_none rfl) rfl fun L u W hG hdep => ⟨_, ?_, rfl⟩
            have e0 := (show u 4 = .int .u64 ((x16).toNat : Int) from hG 4 (hdep 4 (by kernel_rfl)))
            have e1 := (show u 5 = .int .u64 ((ux (ux (rotr x15 1) (rotr x15 8)) (ush x15 7)).toNat : Int) from hG 5 (hdep 5 (by kernel_rfl)))
            exact run_up rfl ((show u 4 = .int .u64 ((x16).toNat : Int) from hG 4 (hdep 4 (by kernel_rfl)))) ((show u 5 = .int .u64 ((ux (ux (rotr x15 1) (rotr x15 8)) (ush x15 7)).toNat : Int) from hG 5 (hdep 5 (by kernel_rfl))))
          · exact step_pureO hs (wants_none rfl) rfl fun L u W hG hdep => ⟨_, run_move rfl, rfl⟩
          · refine step_pureO hs (wants_none rfl) rfl fun L u W hG hdep => ⟨_, ?_, rfl⟩
            have e0 := (show u 7 = .int .i64 (t : Int) from hG 7 (hdep 7 (by kernel_rfl)))
            go_simp
            try (rw [IntKind.wrap_i64]; omega)
          · refine step_pureO hs (wants_none rfl) rfl fun L u W hG hdep => ⟨_, ?_, rfl⟩
            have e0 := E5.out
            have e1 := (show u 8 = .int .i64 ((t - 7 : Nat) : Int) from hG 8 (hdep 8 (by kernel_rfl)))
            have hltx := HLT.out
            go_simp
            try rw [if_pos (by omega)]
            try rw [show ((t - 7 : Nat) : Int).toNat = t - 7 by omega]
            try omega
          · exact step_cell q5 (t - 7) hs (wants_none rfl) rfl rfl (fun _ h => load_u64 h) (fun L u W hG hdep => (show u 9 = .pointer (some ⟨q5, t - 7, none⟩) from hG 9 (hdep 9 (by kernel_rfl)))) (HasFs.cellW hmL5 (by omega) HX7.out) (fun k g hk => by rcases k with _ | _ | _ | _ | _ | _ | _ | _ | _ | _ | _ | _ | _ | _ | _ | _ | k <;> first | (cases hk; done) | (cases hk; exact .inl (by kernel_rfl)))
          · refine step_pureO hs (wants_none rfl) rfl fun L u W hG hdep => ⟨_, ?_, rfl⟩
            have e0 := (show u 6 = .int .u64 ((up x16 (ux (ux (rotr x15 1) (rotr x15 8)) (ush x15 7))).toNat : Int) from hG 6 (hdep 6 (by kernel_rfl)))
            have e1 := (show u 10 = .int .u64 ((x7).toNat : Int) from hG 10 (hdep 10 (by kernel_rfl)))
            exact run_up rfl ((show u 6 = .int .u64 ((up x16 (ux (ux (rotr x15 1) (rotr x15 8)) (ush x15 7))).toNat : Int) from hG 6 (hdep 6 (by kernel_rfl)))) ((show u 10 = .int .u64 ((x7).toNat : Int) from hG 10 (hdep 10 (by kernel_rfl))))
          · exact step_pureO hs (wants_none rfl) rfl fun L u W hG hdep => ⟨_, run_move rfl, HC11.out⟩
          · refine step_pureO hs (wants_none rfl) rfl fun L u W hG hdep => ⟨_, ?_, rfl⟩
            have e0 := (show u 11 = .int .u64 ((up (up x16 (ux (ux (rotr x15 1) (rotr x15 8)) (ush x15 7))) x7).toNat : Int) from hG 11 (hdep 11 (by kernel_rfl)))
            have e1 := (show u 12 = .int .u64 ((ux (ux (rotr x2 19) (rotr x2 61)) (ush x2 6)).toNat : Int) from hG 12 (hdep 12 (by kernel_rfl)))
            exact run_up rfl ((show u 11 = .int .u64 ((up (up x16 (ux (ux (rotr x15 1) (rotr x15 8)) (ush x15 7))) x7).toNat : Int) from hG 11 (hdep 11 (by kernel_rfl)))) ((show u 12 = .int .u64 ((ux (ux (rotr x2 19) (rotr x2 61)) (ush x2 6)).toNat : Int) from hG 12 (hdep 12 (by kernel_rfl))))
          · refine step_pureO hs (wants_none rfl) rfl fun L u W hG hdep => ⟨_, ?_, rfl⟩
            have e0 := E5.out
            have e1 := (show u 0 = .int .i64 (t : Int) from hG 0 (hdep 0 (by kernel_rfl)))
            have hltx := HLT.out
            go_simp
            try rw [if_pos (by omega)]
            try rw [show ((t : Nat) : Int).toNat = t by omega]
            try omega
          · refine step_cst (old := .int .u64 ((at0 (wP (words l) t) t).toNat : Int)) q5 t hs (wants_none rfl) rfl rfl (by kernel_rfl) (fun k hk => ?_) (fun _ h1 h2 => store_u64 h1 h2) (fun L u W hG hdep => (show u 14 = .pointer (some ⟨q5, t, none⟩) from hG 14 (hdep 14 (by kernel_rfl)))) (fun L u W hG hdep => (show u 13 = .int .u64 ((up (up (up x16 (ux (ux (rotr x15 1) (rotr x15 8)) (ush x15 7))) x7) (ux (ux (rotr x2 19) (rotr x2 61)) (ush x2 6))).toNat : Int) from hG 13 (hdep 13 (by kernel_rfl)))) (HasFs.cellW hmL5 HLT.out rfl) (there_frozen htL5 HLT.out)
            rcases k with _ | _ | _ | _ | _ | _ | _ | _ | _ | _ | _ | _ | _ | _ | _ | _ | k
            all_goals first | (exact absurd rfl hk) | (intro e; cases e; done)
        intro L11 u11z W11z hall hJ hG
        have hb : Below w.heap.size W10z W11z := hJ.below (by have := hbel.size; omega) (fun k b hf => by rcases k with _ | _ | _ | _ | _ | _ | _ | _ | _ | _ | _ | _ | _ | _ | _ | _ | k <;> first | (cases hf; done) | (cases hf; omega))
        have hbel := hbel.trans hb
        have hmL2 := hmL2.blk (hJ.block _ (hmL2.lt) (fun k hk => by rcases k with _ | _ | _ | _ | _ | _ | _ | _ | _ | _ | _ | _ | _ | _ | _ | _ | k <;> first | (cases hk; done) | (cases hk; exact absurd rfl (Ne.symm HD5_q2.out))))
        have hmL5 : HasFs rW80 W11z q5 0 [wP (words l) (t + 1)] := by
          have z := (hmL5.setW htL5 HLT.out (up (up (up x16 (ux (ux (rotr x15 1) (rotr x15 8)) (ush x15 7))) x7) (ux (ux (rotr x2 19) (rotr x2 61)) (ush x2 6)))).blk (show _ ∧ W11z.heap[q5]? = (W10z.setCell ⟨q5, t, none⟩ (.int .u64 ((up (up (up x16 (ux (ux (rotr x15 1) (rotr x15 8)) (ush x15 7))) x7) (ux (ux (rotr x2 19) (rotr x2 61)) (ush x2 6))).toNat : Int))).heap[q5]? from hG 15 (by simp)).2
          rw [(show (wP (words l) t).set t (up (up (up x16 (ux (ux (rotr x15 1) (rotr x15 8)) (ush x15 7))) x7) (ux (ux (rotr x2 19) (rotr x2 61)) (ush x2 6))) = wP (words l) (t + 1) from wP_set HLT.out HXS.out)] at z
          exact z
        have hmL6 := hmL6.blk (hJ.block _ (hmL6.lt) (fun k hk => by rcases k with _ | _ | _ | _ | _ | _ | _ | _ | _ | _ | _ | _ | _ | _ | _ | _ | k <;> first | (cases hk; done) | (cases hk; exact absurd rfl HD6_q5.out)))
        have htL2 := there_blk htL2 (hJ.block _ (there_lt htL2 (by omega)) (fun k hk => by rcases k with _ | _ | _ | _ | _ | _ | _ | _ | _ | _ | _ | _ | _ | _ | _ | _ | k <;> first | (cases hk; done) | (cases hk; exact absurd rfl (Ne.symm HD5_q2.out))))
        have htL4 := there_blk htL4 (hJ.block _ (there_lt htL4 (by omega)) (fun k hk => by rcases k with _ | _ | _ | _ | _ | _ | _ | _ | _ | _ | _ | _ | _ | _ | _ | _ | k <;> first | (cases hk; done) | (cases hk; exact absurd rfl (Ne.symm HD5_q4.out))))
        have htL5 := there_blk (there_set (b := q5) (k := t) (v := .int .u64 ((up (up (up x16 (ux (ux (rotr x15 1) (rotr x15 8)) (ush x15 7))) x7) (ux (ux (rotr x2 19) (rotr x2 61)) (ush x2 6))).toNat : Int)) htL5) (show _ ∧ W11z.heap[q5]? = (W10z.setCell ⟨q5, t, none⟩ (.int .u64 ((up (up (up x16 (ux (ux (rotr x15 1) (rotr x15 8)) (ush x15 7))) x7) (ux (ux (rotr x2 19) (rotr x2 61)) (ush x2 6))).toNat : Int))).heap[q5]? from hG 15 (by simp)).2
        have htL6 := there_blk htL6 (hJ.block _ (there_lt htL6 (by omega)) (fun k hk => by rcases k with _ | _ | _ | _ | _ | _ | _ | _ | _ | _ | _ | _ | _ | _ | _ | _ | k <;> first | (cases hk; done) | (cases hk; exact absurd rfl HD6_q5.out)))
        have hbel0 := hbel
        clear hJ hG hall hb
        have hlt := HLT.out
        go_wp2_with fail
        go_roundw
        case rel => exact ⟨t + 1, by omega, by go_num, hmL2, htL2, htL4, hmL5, htL5, hmL6, htL6, hbel⟩
        case measure => simp [intOf]; omega
    · obtain rfl : t = 80 := by omega
      have hd1 : decide (((80 : Nat) : Int) < 80) = false := by decide
      rw [wP_full] at hmL5
      obtain ⟨Wd, hWd⟩ : ∃ W, W = wL (words l) 80 := ⟨_, rfl⟩
      rw [← hWd] at hmL5
      have HWD := Lib.hid hWd
      clear hWd ht
      go_upto_region 13 with fail
      clear hd1
      refine wp_region_turn (fun u => (v0 :: .slice (some ⟨bb, q, none⟩) n cap :: u0z 0 :: undef :: u0z 1 :: u1z 0 :: u2z 1 :: u7 :: u8 :: u9 :: u10 :: u11 :: u 1 :: undef :: undef :: undef :: undef :: undef :: undef :: undef :: undef :: u2z 0 :: .int .i64 ((80 : Nat) : Int) :: .bool false :: u24 :: u25 :: u26 :: u27 :: u28 :: u29 :: u30 :: u31 :: u32 :: u33 :: u34 :: u35 :: u36 :: u37 :: u38 :: u39 :: u40 :: u41 :: u42 :: u43 :: u44 :: u45 :: u46 :: u47 :: u48 :: u49 :: u50 :: u51 :: u52 :: u53 :: u54 :: u55 :: u56 :: u57 :: u58 :: u59 :: u60 :: u61 :: u62 :: u63 :: u64 :: u65 :: u66 :: u67 :: u68 :: u69 :: u70 :: u71 :: u72 :: u73 :: u 0 :: undef :: undef :: undef :: undef :: undef :: undef :: undef :: undef :: undef :: undef :: undef :: undef :: undef :: undef :: undef :: undef :: undef :: undef :: undef :: undef :: undef :: undef :: undef :: undef :: undef :: undef :: undef :: undef :: undef :: undef :: undef :: undef :: undef :: undef :: undef :: undef :: undef :: undef :: undef :: undef :: undef :: undef :: undef :: undef :: undef :: undef :: undef :: undef :: undef :: undef :: undef :: undef :: undef :: undef :: undef :: undef :: undef :: undef :: undef :: undef :: undef :: undef :: undef :: undef :: undef :: undef :: undef :: undef :: undef :: undef :: undef :: undef :: undef :: undef :: undef :: undef :: undef :: undef :: undef :: undef :: undef :: undef :: undef :: undef :: undef :: undef :: undef :: undef :: undef :: undef :: undef :: undef :: undef :: undef :: undef :: []).toArray) (Holds [.val rW8 [h], .new 8, .st 1 rW8 [h]] wr) (Keep [.val rW8 [h], .new 8, .st 1 rW8 [h]] wr) (fun _ => undef) ?_ (by rfl) Keep.start (holds_soft (by kernel_rfl)) ?_ ?_
      · intro u i v h
        rcases i with _ | _ | _ | i
        all_goals first | (simp [Act.put, putV]; done) | (exfalso; simp at h; omega)
      · intro hs
        refine ⟨?_, ?_, ?_, trivial⟩
        · exact step_load q2 0 hs (wants_none rfl) rfl rfl tya8 (fun _ => E2.out) hmL2.lt hmL2 (noSto_apart (by kernel_rfl))
        · exact step_alloc hs (wants_none rfl) rfl rfl (by omega) rfl alloca8
        · exact step_store 1 hs (by kernel_rfl) (wants_none rfl) rfl rfl rfl (by kernel_rfl) (by kernel_rfl) (by kernel_rfl) (by kernel_rfl) (fun _ => rfl) (gives_op 0 rfl (by kernel_rfl) (fun _ => rfl)) tya8 rfl
      intro L13 u13z W13z hall hJ hG
      obtain ⟨q12, e12, hq12, _, ht12⟩ := (show ∃ g, u13z 1 = .pointer (some ⟨g, 0, none⟩) ∧ wr.heap.size ≤ g ∧ 0 < 8 ∧ W13z.there g 0 8 from hG 1 (by simp))
      have hm12 : HasFs rW8 W13z q12 0 [h] := by
        obtain ⟨g, e, _, h⟩ := (show ∃ g, u13z 1 = .pointer (some ⟨g, 0, none⟩) ∧ wr.heap.size ≤ g ∧ HasFs rW8 W13z g 0 [h] from hG 2 (by simp))
        rw [e12] at e; cases e; exact h
      have HD12_q2 := Lib.hid (show q2 ≠ q12 by have := there_lt htL2 (by omega); omega)
      have HD12_q4 := Lib.hid (show q4 ≠ q12 by have := there_lt htL4 (by omega); omega)
      have HD12_q5 := Lib.hid (show q5 ≠ q12 by have := there_lt htL5 (by omega); omega)
      have HD12_q6 := Lib.hid (show q6 ≠ q12 by have := there_lt htL6 (by omega); omega)
      have hq12 : w.heap.size ≤ q12 := by have := hbel0.size; omega
      have E12 := Lib.hid e12; clear e12
      have hb := hJ.all rfl
      have hbel := Below.call hbel hb
      have hmL2 := hmL2.later hb
      have hmL5 := hmL5.later hb
      have hmL6 := hmL6.later hb
      have htL2 := there_later htL2 hb
      have htL4 := there_later htL4 hb
      have htL5 := there_later htL5 hb
      have htL6 := there_later htL6 hb
      have hbel0 := hbel
      clear hJ hG hall hb
      go_wp2_with fail
      go_loopw [75] (fun sk wr => ∃ t : Nat, t ≤ 80 ∧ sk = .int .i64 (t : Int) ∧ HasFs rW8 wr q2 0 [h] ∧ wr.there q2 0 8 ∧ wr.there q4 0 8 ∧ HasFs rW80 wr q5 0 [Wd] ∧ wr.there q5 0 80 ∧ HasFs rW80 wr q6 0 [kTab] ∧ wr.there q6 0 80 ∧ HasFs rW8 wr q12 0 [rL h Wd t] ∧ wr.there q12 0 8 ∧ Below w.heap.size w wr) (fun x _ => 80 - (intOf x).toNat)
      case atStart => exact ⟨0, by omega, rfl, hmL2, htL2, htL4, hmL5, htL5, hmL6, htL6, hm12, ht12, hbel⟩
      case round =>
        obtain ⟨t, ht, rfl, hmM2, htM2, htM4, hmM5, htM5, hmM6, htM6, hmM12, htM12, hbel'⟩ := hrel
        clear hm12 hmL2 hmL5 hmL6 ht12 htL2 htL4 htL5 htL6 hbel hbel0
        have hbel := hbel'
        have hbel0 := hbel'
        by_cases hlt : t < 80
        · have hd1 : decide ((t : Int) < 80) = true := decide_eq_true (by omega)
          have HLT := Lib.hid hlt
          obtain ⟨V, hV⟩ : ∃ V, V = rL h Wd t := ⟨_, rfl⟩
          rw [← hV] at hmM12
          have HV := Lib.hid hV
          clear hV hlt
          go_upto_region 17 with fail
          clear hd1
          refine wp_region_mid (fun u => (v0 :: .slice (some ⟨bb, q, none⟩) n cap :: u0z 0 :: undef :: u0z 1 :: u1z 0 :: u2z 1 :: u7 :: u8 :: u9 :: u10 :: u11 :: u13z 1 :: .int .i64 (t : Int) :: u 4 :: u 5 :: u16 :: u17 :: u18 :: u19 :: undef :: u2z 0 :: .int .i64 ((80 : Nat) : Int) :: .bool false :: u24 :: u25 :: u26 :: u27 :: u28 :: u29 :: u30 :: u31 :: u32 :: u33 :: u34 :: u35 :: u36 :: u37 :: u38 :: u39 :: u40 :: u41 :: u42 :: u43 :: u44 :: u45 :: u46 :: u47 :: u48 :: u49 :: u50 :: u51 :: u52 :: u53 :: u54 :: u55 :: u56 :: u57 :: u58 :: u59 :: u60 :: u61 :: u62 :: u63 :: u64 :: u65 :: u66 :: u67 :: u68 :: u69 :: u70 :: u71 :: u72 :: u73 :: u13z 0 :: .int .i64 (t : Int) :: .bool true :: .int .i64 (t : Int) :: u 0 :: u 1 :: u 2 :: u 3 :: u82 :: u83 :: u84 :: u85 :: u86 :: u87 :: u88 :: u89 :: u90 :: u91 :: u92 :: u93 :: u94 :: u95 :: u96 :: u97 :: u98 :: u99 :: u100 :: u101 :: u102 :: u103 :: u104 :: u105 :: u106 :: u107 :: u108 :: u109 :: u110 :: u111 :: u112 :: u113 :: u114 :: u115 :: u116 :: u117 :: u118 :: u119 :: u120 :: u121 :: u122 :: u123 :: u124 :: u125 :: u126 :: u127 :: u128 :: u129 :: u130 :: u131 :: u132 :: u133 :: u134 :: u135 :: u136 :: u137 :: u138 :: u139 :: u140 :: u141 :: u142 :: u143 :: u144 :: u145 :: u146 :: u147 :: u148 :: u149 :: u150 :: u151 :: u152 :: u153 :: u154 :: u155 :: u156 :: undef :: undef :: undef :: undef :: undef :: undef :: undef :: undef :: undef :: undef :: undef :: undef :: undef :: []).toArray) (Holds [.oth (fun v => v = .pointer (some ⟨q12, 0, none⟩)), .oth (fun v => v = .int .u64 ((at0 V 0).toNat : Int)), .oth (fun v => v = .pointer (some ⟨q12, 4, none⟩)), .oth (fun v => v = .int .u64 ((at0 V 4).toNat : Int)), .oth (fun v => v = .int .u64 ((at0 V 0).toNat : Int)), .oth (fun v => v = .int .u64 ((at0 V 4).toNat : Int))] wr) (Keep [.oth (fun v => v = .pointer (some ⟨q12, 0, none⟩)), .oth (fun v => v = .int .u64 ((at0 V 0).toNat : Int)), .oth (fun v => v = .pointer (some ⟨q12, 4, none⟩)), .oth (fun v => v = .int .u64 ((at0 V 4).toNat : Int)), .oth (fun v => v = .int .u64 ((at0 V 0).toNat : Int)), .oth (fun v => v = .int .u64 ((at0 V 4).toNat : Int))] wr) (fun k => ((u78 :: u79 :: u80 :: u81 :: u14 :: u15 :: []) : List Value).getD k undef) (by kernel_rfl) (by kernel_rfl) ?_ (by rfl) Keep.drew (holds_soft (by kernel_rfl)) ?_ ?_
          · intro u i v h
            rcases i with _ | _ | _ | _ | _ | _ | i
            all_goals first | (simp [Act.put, putV]; done) | (exfalso; simp at h; omega)
          · intro hs
            refine ⟨?_, ?_, ?_, ?_, ?_, ?_, trivial⟩
            · refine step_pureO hs (wants_none rfl) rfl fun L u W hG hdep => ⟨_, ?_, rfl⟩
              have e0 := E12.out
              go_simp
              try rw [if_pos (by omega)]
              try rw [show ((0 : Nat) : Int).toNat = 0 by omega]
              try omega
            · exact step_cell q12 0 hs (wants_none rfl) rfl rfl (fun _ h => load_u64 h) (fun L u W hG hdep => (show u 0 = .pointer (some ⟨q12, 0, none⟩) from hG 0 (hdep 0 (by kernel_rfl)))) (HasFs.cellW hmM12 (by omega) rfl) (noSto_apart (by kernel_rfl))
            · refine step_pureO hs (wants_none rfl) rfl fun L u W hG hdep => ⟨_, ?_, rfl⟩
              have e0 := E12.out
              go_simp
              try rw [if_pos (by omega)]
              try rw [show ((4 : Nat) : Int).toNat = 4 by omega]
              try omega
            · exact step_cell q12 4 hs (wants_none rfl) rfl rfl (fun _ h => load_u64 h) (fun L u W hG hdep => (show u 2 = .pointer (some ⟨q12, 4, none⟩) from hG 2 (hdep 2 (by kernel_rfl)))) (HasFs.cellW hmM12 (by omega) rfl) (noSto_apart (by kernel_rfl))
            · exact step_pureO hs (wants_none rfl) rfl fun L u W hG hdep => ⟨_, run_assign rfl, (show u 1 = .int .u64 ((at0 V 0).toNat : Int) from hG 1 (hdep 1 (by kernel_rfl)))⟩
            · exact step_pureO hs (wants_none rfl) rfl fun L u W hG hdep => ⟨_, run_assign rfl, (show u 3 = .int .u64 ((at0 V 4).toNat : Int) from hG 3 (hdep 3 (by kernel_rfl)))⟩
          intro L17 u17z W17z hall hJ hG
          have hb := hJ.all rfl
          have hbel := Below.call hbel hb
          have hmM2 := hmM2.later hb
          have hmM5 := hmM5.later hb
          have hmM6 := hmM6.later hb
          have hmM12 := hmM12.later hb
          have htM2 := there_later htM2 hb
          have htM4 := there_later htM4 hb
          have htM5 := there_later htM5 hb
          have htM6 := there_later htM6 hb
          have htM12 := there_later htM12 hb
          have HC14 := Lib.hid (show u17z 4 = .int .u64 ((at0 V 0).toNat : Int) from hG 4 (by simp))
          have HC15 := Lib.hid (show u17z 5 = .int .u64 ((at0 V 4).toNat : Int) from hG 5 (by simp))
          have hbel0 := hbel
          clear hJ hG hall hb
          go_upto_region 18 with fail
          refine wp_region_turn (fun u => (v0 :: .slice (some ⟨bb, q, none⟩) n cap :: u0z 0 :: undef :: u0z 1 :: u1z 0 :: u2z 1 :: u7 :: u8 :: u9 :: u10 :: u11 :: u13z 1 :: .int .i64 (t : Int) :: u17z 4 :: u17z 5 :: u 8 :: u17 :: u18 :: u19 :: undef :: u2z 0 :: .int .i64 ((80 : Nat) : Int) :: .bool false :: u24 :: u25 :: u26 :: u27 :: u28 :: u29 :: u30 :: u31 :: u32 :: u33 :: u34 :: u35 :: u36 :: u37 :: u38 :: u39 :: u40 :: u41 :: u42 :: u43 :: u44 :: u45 :: u46 :: u47 :: u48 :: u49 :: u50 :: u51 :: u52 :: u53 :: u54 :: u55 :: u56 :: u57 :: u58 :: u59 :: u60 :: u61 :: u62 :: u63 :: u64 :: u65 :: u66 :: u67 :: u68 :: u69 :: u70 :: u71 :: u72 :: u73 :: u13z 0 :: .int .i64 (t : Int) :: .bool true :: .int .i64 (t : Int) :: u17z 0 :: u17z 1 :: u17z 2 :: u17z 3 :: u 0 :: u 1 :: u 2 :: u 3 :: u 4 :: u 5 :: u 6 :: u 7 :: u90 :: u91 :: u92 :: u93 :: u94 :: u95 :: u96 :: u97 :: u98 :: u99 :: u100 :: u101 :: u102 :: u103 :: u104 :: u105 :: u106 :: u107 :: u108 :: u109 :: u110 :: u111 :: u112 :: u113 :: u114 :: u115 :: u116 :: u117 :: u118 :: u119 :: u120 :: u121 :: u122 :: u123 :: u124 :: u125 :: u126 :: u127 :: u128 :: u129 :: u130 :: u131 :: u132 :: u133 :: u134 :: u135 :: u136 :: u137 :: u138 :: u139 :: u140 :: u141 :: u142 :: u143 :: u144 :: u145 :: u146 :: u147 :: u148 :: u149 :: u150 :: u151 :: u152 :: u153 :: u154 :: u155 :: u156 :: undef :: undef :: undef :: undef :: undef :: undef :: undef :: undef :: undef :: undef :: undef :: undef :: undef :: []).toArray) (Holds [.oth (fun v => v = .int .u64 ((at0 V 4).toNat : Int)), .oth (fun v => v = .int .u64 ((rotr (at0 V 4) 14).toNat : Int)), .oth (fun v => v = .int .u64 ((at0 V 4).toNat : Int)), .oth (fun v => v = .int .u64 ((rotr (at0 V 4) 18).toNat : Int)), .oth (fun v => v = .int .u64 ((ux (rotr (at0 V 4) 14) (rotr (at0 V 4) 18)).toNat : Int)), .oth (fun v => v = .int .u64 ((at0 V 4).toNat : Int)), .oth (fun v => v = .int .u64 ((rotr (at0 V 4) 41).toNat : Int)), .oth (fun v => v = .int .u64 ((ux (ux (rotr (at0 V 4) 14) (rotr (at0 V 4) 18)) (rotr (at0 V 4) 41)).toNat : Int)), .oth (fun v => v = .int .u64 ((ux (ux (rotr (at0 V 4) 14) (rotr (at0 V 4) 18)) (rotr (at0 V 4) 41)).toNat : Int))] W17z) (Keep [.oth (fun v => v = .int .u64 ((at0 V 4).toNat : Int)), .oth (fun v => v = .int .u64 ((rotr (at0 V 4) 14).toNat : Int)), .oth (fun v => v = .int .u64 ((at0 V 4).toNat : Int)), .oth (fun v => v = .int .u64 ((rotr (at0 V 4) 18).toNat : Int)), .oth (fun v => v = .int .u64 ((ux (rotr (at0 V 4) 14) (rotr (at0 V 4) 18)).toNat : Int)), .oth (fun v => v = .int .u64 ((at0 V 4).toNat : Int)), .oth (fun v => v = .int .u64 ((rotr (at0 V 4) 41).toNat : Int)), .oth (fun v => v = .int .u64 ((ux (ux (rotr (at0 V 4) 14) (rotr (at0 V 4) 18)) (rotr (at0 V 4) 41)).toNat : Int)), .oth (fun v => v = .int .u64 ((ux (ux (rotr (at0 V 4) 14) (rotr (at0 V 4) 18)) (rotr (at0 V 4) 41)).toNat : Int))] W17z) (fun k => ((u82 :: u83 :: u84 :: u85 :: u86 :: u87 :: u88 :: u89 :: u16 :: []) : List Value).getD k undef) ?_ (by rfl) Keep.start (holds_soft (by kernel_rfl)) ?_ ?_
          · intro u i v h
            rcases i with _ | _ | _ | _ | _ | _ | _ | _ | _ | i
            all_goals first | (simp [Act.put, putV]; done) | (exfalso; simp at h; omega)
          · intro hs
            refine ⟨?_, ?_, ?_, ?_, ?_, ?_, ?_, ?_, ?_, trivial⟩
            · exact step_pureO hs (wants_none rfl) rfl fun L u W hG hdep => ⟨_, run_move rfl, HC15.out⟩
            · refine step_callO hs (wants_none rfl) rfl fun L u W hJ hG hL hdep K hK => ?_
              have x0 := (show u 0 = .int .u64 ((at0 V 4).toNat : Int) from hG 0 (hdep 0 (by kernel_rfl)))
              go_simp
              go_at_call 84
              (with_reducible refine (rotB_14 (x := at0 V 4) _).mono ?_); rintro e w1 ⟨rfl, hb⟩
              have hk := hK.out _ _ rfl hb
              simp only [x0] at hk
              exact hk
            · exact step_pureO hs (wants_none rfl) rfl fun L u W hG hdep => ⟨_, run_move rfl, HC15.out⟩
            · refine step_callO hs (wants_none rfl) rfl fun L u W hJ hG hL hdep K hK => ?_
              have x0 := (show u 2 = .int .u64 ((at0 V 4).toNat : Int) from hG 2 (hdep 2 (by kernel_rfl)))
              go_simp
              go_at_call 84
              (with_reducible refine (rotB_18 (x := at0 V 4) _).mono ?_); rintro e w1 ⟨rfl, hb⟩
              have hk := hK.out _ _ rfl hb
              simp only [x0] at hk
              exact hk
            · refine step_pureO hs (wants_none rfl) rfl fun L u W hG hdep => ⟨_, ?_, rfl⟩
              have e0 := (show u 1 = .int .u64 ((rotr (at0 V 4) 14).toNat : Int) from hG 1 (hdep 1 (by kernel_rfl)))
              have e1 := (show u 3 = .int .u64 ((rotr (at0 V 4) 18).toNat : Int) from hG 3 (hdep 3 (by kernel_rfl)))
              exact run_ux rfl ((show u 1 = .int .u64 ((rotr (at0 V 4) 14).toNat : Int) from hG 1 (hdep 1 (by kernel_rfl)))) ((show u 3 = .int .u64 ((rotr (at0 V 4) 18).toNat : Int) from hG 3 (hdep 3 (by kernel_rfl))))
            · exact step_pureO hs (wants_none rfl) rfl fun L u W hG hdep => ⟨_, run_move rfl, HC15.out⟩
            · refine step_callO hs (wants_none rfl) rfl fun L u W hJ hG hL hdep K hK => ?_
              have x0 := (show u 5 = .int .u64 ((at0 V 4).toNat : Int) from hG 5 (hdep 5 (by kernel_rfl)))
              go_simp
              go_at_call 84
              (with_reducible refine (rotB_41 (x := at0 V 4) _).mono ?_); rintro e w1 ⟨rfl, hb⟩
              have hk := hK.out _ _ rfl hb
              simp only [x0] at hk
              exact hk
            · refine step_pureO hs (wants_none rfl) rfl fun L u W hG hdep => ⟨_, ?_, rfl⟩
              have e0 := (show u 4 = .int .u64 ((ux (rotr (at0 V 4) 14) (rotr (at0 V 4) 18)).toNat : Int) from hG 4 (hdep 4 (by kernel_rfl)))
              have e1 := (show u 6 = .int .u64 ((rotr (at0 V 4) 41).toNat : Int) from hG 6 (hdep 6 (by kernel_rfl)))
              exact run_ux rfl ((show u 4 = .int .u64 ((ux (rotr (at0 V 4) 14) (rotr (at0 V 4) 18)).toNat : Int) from hG 4 (hdep 4 (by kernel_rfl)))) ((show u 6 = .int .u64 ((rotr (at0 V 4) 41).toNat : Int) from hG 6 (hdep 6 (by kernel_rfl))))
            · exact step_pureO hs (wants_none rfl) rfl fun L u W hG hdep => ⟨_, run_assign rfl, (show u 7 = .int .u64 ((ux (ux (rotr (at0 V 4) 14) (rotr (at0 V 4) 18)) (rotr (at0 V 4) 41)).toNat : Int) from hG 7 (hdep 7 (by kernel_rfl)))⟩
          intro L18 u18z W18z hall hJ hG
          have hb := hJ.all rfl
          have hbel := Below.call hbel hb
          have hmM2 := hmM2.later hb
          have hmM5 := hmM5.later hb
          have hmM6 := hmM6.later hb
          have hmM12 := hmM12.later hb
          have htM2 := there_later htM2 hb
          have htM4 := there_later htM4 hb
          have htM5 := there_later htM5 hb
          have htM6 := there_later htM6 hb
          have htM12 := there_later htM12 hb
          have HC16 := Lib.hid (show u18z 8 = .int .u64 ((ux (ux (rotr (at0 V 4) 14) (rotr (at0 V 4) 18)) (rotr (at0 V 4) 41)).toNat : Int) from hG 8 (by simp))
          have hbel0 := hbel
          clear hJ hG hall hb
          go_upto_region 19 with fail
          refine wp_region_mid (fun u => (v0 :: .slice (some ⟨bb, q, none⟩) n cap :: u0z 0 :: undef :: u0z 1 :: u1z 0 :: u2z 1 :: u7 :: u8 :: u9 :: u10 :: u11 :: u13z 1 :: .int .i64 (t : Int) :: u17z 4 :: u17z 5 :: u18z 8 :: u 23 :: u18 :: u19 :: undef :: u2z 0 :: .int .i64 ((80 : Nat) : Int) :: .bool false :: u24 :: u25 :: u26 :: u27 :: u28 :: u29 :: u30 :: u31 :: u32 :: u33 :: u34 :: u35 :: u36 :: u37 :: u38 :: u39 :: u40 :: u41 :: u42 :: u43 :: u44 :: u45 :: u46 :: u47 :: u48 :: u49 :: u50 :: u51 :: u52 :: u53 :: u54 :: u55 :: u56 :: u57 :: u58 :: u59 :: u60 :: u61 :: u62 :: u63 :: u64 :: u65 :: u66 :: u67 :: u68 :: u69 :: u70 :: u71 :: u72 :: u73 :: u13z 0 :: .int .i64 (t : Int) :: .bool true :: .int .i64 (t : Int) :: u17z 0 :: u17z 1 :: u17z 2 :: u17z 3 :: u18z 0 :: u18z 1 :: u18z 2 :: u18z 3 :: u18z 4 :: u18z 5 :: u18z 6 :: u18z 7 :: u 0 :: u 1 :: u 2 :: u 3 :: u 4 :: u 5 :: u 6 :: u 7 :: u 8 :: u 9 :: u 10 :: u 11 :: u 12 :: u 13 :: u 14 :: u 15 :: u 16 :: u 17 :: u 18 :: u 19 :: u 20 :: u 21 :: u 22 :: u113 :: u114 :: u115 :: u116 :: u117 :: u118 :: u119 :: u120 :: u121 :: u122 :: u123 :: u124 :: u125 :: u126 :: u127 :: u128 :: u129 :: u130 :: u131 :: u132 :: u133 :: u134 :: u135 :: u136 :: u137 :: u138 :: u139 :: u140 :: u141 :: u142 :: u143 :: u144 :: u145 :: u146 :: u147 :: u148 :: u149 :: u150 :: u151 :: u152 :: u153 :: u154 :: u155 :: u156 :: undef :: undef :: undef :: undef :: undef :: undef :: undef :: undef :: undef :: undef :: undef :: undef :: undef :: []).toArray) (Holds [.oth (fun v => v = .pointer (some ⟨q12, 7, none⟩)), .oth (fun v => v = .int .u64 ((at0 V 7).toNat : Int)), .oth (fun v => v = .int .u64 ((ux (ux (rotr (at0 V 4) 14) (rotr (at0 V 4) 18)) (rotr (at0 V 4) 41)).toNat : Int)), .oth (fun v => v = .int .u64 ((up (at0 V 7) (ux (ux (rotr (at0 V 4) 14) (rotr (at0 V 4) 18)) (rotr (at0 V 4) 41))).toNat : Int)), .oth (fun v => v = .int .u64 ((at0 V 4).toNat : Int)), .oth (fun v => v = .pointer (some ⟨q12, 5, none⟩)), .oth (fun v => v = .int .u64 ((at0 V 5).toNat : Int)), .oth (fun v => v = .int .u64 ((ua (at0 V 4) (at0 V 5)).toNat : Int)), .oth (fun v => v = .int .u64 ((at0 V 4).toNat : Int)), .oth (fun v => v = .int .u64 ((un (at0 V 4)).toNat : Int)), .oth (fun v => v = .pointer (some ⟨q12, 6, none⟩)), .oth (fun v => v = .int .u64 ((at0 V 6).toNat : Int)), .oth (fun v => v = .int .u64 ((ua (un (at0 V 4)) (at0 V 6)).toNat : Int)), .oth (fun v => v = .int .u64 ((ux (ua (at0 V 4) (at0 V 5)) (ua (un (at0 V 4)) (at0 V 6))).toNat : Int)), .oth (fun v => v = .int .u64 ((up (up (at0 V 7) (ux (ux (rotr (at0 V 4) 14) (rotr (at0 V 4) 18)) (rotr (at0 V 4) 41))) (ux (ua (at0 V 4) (at0 V 5)) (ua (un (at0 V 4)) (at0 V 6)))).toNat : Int)), .oth (fun v => v = .int .i64 (t : Int)), .oth (fun v => v = .pointer (some ⟨q6, t, none⟩)), .oth (fun v => v = .int .u64 ((at0 kTab t).toNat : Int)), .oth (fun v => v = .int .u64 ((up (up (up (at0 V 7) (ux (ux (rotr (at0 V 4) 14) (rotr (at0 V 4) 18)) (rotr (at0 V 4) 41))) (ux (ua (at0 V 4) (at0 V 5)) (ua (un (at0 V 4)) (at0 V 6)))) (at0 kTab t)).toNat : Int)), .oth (fun v => v = .int .i64 (t : Int)), .oth (fun v => v = .pointer (some ⟨q5, t, none⟩)), .oth (fun v => v = .int .u64 ((at0 Wd t).toNat : Int)), .oth (fun v => v = .int .u64 ((up (up (up (up (at0 V 7) (ux (ux (rotr (at0 V 4) 14) (rotr (at0 V 4) 18)) (rotr (at0 V 4) 41))) (ux (ua (at0 V 4) (at0 V 5)) (ua (un (at0 V 4)) (at0 V 6)))) (at0 kTab t)) (at0 Wd t)).toNat : Int)), .oth (fun v => v = .int .u64 ((up (up (up (up (at0 V 7) (ux (ux (rotr (at0 V 4) 14) (rotr (at0 V 4) 18)) (rotr (at0 V 4) 41))) (ux (ua (at0 V 4) (at0 V 5)) (ua (un (at0 V 4)) (at0 V 6)))) (at0 kTab t)) (at0 Wd t)).toNat : Int))] W18z) (Keep [.oth (fun v => v = .pointer (some ⟨q12, 7, none⟩)), .oth (fun v => v = .int .u64 ((at0 V 7).toNat : Int)), .oth (fun v => v = .int .u64 ((ux (ux (rotr (at0 V 4) 14) (rotr (at0 V 4) 18)) (rotr (at0 V 4) 41)).toNat : Int)), .oth (fun v => v = .int .u64 ((up (at0 V 7) (ux (ux (rotr (at0 V 4) 14) (rotr (at0 V 4) 18)) (rotr (at0 V 4) 41))).toNat : Int)), .oth (fun v => v = .int .u64 ((at0 V 4).toNat : Int)), .oth (fun v => v = .pointer (some ⟨q12, 5, none⟩)), .oth (fun v => v = .int .u64 ((at0 V 5).toNat : Int)), .oth (fun v => v = .int .u64 ((ua (at0 V 4) (at0 V 5)).toNat : Int)), .oth (fun v => v = .int .u64 ((at0 V 4).toNat : Int)), .oth (fun v => v = .int .u64 ((un (at0 V 4)).toNat : Int)), .oth (fun v => v = .pointer (some ⟨q12, 6, none⟩)), .oth (fun v => v = .int .u64 ((at0 V 6).toNat : Int)), .oth (fun v => v = .int .u64 ((ua (un (at0 V 4)) (at0 V 6)).toNat : Int)), .oth (fun v => v = .int .u64 ((ux (ua (at0 V 4) (at0 V 5)) (ua (un (at0 V 4)) (at0 V 6))).toNat : Int)), .oth (fun v => v = .int .u64 ((up (up (at0 V 7) (ux (ux (rotr (at0 V 4) 14) (rotr (at0 V 4) 18)) (rotr (at0 V 4) 41))) (ux (ua (at0 V 4) (at0 V 5)) (ua (un (at0 V 4)) (at0 V 6)))).toNat : Int)), .oth (fun v => v = .int .i64 (t : Int)), .oth (fun v => v = .pointer (some ⟨q6, t, none⟩)), .oth (fun v => v = .int .u64 ((at0 kTab t).toNat : Int)), .oth (fun v => v = .int .u64 ((up (up (up (at0 V 7) (ux (ux (rotr (at0 V 4) 14) (rotr (at0 V 4) 18)) (rotr (at0 V 4) 41))) (ux (ua (at0 V 4) (at0 V 5)) (ua (un (at0 V 4)) (at0 V 6)))) (at0 kTab t)).toNat : Int)), .oth (fun v => v = .int .i64 (t : Int)), .oth (fun v => v = .pointer (some ⟨q5, t, none⟩)), .oth (fun v => v = .int .u64 ((at0 Wd t).toNat : Int)), .oth (fun v => v = .int .u64 ((up (up (up (up (at0 V 7) (ux (ux (rotr (at0 V 4) 14) (rotr (at0 V 4) 18)) (rotr (at0 V 4) 41))) (ux (ua (at0 V 4) (at0 V 5)) (ua (un (at0 V 4)) (at0 V 6)))) (at0 kTab t)) (at0 Wd t)).toNat : Int)), .oth (fun v => v = .int .u64 ((up (up (up (up (at0 V 7) (ux (ux (rotr (at0 V 4) 14) (rotr (at0 V 4) 18)) (rotr (at0 V 4) 41))) (ux (ua (at0 V 4) (at0 V 5)) (ua (un (at0 V 4)) (at0 V 6)))) (at0 kTab t)) (at0 Wd t)).toNat : Int))] W18z) (fun k => ((u90 :: u91 :: u92 :: u93 :: u94 :: u95 :: u96 :: u97 :: u98 :: u99 :: u100 :: u101 :: u102 :: u103 :: u104 :: u105 :: u106 :: u107 :: u108 :: u109 :: u110 :: u111 :: u112 :: u17 :: []) : List Value).getD k undef) (by kernel_rfl) (by kernel_rfl) ?_ (by rfl) Keep.drew (holds_soft (by kernel_rfl)) ?_ ?_
          · intro u i v h
            rcases i with _ | _ | _ | _ | _ | _ | _ | _ | _ | _ | _ | _ | _ | _ | _ | _ | _ | _ | _ | _ | _ | _ | _ | _ | i
            all_goals first | (simp [Act.put, putV]; done) | (exfalso; simp at h; omega)
          · intro hs
            refine ⟨?_, ?_, ?_, ?_, ?_, ?_, ?_, ?_, ?_, ?_, ?_, ?_, ?_, ?_, ?_, ?_, ?_, ?_, ?_, ?_, ?_, ?_, ?_, ?_, trivial⟩
            · refine step_pureO hs (wants_none rfl) rfl fun L u W hG hdep => ⟨_, ?_, rfl⟩
              have e0 := E12.out
              go_simp
              try rw [if_pos (by omega)]
              try rw [show ((7 : Nat) : Int).toNat = 7 by omega]
              try omega
            · exact step_cell q12 7 hs (wants_none rfl) rfl rfl (fun _ h => load_u64 h) (fun L u W hG hdep => (show u 0 = .pointer (some ⟨q12, 7, none⟩) from hG 0 (hdep 0 (by kernel_rfl)))) (HasFs.cellW hmM12 (by omega) rfl) (noSto_apart (by kernel_rfl))
            · exact step_pureO hs (wants_none rfl) rfl fun L u W hG hdep => ⟨_, run_move rfl, HC16.out⟩
            · refine step_pureO hs (wants_none rfl) rfl fun L u W hG hdep => ⟨_, ?_, rfl⟩
              have e0 := (show u 1 = .int .u64 ((at0 V 7).toNat : Int) from hG 1 (hdep 1 (by kernel_rfl)))
              have e1 := (show u 2 = .int .u64 ((ux (ux (rotr (at0 V 4) 14) (rotr (at0 V 4) 18)) (rotr (at0 V 4) 41)).toNat : Int) from hG 2 (hdep 2 (by kernel_rfl)))
              exact run_up rfl ((show u 1 = .int .u64 ((at0 V 7).toNat : Int) from hG 1 (hdep 1 (by kernel_rfl)))) ((show u 2 = .int .u64 ((ux (ux (rotr (at0 V 4) 14) (rotr (at0 V 4) 18)) (rotr (at0 V 4) 41)).toNat : Int) from hG 2 (hdep 2 (by kernel_rfl))))
            · exact step_pureO hs (wants_none rfl) rfl fun L u W hG hdep => ⟨_, run_move rfl, HC15.out⟩
            · refine step_pureO hs (wants_none rfl) rfl fun L u W hG hdep => ⟨_, ?_, rfl⟩
              have e0 := E12.out
              go_simp
              try rw [if_pos (by omega)]
              try rw [show ((5 : Nat) : Int).toNat = 5 by omega]
              try omega
            · exact step_cell q12 5 hs (wants_none rfl) rfl rfl (fun _ h => load_u64 h) (fun L u W hG hdep => (show u 5 = .pointer (some ⟨q12, 5, none⟩) from hG 5 (hdep 5 (by kernel_rfl)))) (HasFs.cellW hmM12 (by omega) rfl) (noSto_apart (by kernel_rfl))
            · refine step_pureO hs (wants_none rfl) rfl fun L u W hG hdep => ⟨_, ?_, rfl⟩
              have e0 := (show u 4 = .int .u64 ((at0 V 4).toNat : Int) from hG 4 (hdep 4 (by kernel_rfl)))
              have e1 := (show u 6 = .int .u64 ((at0 V 5).toNat : Int) from hG 6 (hdep 6 (by kernel_rfl)))
              exact run_ua rfl ((show u 4 = .int .u64 ((at0 V 4).toNat : Int) from hG 4 (hdep 4 (by kernel_rfl)))) ((show u 6 = .int .u64 ((at0 V 5).toNat : Int) from hG 6 (hdep 6 (by kernel_rfl))))
            · exact step_pureO hs (wants_none rfl) rfl fun L u W hG hdep => ⟨_, run_move rfl, HC15.out⟩
            · refine step_pureO hs (wants_none rfl) rfl fun L u W hG hdep => ⟨_, ?_, rfl⟩
              exact run_un rfl ((show u 8 = .int .u64 ((at0 V 4).toNat : Int) from hG 8 (hdep 8 (by kernel_rfl))))
            · refine step_pureO hs (wants_none rfl) rfl fun L u W hG hdep => ⟨_, ?_, rfl⟩
              have e0 := E12.out
              go_simp
              try rw [if_pos (by omega)]
              try rw [show ((6 : Nat) : Int).toNat = 6 by omega]
              try omega
            · exact step_cell q12 6 hs (wants_none rfl) rfl rfl (fun _ h => load_u64 h) (fun L u W hG hdep => (show u 10 = .pointer (some ⟨q12, 6, none⟩) from hG 10 (hdep 10 (by kernel_rfl)))) (HasFs.cellW hmM12 (by omega) rfl) (noSto_apart (by kernel_rfl))
            · refine step_pureO hs (wants_none rfl) rfl fun L u W hG hdep => ⟨_, ?_, rfl⟩
              have e0 := (show u 9 = .int .u64 ((un (at0 V 4)).toNat : Int) from hG 9 (hdep 9 (by kernel_rfl)))
              have e1 := (show u 11 = .int .u64 ((at0 V 6).toNat : Int) from hG 11 (hdep 11 (by kernel_rfl)))
              exact run_ua rfl ((show u 9 = .int .u64 ((un (at0 V 4)).toNat : Int) from hG 9 (hdep 9 (by kernel_rfl)))) ((show u 11 = .int .u64 ((at0 V 6).toNat : Int) from hG 11 (hdep 11 (by kernel_rfl))))
            · refine step_pureO hs (wants_none rfl) rfl fun L u W hG hdep => ⟨_, ?_, rfl⟩
              have e0 := (show u 7 = .int .u64 ((ua (at0 V 4) (at0 V 5)).toNat : Int) from hG 7 (hdep 7 (by kernel_rfl)))
              have e1 := (show u 12 = .int .u64 ((ua (un (at0 V 4)) (at0 V 6)).toNat : Int) from hG 12 (hdep 12 (by kernel_rfl)))
              exact run_ux rfl ((show u 7 = .int .u64 ((ua (at0 V 4) (at0 V 5)).toNat : Int) from hG 7 (hdep 7 (by kernel_rfl)))) ((show u 12 = .int .u64 ((ua (un (at0 V 4)) (at0 V 6)).toNat : Int) from hG 12 (hdep 12 (by kernel_rfl))))
            · refine step_pureO hs (wants_none rfl) rfl fun L u W hG hdep => ⟨_, ?_, rfl⟩
              have e0 := (show u 3 = .int .u64 ((up (at0 V 7) (ux (ux (rotr (at0 V 4) 14) (rotr (at0 V 4) 18)) (rotr (at0 V 4) 41))).toNat : Int) from hG 3 (hdep 3 (by kernel_rfl)))
              have e1 := (show u 13 = .int .u64 ((ux (ua (at0 V 4) (at0 V 5)) (ua (un (at0 V 4)) (at0 V 6))).toNat : Int) from hG 13 (hdep 13 (by kernel_rfl)))
              exact run_up rfl ((show u 3 = .int .u64 ((up (at0 V 7) (ux (ux (rotr (at0 V 4) 14) (rotr (at0 V 4) 18)) (rotr (at0 V 4) 41))).toNat : Int) from hG 3 (hdep 3 (by kernel_rfl)))) ((show u 13 = .int .u64 ((ux (ua (at0 V 4) (at0 V 5)) (ua (un (at0 V 4)) (at0 V 6))).toNat : Int) from hG 13 (hdep 13 (by kernel_rfl))))
            · exact step_pureO hs (wants_none rfl) rfl fun L u W hG hdep => ⟨_, run_move rfl, rfl⟩
            · refine step_pureO hs (wants_none rfl) rfl fun L u W hG hdep => ⟨_, ?_, rfl⟩
              have e0 := E6.out
              have e1 := (show u 15 = .int .i64 (t : Int) from hG 15 (hdep 15 (by kernel_rfl)))
              have hltx := HLT.out
              go_simp
              try rw [if_pos (by omega)]
              try rw [show ((t : Nat) : Int).toNat = t by omega]
              try omega
            · exact step_cell q6 t hs (wants_none rfl) rfl rfl (fun _ h => load_u64 h) (fun L u W hG hdep => (show u 16 = .pointer (some ⟨q6, t, none⟩) from hG 16 (hdep 16 (by kernel_rfl)))) (HasFs.cellW hmM6 HLT.out rfl) (noSto_apart (by kernel_rfl))
            · refine step_pureO hs (wants_none rfl) rfl fun L u W hG hdep => ⟨_, ?_, rfl⟩
              have e0 := (show u 14 = .int .u64 ((up (up (at0 V 7) (ux (ux (rotr (at0 V 4) 14) (rotr (at0 V 4) 18)) (rotr (at0 V 4) 41))) (ux (ua (at0 V 4) (at0 V 5)) (ua (un (at0 V 4)) (at0 V 6)))).toNat : Int) from hG 14 (hdep 14 (by kernel_rfl)))
              have e1 := (show u 17 = .int .u64 ((at0 kTab t).toNat : Int) from hG 17 (hdep 17 (by kernel_rfl)))
              exact run_up rfl ((show u 14 = .int .u64 ((up (up (at0 V 7) (ux (ux (rotr (at0 V 4) 14) (rotr (at0 V 4) 18)) (rotr (at0 V 4) 41))) (ux (ua (at0 V 4) (at0 V 5)) (ua (un (at0 V 4)) (at0 V 6)))).toNat : Int) from hG 14 (hdep 14 (by kernel_rfl)))) ((show u 17 = .int .u64 ((at0 kTab t).toNat : Int) from hG 17 (hdep 17 (by kernel_rfl))))
            · exact step_pureO hs (wants_none rfl) rfl fun L u W hG hdep => ⟨_, run_move rfl, rfl⟩
            · refine step_pureO hs (wants_none rfl) rfl fun L u W hG hdep => ⟨_, ?_, rfl⟩
              have e0 := E5.out
              have e1 := (show u 19 = .int .i64 (t : Int) from hG 19 (hdep 19 (by kernel_rfl)))
              have hltx := HLT.out
              go_simp
              try rw [if_pos (by omega)]
              try rw [show ((t : Nat) : Int).toNat = t by omega]
              try omega
            · exact step_cell q5 t hs (wants_none rfl) rfl rfl (fun _ h => load_u64 h) (fun L u W hG hdep => (show u 20 = .pointer (some ⟨q5, t, none⟩) from hG 20 (hdep 20 (by kernel_rfl)))) (HasFs.cellW hmM5 HLT.out rfl) (noSto_apart (by kernel_rfl))
            · refine step_pureO hs (wants_none rfl) rfl fun L u W hG hdep => ⟨_, ?_, rfl⟩
              have e0 := (show u 18 = .int .u64 ((up (up (up (at0 V 7) (ux (ux (rotr (at0 V 4) 14) (rotr (at0 V 4) 18)) (rotr (at0 V 4) 41))) (ux (ua (at0 V 4) (at0 V 5)) (ua (un (at0 V 4)) (at0 V 6)))) (at0 kTab t)).toNat : Int) from hG 18 (hdep 18 (by kernel_rfl)))
              have e1 := (show u 21 = .int .u64 ((at0 Wd t).toNat : Int) from hG 21 (hdep 21 (by kernel_rfl)))
              exact run_up rfl ((show u 18 = .int .u64 ((up (up (up (at0 V 7) (ux (ux (rotr (at0 V 4) 14) (rotr (at0 V 4) 18)) (rotr (at0 V 4) 41))) (ux (ua (at0 V 4) (at0 V 5)) (ua (un (at0 V 4)) (at0 V 6)))) (at0 kTab t)).toNat : Int) from hG 18 (hdep 18 (by kernel_rfl)))) ((show u 21 = .int .u64 ((at0 Wd t).toNat : Int) from hG 21 (hdep 21 (by kernel_rfl))))
            · exact step_pureO hs (wants_none rfl) rfl fun L u W hG hdep => ⟨_, run_assign rfl, (show u 22 = .int .u64 ((up (up (up (up (at0 V 7) (ux (ux (rotr (at0 V 4) 14) (rotr (at0 V 4) 18)) (rotr (at0 V 4) 41))) (ux (ua (at0 V 4) (at0 V 5)) (ua (un (at0 V 4)) (at0 V 6)))) (at0 kTab t)) (at0 Wd t)).toNat : Int) from hG 22 (hdep 22 (by kernel_rfl)))⟩
          intro L19 u19z W19z hall hJ hG
          have hb := hJ.all rfl
          have hbel := Below.call hbel hb
          have hmM2 := hmM2.later hb
          have hmM5 := hmM5.later hb
          have hmM6 := hmM6.later hb
          have hmM12 := hmM12.later hb
          have htM2 := there_later htM2 hb
          have htM4 := there_later htM4 hb
          have htM5 := there_later htM5 hb
          have htM6 := there_later htM6 hb
          have htM12 := there_later htM12 hb
          have HC17 := Lib.hid (show u19z 23 = .int .u64 ((up (up (up (up (at0 V 7) (ux (ux (rotr (at0 V 4) 14) (rotr (at0 V 4) 18)) (rotr (at0 V 4) 41))) (ux (ua (at0 V 4) (at0 V 5)) (ua (un (at0 V 4)) (at0 V 6)))) (at0 kTab t)) (at0 Wd t)).toNat : Int) from hG 23 (by simp))
          have hbel0 := hbel
          clear hJ hG hall hb
          go_upto_region 20 with fail
          refine wp_region_turn (fun u => (v0 :: .slice (some ⟨bb, q, none⟩) n cap :: u0z 0 :: undef :: u0z 1 :: u1z 0 :: u2z 1 :: u7 :: u8 :: u9 :: u10 :: u11 :: u13z 1 :: .int .i64 (t : Int) :: u17z 4 :: u17z 5 :: u18z 8 :: u19z 23 :: u 8 :: u19 :: undef :: u2z 0 :: .int .i64 ((80 : Nat) : Int) :: .bool false :: u24 :: u25 :: u26 :: u27 :: u28 :: u29 :: u30 :: u31 :: u32 :: u33 :: u34 :: u35 :: u36 :: u37 :: u38 :: u39 :: u40 :: u41 :: u42 :: u43 :: u44 :: u45 :: u46 :: u47 :: u48 :: u49 :: u50 :: u51 :: u52 :: u53 :: u54 :: u55 :: u56 :: u57 :: u58 :: u59 :: u60 :: u61 :: u62 :: u63 :: u64 :: u65 :: u66 :: u67 :: u68 :: u69 :: u70 :: u71 :: u72 :: u73 :: u13z 0 :: .int .i64 (t : Int) :: .bool true :: .int .i64 (t : Int) :: u17z 0 :: u17z 1 :: u17z 2 :: u17z 3 :: u18z 0 :: u18z 1 :: u18z 2 :: u18z 3 :: u18z 4 :: u18z 5 :: u18z 6 :: u18z 7 :: u19z 0 :: u19z 1 :: u19z 2 :: u19z 3 :: u19z 4 :: u19z 5 :: u19z 6 :: u19z 7 :: u19z 8 :: u19z 9 :: u19z 10 :: u19z 11 :: u19z 12 :: u19z 13 :: u19z 14 :: u19z 15 :: u19z 16 :: u19z 17 :: u19z 18 :: u19z 19 :: u19z 20 :: u19z 21 :: u19z 22 :: u 0 :: u 1 :: u 2 :: u 3 :: u 4 :: u 5 :: u 6 :: u 7 :: u121 :: u122 :: u123 :: u124 :: u125 :: u126 :: u127 :: u128 :: u129 :: u130 :: u131 :: u132 :: u133 :: u134 :: u135 :: u136 :: u137 :: u138 :: u139 :: u140 :: u141 :: u142 :: u143 :: u144 :: u145 :: u146 :: u147 :: u148 :: u149 :: u150 :: u151 :: u152 :: u153 :: u154 :: u155 :: u156 :: undef :: undef :: undef :: undef :: undef :: undef :: undef :: undef :: undef :: undef :: undef :: undef :: undef :: []).toArray) (Holds [.oth (fun v => v = .int .u64 ((at0 V 0).toNat : Int)), .oth (fun v => v = .int .u64 ((rotr (at0 V 0) 28).toNat : Int)), .oth (fun v => v = .int .u64 ((at0 V 0).toNat : Int)), .oth (fun v => v = .int .u64 ((rotr (at0 V 0) 34).toNat : Int)), .oth (fun v => v = .int .u64 ((ux (rotr (at0 V 0) 28) (rotr (at0 V 0) 34)).toNat : Int)), .oth (fun v => v = .int .u64 ((at0 V 0).toNat : Int)), .oth (fun v => v = .int .u64 ((rotr (at0 V 0) 39).toNat : Int)), .oth (fun v => v = .int .u64 ((ux (ux (rotr (at0 V 0) 28) (rotr (at0 V 0) 34)) (rotr (at0 V 0) 39)).toNat : Int)), .oth (fun v => v = .int .u64 ((ux (ux (rotr (at0 V 0) 28) (rotr (at0 V 0) 34)) (rotr (at0 V 0) 39)).toNat : Int))] W19z) (Keep [.oth (fun v => v = .int .u64 ((at0 V 0).toNat : Int)), .oth (fun v => v = .int .u64 ((rotr (at0 V 0) 28).toNat : Int)), .oth (fun v => v = .int .u64 ((at0 V 0).toNat : Int)), .oth (fun v => v = .int .u64 ((rotr (at0 V 0) 34).toNat : Int)), .oth (fun v => v = .int .u64 ((ux (rotr (at0 V 0) 28) (rotr (at0 V 0) 34)).toNat : Int)), .oth (fun v => v = .int .u64 ((at0 V 0).toNat : Int)), .oth (fun v => v = .int .u64 ((rotr (at0 V 0) 39).toNat : Int)), .oth (fun v => v = .int .u64 ((ux (ux (rotr (at0 V 0) 28) (rotr (at0 V 0) 34)) (rotr (at0 V 0) 39)).toNat : Int)), .oth (fun v => v = .int .u64 ((ux (ux (rotr (at0 V 0) 28) (rotr (at0 V 0) 34)) (rotr (at0 V 0) 39)).toNat : Int))] W19z) (fun k => ((u113 :: u114 :: u115 :: u116 :: u117 :: u118 :: u119 :: u120 :: u18 :: []) : List Value).getD k undef) ?_ (by rfl) Keep.start (holds_soft (by kernel_rfl)) ?_ ?_
          · intro u i v h
            rcases i with _ | _ | _ | _ | _ | _ | _ | _ | _ | i
            all_goals first | (simp [Act.put, putV]; done) | (exfalso; simp at h; omega)
          · intro hs
            refine ⟨?_, ?_, ?_, ?_, ?_, ?_, ?_, ?_, ?_, trivial⟩
            · exact step_pureO hs (wants_none rfl) rfl fun L u W hG hdep => ⟨_, run_move rfl, HC14.out⟩
            · refine step_callO hs (wants_none rfl) rfl fun L u W hJ hG hL hdep K hK => ?_
              have x0 := (show u 0 = .int .u64 ((at0 V 0).toNat : Int) from hG 0 (hdep 0 (by kernel_rfl)))
              go_simp
              go_at_call 84
              (with_reducible refine (rotB_28 (x := at0 V 0) _).mono ?_); rintro e w1 ⟨rfl, hb⟩
              have hk := hK.out _ _ rfl hb
              simp only [x0] at hk
              exact hk
            · exact step_pureO hs (wants_none rfl) rfl fun L u W hG hdep => ⟨_, run_move rfl, HC14.out⟩
            · refine step_callO hs (wants_none rfl) rfl fun L u W hJ hG hL hdep K hK => ?_
              have x0 := (show u 2 = .int .u64 ((at0 V 0).toNat : Int) from hG 2 (hdep 2 (by kernel_rfl)))
              go_simp
              go_at_call 84
              (with_reducible refine (rotB_34 (x := at0 V 0) _).mono ?_); rintro e w1 ⟨rfl, hb⟩
              have hk := hK.out _ _ rfl hb
              simp only [x0] at hk
              exact hk
            · refine step_pureO hs (wants_none rfl) rfl fun L u W hG hdep => ⟨_, ?_, rfl⟩
              have e0 := (show u 1 = .int .u64 ((rotr (at0 V 0) 28).toNat : Int) from hG 1 (hdep 1 (by kernel_rfl)))
              have e1 := (show u 3 = .int .u64 ((rotr (at0 V 0) 34).toNat : Int) from hG 3 (hdep 3 (by kernel_rfl)))
              exact run_ux rfl ((show u 1 = .int .u64 ((rotr (at0 V 0) 28).toNat : Int) from hG 1 (hdep 1 (by kernel_rfl)))) ((show u 3 = .int .u64 ((rotr (at0 V 0) 34).toNat : Int) from hG 3 (hdep 3 (by kernel_rfl))))
            · exact step_pureO hs (wants_none rfl) rfl fun L u W hG hdep => ⟨_, run_move rfl, HC14.out⟩
            · refine step_callO hs (wants_none rfl) rfl fun L u W hJ hG hL hdep K hK => ?_
              have x0 := (show u 5 = .int .u64 ((at0 V 0).toNat : Int) from hG 5 (hdep 5 (by kernel_rfl)))
              go_simp
              go_at_call 84
              (with_reducible refine (rotB_39 (x := at0 V 0) _).mono ?_); rintro e w1 ⟨rfl, hb⟩
              have hk := hK.out _ _ rfl hb
              simp only [x0] at hk
              exact hk
            · refine step_pureO hs (wants_none rfl) rfl fun L u W hG hdep => ⟨_, ?_, rfl⟩
              have e0 := (show u 4 = .int .u64 ((ux (rotr (at0 V 0) 28) (rotr (at0 V 0) 34)).toNat : Int) from hG 4 (hdep 4 (by kernel_rfl)))
              have e1 := (show u 6 = .int .u64 ((rotr (at0 V 0) 39).toNat : Int) from hG 6 (hdep 6 (by kernel_rfl)))
              exact run_ux rfl ((show u 4 = .int .u64 ((ux (rotr (at0 V 0) 28) (rotr (at0 V 0) 34)).toNat : Int) from hG 4 (hdep 4 (by kernel_rfl)))) ((show u 6 = .int .u64 ((rotr (at0 V 0) 39).toNat : Int) from hG 6 (hdep 6 (by kernel_rfl))))
            · exact step_pureO hs (wants_none rfl) rfl fun L u W hG hdep => ⟨_, run_assign rfl, (show u 7 = .int .u64 ((ux (ux (rotr (at0 V 0) 28) (rotr (at0 V 0) 34)) (rotr (at0 V 0) 39)).toNat : Int) from hG 7 (hdep 7 (by kernel_rfl)))⟩
          intro L20 u20z W20z hall hJ hG
          have hb := hJ.all rfl
          have hbel := Below.call hbel hb
          have hmM2 := hmM2.later hb
          have hmM5 := hmM5.later hb
          have hmM6 := hmM6.later hb
          have hmM12 := hmM12.later hb
          have htM2 := there_later htM2 hb
          have htM4 := there_later htM4 hb
          have htM5 := there_later htM5 hb
          have htM6 := there_later htM6 hb
          have htM12 := there_later htM12 hb
          have HC18 := Lib.hid (show u20z 8 = .int .u64 ((ux (ux (rotr (at0 V 0) 28) (rotr (at0 V 0) 34)) (rotr (at0 V 0) 39)).toNat : Int) from hG 8 (by simp))
          have hbel0 := hbel
          clear hJ hG hall hb
          go_upto_region 21 with fail
          refine wp_region_turn (fun u => (v0 :: .slice (some ⟨bb, q, none⟩) n cap :: u0z 0 :: undef :: u0z 1 :: u1z 0 :: u2z 1 :: u7 :: u8 :: u9 :: u10 :: u11 :: u13z 1 :: .int .i64 (t : Int) :: u17z 4 :: u17z 5 :: u18z 8 :: u19z 23 :: u20z 8 :: u 17 :: undef :: u2z 0 :: .int .i64 ((80 : Nat) : Int) :: .bool false :: u24 :: u25 :: u26 :: u27 :: u28 :: u29 :: u30 :: u31 :: u32 :: u33 :: u34 :: u35 :: u36 :: u37 :: u38 :: u39 :: u40 :: u41 :: u42 :: u43 :: u44 :: u45 :: u46 :: u47 :: u48 :: u49 :: u50 :: u51 :: u52 :: u53 :: u54 :: u55 :: u56 :: u57 :: u58 :: u59 :: u60 :: u61 :: u62 :: u63 :: u64 :: u65 :: u66 :: u67 :: u68 :: u69 :: u70 :: u71 :: u72 :: u73 :: u13z 0 :: .int .i64 (t : Int) :: .bool true :: .int .i64 (t : Int) :: u17z 0 :: u17z 1 :: u17z 2 :: u17z 3 :: u18z 0 :: u18z 1 :: u18z 2 :: u18z 3 :: u18z 4 :: u18z 5 :: u18z 6 :: u18z 7 :: u19z 0 :: u19z 1 :: u19z 2 :: u19z 3 :: u19z 4 :: u19z 5 :: u19z 6 :: u19z 7 :: u19z 8 :: u19z 9 :: u19z 10 :: u19z 11 :: u19z 12 :: u19z 13 :: u19z 14 :: u19z 15 :: u19z 16 :: u19z 17 :: u19z 18 :: u19z 19 :: u19z 20 :: u19z 21 :: u19z 22 :: u20z 0 :: u20z 1 :: u20z 2 :: u20z 3 :: u20z 4 :: u20z 5 :: u20z 6 :: u20z 7 :: u 0 :: u 1 :: u 2 :: u 3 :: u 4 :: u 5 :: u 6 :: u 7 :: u 8 :: u 9 :: u 10 :: u 11 :: u 12 :: u 13 :: u 14 :: u 15 :: u 16 :: u138 :: u139 :: u140 :: u141 :: u142 :: u143 :: u144 :: u145 :: u146 :: u147 :: u148 :: u149 :: u150 :: u151 :: u152 :: u153 :: u154 :: u155 :: u156 :: undef :: undef :: undef :: undef :: undef :: undef :: undef :: undef :: undef :: undef :: undef :: undef :: undef :: []).toArray) (Holds [.oth (fun v => v = .int .u64 ((ux (ux (rotr (at0 V 0) 28) (rotr (at0 V 0) 34)) (rotr (at0 V 0) 39)).toNat : Int)), .oth (fun v => v = .int .u64 ((at0 V 0).toNat : Int)), .oth (fun v => v = .pointer (some ⟨q12, 1, none⟩)), .oth (fun v => v = .int .u64 ((at0 V 1).toNat : Int)), .oth (fun v => v = .int .u64 ((ua (at0 V 0) (at0 V 1)).toNat : Int)), .oth (fun v => v = .int .u64 ((at0 V 0).toNat : Int)), .oth (fun v => v = .pointer (some ⟨q12, 2, none⟩)), .oth (fun v => v = .int .u64 ((at0 V 2).toNat : Int)), .oth (fun v => v = .int .u64 ((ua (at0 V 0) (at0 V 2)).toNat : Int)), .oth (fun v => v = .int .u64 ((ux (ua (at0 V 0) (at0 V 1)) (ua (at0 V 0) (at0 V 2))).toNat : Int)), .oth (fun v => v = .pointer (some ⟨q12, 1, none⟩)), .oth (fun v => v = .int .u64 ((at0 V 1).toNat : Int)), .oth (fun v => v = .pointer (some ⟨q12, 2, none⟩)), .oth (fun v => v = .int .u64 ((at0 V 2).toNat : Int)), .oth (fun v => v = .int .u64 ((ua (at0 V 1) (at0 V 2)).toNat : Int)), .oth (fun v => v = .int .u64 ((ux (ux (ua (at0 V 0) (at0 V 1)) (ua (at0 V 0) (at0 V 2))) (ua (at0 V 1) (at0 V 2))).toNat : Int)), .oth (fun v => v = .int .u64 ((up (ux (ux (rotr (at0 V 0) 28) (rotr (at0 V 0) 34)) (rotr (at0 V 0) 39)) (ux (ux (ua (at0 V 0) (at0 V 1)) (ua (at0 V 0) (at0 V 2))) (ua (at0 V 1) (at0 V 2)))).toNat : Int)), .oth (fun v => v = .int .u64 ((up (ux (ux (rotr (at0 V 0) 28) (rotr (at0 V 0) 34)) (rotr (at0 V 0) 39)) (ux (ux (ua (at0 V 0) (at0 V 1)) (ua (at0 V 0) (at0 V 2))) (ua (at0 V 1) (at0 V 2)))).toNat : Int))] W20z) (Keep [.oth (fun v => v = .int .u64 ((ux (ux (rotr (at0 V 0) 28) (rotr (at0 V 0) 34)) (rotr (at0 V 0) 39)).toNat : Int)), .oth (fun v => v = .int .u64 ((at0 V 0).toNat : Int)), .oth (fun v => v = .pointer (some ⟨q12, 1, none⟩)), .oth (fun v => v = .int .u64 ((at0 V 1).toNat : Int)), .oth (fun v => v = .int .u64 ((ua (at0 V 0) (at0 V 1)).toNat : Int)), .oth (fun v => v = .int .u64 ((at0 V 0).toNat : Int)), .oth (fun v => v = .pointer (some ⟨q12, 2, none⟩)), .oth (fun v => v = .int .u64 ((at0 V 2).toNat : Int)), .oth (fun v => v = .int .u64 ((ua (at0 V 0) (at0 V 2)).toNat : Int)), .oth (fun v => v = .int .u64 ((ux (ua (at0 V 0) (at0 V 1)) (ua (at0 V 0) (at0 V 2))).toNat : Int)), .oth (fun v => v = .pointer (some ⟨q12, 1, none⟩)), .oth (fun v => v = .int .u64 ((at0 V 1).toNat : Int)), .oth (fun v => v = .pointer (some ⟨q12, 2, none⟩)), .oth (fun v => v = .int .u64 ((at0 V 2).toNat : Int)), .oth (fun v => v = .int .u64 ((ua (at0 V 1) (at0 V 2)).toNat : Int)), .oth (fun v => v = .int .u64 ((ux (ux (ua (at0 V 0) (at0 V 1)) (ua (at0 V 0) (at0 V 2))) (ua (at0 V 1) (at0 V 2))).toNat : Int)), .oth (fun v => v = .int .u64 ((up (ux (ux (rotr (at0 V 0) 28) (rotr (at0 V 0) 34)) (rotr (at0 V 0) 39)) (ux (ux (ua (at0 V 0) (at0 V 1)) (ua (at0 V 0) (at0 V 2))) (ua (at0 V 1) (at0 V 2)))).toNat : Int)), .oth (fun v => v = .int .u64 ((up (ux (ux (rotr (at0 V 0) 28) (rotr (at0 V 0) 34)) (rotr (at0 V 0) 39)) (ux (ux (ua (at0 V 0) (at0 V 1)) (ua (at0 V 0) (at0 V 2))) (ua (at0 V 1) (at0 V 2)))).toNat : Int))] W20z) (fun k => ((u121 :: u122 :: u123 :: u124 :: u125 :: u126 :: u127 :: u128 :: u129 :: u130 :: u131 :: u132 :: u133 :: u134 :: u135 :: u136 :: u137 :: u19 :: []) : List Value).getD k undef) ?_ (by rfl) Keep.start (holds_soft (by kernel_rfl)) ?_ ?_
          · intro u i v h
            rcases i with _ | _ | _ | _ | _ | _ | _ | _ | _ | _ | _ | _ | _ | _ | _ | _ | _ | _ | i
            all_goals first | (simp [Act.put, putV]; done) | (exfalso; simp at h; omega)
          · intro hs
            refine ⟨?_, ?_, ?_, ?_, ?_, ?_, ?_, ?_, ?_, ?_, ?_, ?_, ?_, ?_, ?_, ?_, ?_, ?_, trivial⟩
            · exact step_pureO hs (wants_none rfl) rfl fun L u W hG hdep => ⟨_, run_move rfl, HC18.out⟩
            · exact step_pureO hs (wants_none rfl) rfl fun L u W hG hdep => ⟨_, run_move rfl, HC14.out⟩
            · refine step_pureO hs (wants_none rfl) rfl fun L u W hG hdep => ⟨_, ?_, rfl⟩
              have e0 := E12.out
              go_simp
              try rw [if_pos (by omega)]
              try rw [show ((1 : Nat) : Int).toNat = 1 by omega]
              try omega
            · exact step_cell q12 1 hs (wants_none rfl) rfl rfl (fun _ h => load_u64 h) (fun L u W hG hdep => (show u 2 = .pointer (some ⟨q12, 1, none⟩) from hG 2 (hdep 2 (by kernel_rfl)))) (HasFs.cellW hmM12 (by omega) rfl) (noSto_apart (by kernel_rfl))
            · refine step_pureO hs (wants_none rfl) rfl fun L u W hG hdep => ⟨_, ?_, rfl⟩
              have e0 := (show u 1 = .int .u64 ((at0 V 0).toNat : Int) from hG 1 (hdep 1 (by kernel_rfl)))
              have e1 := (show u 3 = .int .u64 ((at0 V 1).toNat : Int) from hG 3 (hdep 3 (by kernel_rfl)))
              exact run_ua rfl ((show u 1 = .int .u64 ((at0 V 0).toNat : Int) from hG 1 (hdep 1 (by kernel_rfl)))) ((show u 3 = .int .u64 ((at0 V 1).toNat : Int) from hG 3 (hdep 3 (by kernel_rfl))))
            · exact step_pureO hs (wants_none rfl) rfl fun L u W hG hdep => ⟨_, run_move rfl, HC14.out⟩
            · refine step_pureO hs (wants_none rfl) rfl fun L u W hG hdep => ⟨_, ?_, rfl⟩
              have e0 := E12.out
              go_simp
              try rw [if_pos (by omega)]
              try rw [show ((2 : Nat) : Int).toNat = 2 by omega]
              try omega
            · exact step_cell q12 2 hs (wants_none rfl) rfl rfl (fun _ h => load_u64 h) (fun L u W hG hdep => (show u 6 = .pointer (some ⟨q12, 2, none⟩) from hG 6 (hdep 6 (by kernel_rfl)))) (HasFs.cellW hmM12 (by omega) rfl) (noSto_apart (by kernel_rfl))
            · refine step_pureO hs (wants_none rfl) rfl fun L u W hG hdep => ⟨_, ?_, rfl⟩
              have e0 := (show u 5 = .int .u64 ((at0 V 0).toNat : Int) from hG 5 (hdep 5 (by kernel_rfl)))
              have e1 := (show u 7 = .int .u64 ((at0 V 2).toNat : Int) from hG 7 (hdep 7 (by kernel_rfl)))
              exact run_ua rfl ((show u 5 = .int .u64 ((at0 V 0).toNat : Int) from hG 5 (hdep 5 (by kernel_rfl)))) ((show u 7 = .int .u64 ((at0 V 2).toNat : Int) from hG 7 (hdep 7 (by kernel_rfl))))
            · refine step_pureO hs (wants_none rfl) rfl fun L u W hG hdep => ⟨_, ?_, rfl⟩
              have e0 := (show u 4 = .int .u64 ((ua (at0 V 0) (at0 V 1)).toNat : Int) from hG 4 (hdep 4 (by kernel_rfl)))
              have e1 := (show u 8 = .int .u64 ((ua (at0 V 0) (at0 V 2)).toNat : Int) from hG 8 (hdep 8 (by kernel_rfl)))
              exact run_ux rfl ((show u 4 = .int .u64 ((ua (at0 V 0) (at0 V 1)).toNat : Int) from hG 4 (hdep 4 (by kernel_rfl)))) ((show u 8 = .int .u64 ((ua (at0 V 0) (at0 V 2)).toNat : Int) from hG 8 (hdep 8 (by kernel_rfl))))
            · refine step_pureO hs (wants_none rfl) rfl fun L u W hG hdep => ⟨_, ?_, rfl⟩
              have e0 := E12.out
              go_simp
              try rw [if_pos (by omega)]
              try rw [show ((1 : Nat) : Int).toNat = 1 by omega]
              try omega
            · exact step_cell q12 1 hs (wants_none rfl) rfl rfl (fun _ h => load_u64 h) (fun L u W hG hdep => (show u 10 = .pointer (some ⟨q12, 1, none⟩) from hG 10 (hdep 10 (by kernel_rfl)))) (HasFs.cellW hmM12 (by omega) rfl) (noSto_apart (by kernel_rfl))
            · refine step_pureO hs (wants_none rfl) rfl fun L u W hG hdep => ⟨_, ?_, rfl⟩
              have e0 := E12.out
              go_simp
              try rw [if_pos (by omega)]
              try rw [show ((2 : Nat) : Int).toNat = 2 by omega]
              try omega
            · exact step_cell q12 2 hs (wants_none rfl) rfl rfl (fun _ h => load_u64 h) (fun L u W hG hdep => (show u 12 = .pointer (some ⟨q12, 2, none⟩) from hG 12 (hdep 12 (by kernel_rfl)))) (HasFs.cellW hmM12 (by omega) rfl) (noSto_apart (by kernel_rfl))
            · refine step_pureO hs (wants_none rfl) rfl fun L u W hG hdep => ⟨_, ?_, rfl⟩
              have e0 := (show u 11 = .int .u64 ((at0 V 1).toNat : Int) from hG 11 (hdep 11 (by kernel_rfl)))
              have e1 := (show u 13 = .int .u64 ((at0 V 2).toNat : Int) from hG 13 (hdep 13 (by kernel_rfl)))
              exact run_ua rfl ((show u 11 = .int .u64 ((at0 V 1).toNat : Int) from hG 11 (hdep 11 (by kernel_rfl)))) ((show u 13 = .int .u64 ((at0 V 2).toNat : Int) from hG 13 (hdep 13 (by kernel_rfl))))
            · refine step_pureO hs (wants_none rfl) rfl fun L u W hG hdep => ⟨_, ?_, rfl⟩
              have e0 := (show u 9 = .int .u64 ((ux (ua (at0 V 0) (at0 V 1)) (ua (at0 V 0) (at0 V 2))).toNat : Int) from hG 9 (hdep 9 (by kernel_rfl)))
              have e1 := (show u 14 = .int .u64 ((ua (at0 V 1) (at0 V 2)).toNat : Int) from hG 14 (hdep 14 (by kernel_rfl)))
              exact run_ux rfl ((show u 9 = .int .u64 ((ux (ua (at0 V 0) (at0 V 1)) (ua (at0 V 0) (at0 V 2))).toNat : Int) from hG 9 (hdep 9 (by kernel_rfl)))) ((show u 14 = .int .u64 ((ua (at0 V 1) (at0 V 2)).toNat : Int) from hG 14 (hdep 14 (by kernel_rfl))))
            · refine step_pureO hs (wants_none rfl) rfl fun L u W hG hdep => ⟨_, ?_, rfl⟩
              have e0 := (show u 0 = .int .u64 ((ux (ux (rotr (at0 V 0) 28) (rotr (at0 V 0) 34)) (rotr (at0 V 0) 39)).toNat : Int) from hG 0 (hdep 0 (by kernel_rfl)))
              have e1 := (show u 15 = .int .u64 ((ux (ux (ua (at0 V 0) (at0 V 1)) (ua (at0 V 0) (at0 V 2))) (ua (at0 V 1) (at0 V 2))).toNat : Int) from hG 15 (hdep 15 (by kernel_rfl)))
              exact run_up rfl ((show u 0 = .int .u64 ((ux (ux (rotr (at0 V 0) 28) (rotr (at0 V 0) 34)) (rotr (at0 V 0) 39)).toNat : Int) from hG 0 (hdep 0 (by kernel_rfl)))) ((show u 15 = .int .u64 ((ux (ux (ua (at0 V 0) (at0 V 1)) (ua (at0 V 0) (at0 V 2))) (ua (at0 V 1) (at0 V 2))).toNat : Int) from hG 15 (hdep 15 (by kernel_rfl))))
            · exact step_pureO hs (wants_none rfl) rfl fun L u W hG hdep => ⟨_, run_assign rfl, (show u 16 = .int .u64 ((up (ux (ux (rotr (at0 V 0) 28) (rotr (at0 V 0) 34)) (rotr (at0 V 0) 39)) (ux (ux (ua (at0 V 0) (at0 V 1)) (ua (at0 V 0) (at0 V 2))) (ua (at0 V 1) (at0 V 2)))).toNat : Int) from hG 16 (hdep 16 (by kernel_rfl)))⟩
          intro L21 u21z W21z hall hJ hG
          have hb := hJ.all rfl
          have hbel := Below.call hbel hb
          have hmM2 := hmM2.later hb
          have hmM5 := hmM5.later hb
          have hmM6 := hmM6.later hb
          have hmM12 := hmM12.later hb
          have htM2 := there_later htM2 hb
          have htM4 := there_later htM4 hb
          have htM5 := there_later htM5 hb
          have htM6 := there_later htM6 hb
          have htM12 := there_later htM12 hb
          have HC19 := Lib.hid (show u21z 17 = .int .u64 ((up (ux (ux (rotr (at0 V 0) 28) (rotr (at0 V 0) 34)) (rotr (at0 V 0) 39)) (ux (ux (ua (at0 V 0) (at0 V 1)) (ua (at0 V 0) (at0 V 2))) (ua (at0 V 1) (at0 V 2)))).toNat : Int) from hG 17 (by simp))
          have hbel0 := hbel
          clear hJ hG hall hb
          go_upto_region 22 with fail
          have HNV : Hid ([up (up (up (up (up (at0 V 7) (ux (ux (rotr (at0 V 4) 14) (rotr (at0 V 4) 18)) (rotr (at0 V 4) 41))) (ux (ua (at0 V 4) (at0 V 5)) (ua (un (at0 V 4)) (at0 V 6)))) (at0 kTab t)) (at0 Wd t)) (up (ux (ux (rotr (at0 V 0) 28) (rotr (at0 V 0) 34)) (rotr (at0 V 0) 39)) (ux (ux (ua (at0 V 0) (at0 V 1)) (ua (at0 V 0) (at0 V 2))) (ua (at0 V 1) (at0 V 2)))), at0 V 0, at0 V 1, at0 V 2, up (at0 V 3) (up (up (up (up (at0 V 7) (ux (ux (rotr (at0 V 4) 14) (rotr (at0 V 4) 18)) (rotr (at0 V 4) 41))) (ux (ua (at0 V 4) (at0 V 5)) (ua (un (at0 V 4)) (at0 V 6)))) (at0 kTab t)) (at0 Wd t)), at0 V 4, at0 V 5, at0 V 6] = rL h Wd (t + 1)) := Lib.hid (by rw [rL, ← HV.out]; rfl)
          refine wp_region_turn (fun u => (v0 :: .slice (some ⟨bb, q, none⟩) n cap :: u0z 0 :: undef :: u0z 1 :: u1z 0 :: u2z 1 :: u7 :: u8 :: u9 :: u10 :: u11 :: u13z 1 :: .int .i64 (t : Int) :: u17z 4 :: u17z 5 :: u18z 8 :: u19z 23 :: u20z 8 :: u21z 17 :: undef :: u2z 0 :: .int .i64 ((80 : Nat) : Int) :: .bool false :: u24 :: u25 :: u26 :: u27 :: u28 :: u29 :: u30 :: u31 :: u32 :: u33 :: u34 :: u35 :: u36 :: u37 :: u38 :: u39 :: u40 :: u41 :: u42 :: u43 :: u44 :: u45 :: u46 :: u47 :: u48 :: u49 :: u50 :: u51 :: u52 :: u53 :: u54 :: u55 :: u56 :: u57 :: u58 :: u59 :: u60 :: u61 :: u62 :: u63 :: u64 :: u65 :: u66 :: u67 :: u68 :: u69 :: u70 :: u71 :: u72 :: u73 :: u13z 0 :: .int .i64 (t : Int) :: .bool true :: .int .i64 (t : Int) :: u17z 0 :: u17z 1 :: u17z 2 :: u17z 3 :: u18z 0 :: u18z 1 :: u18z 2 :: u18z 3 :: u18z 4 :: u18z 5 :: u18z 6 :: u18z 7 :: u19z 0 :: u19z 1 :: u19z 2 :: u19z 3 :: u19z 4 :: u19z 5 :: u19z 6 :: u19z 7 :: u19z 8 :: u19z 9 :: u19z 10 :: u19z 11 :: u19z 12 :: u19z 13 :: u19z 14 :: u19z 15 :: u19z 16 :: u19z 17 :: u19z 18 :: u19z 19 :: u19z 20 :: u19z 21 :: u19z 22 :: u20z 0 :: u20z 1 :: u20z 2 :: u20z 3 :: u20z 4 :: u20z 5 :: u20z 6 :: u20z 7 :: u21z 0 :: u21z 1 :: u21z 2 :: u21z 3 :: u21z 4 :: u21z 5 :: u21z 6 :: u21z 7 :: u21z 8 :: u21z 9 :: u21z 10 :: u21z 11 :: u21z 12 :: u21z 13 :: u21z 14 :: u21z 15 :: u21z 16 :: u 0 :: u 1 :: u 2 :: u 3 :: u 4 :: u 5 :: u 6 :: u 7 :: u 8 :: u 9 :: u 10 :: u 11 :: u 12 :: u 13 :: u 14 :: u 15 :: u 16 :: u 17 :: u156 :: undef :: undef :: undef :: undef :: undef :: undef :: undef :: undef :: undef :: undef :: undef :: undef :: undef :: []).toArray) (Holds [.oth (fun v => v = .int .u64 ((up (up (up (up (at0 V 7) (ux (ux (rotr (at0 V 4) 14) (rotr (at0 V 4) 18)) (rotr (at0 V 4) 41))) (ux (ua (at0 V 4) (at0 V 5)) (ua (un (at0 V 4)) (at0 V 6)))) (at0 kTab t)) (at0 Wd t)).toNat : Int)), .oth (fun v => v = .int .u64 ((up (ux (ux (rotr (at0 V 0) 28) (rotr (at0 V 0) 34)) (rotr (at0 V 0) 39)) (ux (ux (ua (at0 V 0) (at0 V 1)) (ua (at0 V 0) (at0 V 2))) (ua (at0 V 1) (at0 V 2)))).toNat : Int)), .oth (fun v => v = .int .u64 ((up (up (up (up (up (at0 V 7) (ux (ux (rotr (at0 V 4) 14) (rotr (at0 V 4) 18)) (rotr (at0 V 4) 41))) (ux (ua (at0 V 4) (at0 V 5)) (ua (un (at0 V 4)) (at0 V 6)))) (at0 kTab t)) (at0 Wd t)) (up (ux (ux (rotr (at0 V 0) 28) (rotr (at0 V 0) 34)) (rotr (at0 V 0) 39)) (ux (ux (ua (at0 V 0) (at0 V 1)) (ua (at0 V 0) (at0 V 2))) (ua (at0 V 1) (at0 V 2))))).toNat : Int)), .oth (fun v => v = .int .u64 ((at0 V 0).toNat : Int)), .oth (fun v => v = .pointer (some ⟨q12, 1, none⟩)), .oth (fun v => v = .int .u64 ((at0 V 1).toNat : Int)), .oth (fun v => v = .pointer (some ⟨q12, 2, none⟩)), .oth (fun v => v = .int .u64 ((at0 V 2).toNat : Int)), .oth (fun v => v = .pointer (some ⟨q12, 3, none⟩)), .oth (fun v => v = .int .u64 ((at0 V 3).toNat : Int)), .oth (fun v => v = .int .u64 ((up (up (up (up (at0 V 7) (ux (ux (rotr (at0 V 4) 14) (rotr (at0 V 4) 18)) (rotr (at0 V 4) 41))) (ux (ua (at0 V 4) (at0 V 5)) (ua (un (at0 V 4)) (at0 V 6)))) (at0 kTab t)) (at0 Wd t)).toNat : Int)), .oth (fun v => v = .int .u64 ((up (at0 V 3) (up (up (up (up (at0 V 7) (ux (ux (rotr (at0 V 4) 14) (rotr (at0 V 4) 18)) (rotr (at0 V 4) 41))) (ux (ua (at0 V 4) (at0 V 5)) (ua (un (at0 V 4)) (at0 V 6)))) (at0 kTab t)) (at0 Wd t))).toNat : Int)), .oth (fun v => v = .int .u64 ((at0 V 4).toNat : Int)), .oth (fun v => v = .pointer (some ⟨q12, 5, none⟩)), .oth (fun v => v = .int .u64 ((at0 V 5).toNat : Int)), .oth (fun v => v = .pointer (some ⟨q12, 6, none⟩)), .oth (fun v => v = .int .u64 ((at0 V 6).toNat : Int)), .val rW8 [rL h Wd (t + 1)], .sto q12 rW8 [rL h Wd (t + 1)]] W21z) (Keep [.oth (fun v => v = .int .u64 ((up (up (up (up (at0 V 7) (ux (ux (rotr (at0 V 4) 14) (rotr (at0 V 4) 18)) (rotr (at0 V 4) 41))) (ux (ua (at0 V 4) (at0 V 5)) (ua (un (at0 V 4)) (at0 V 6)))) (at0 kTab t)) (at0 Wd t)).toNat : Int)), .oth (fun v => v = .int .u64 ((up (ux (ux (rotr (at0 V 0) 28) (rotr (at0 V 0) 34)) (rotr (at0 V 0) 39)) (ux (ux (ua (at0 V 0) (at0 V 1)) (ua (at0 V 0) (at0 V 2))) (ua (at0 V 1) (at0 V 2)))).toNat : Int)), .oth (fun v => v = .int .u64 ((up (up (up (up (up (at0 V 7) (ux (ux (rotr (at0 V 4) 14) (rotr (at0 V 4) 18)) (rotr (at0 V 4) 41))) (ux (ua (at0 V 4) (at0 V 5)) (ua (un (at0 V 4)) (at0 V 6)))) (at0 kTab t)) (at0 Wd t)) (up (ux (ux (rotr (at0 V 0) 28) (rotr (at0 V 0) 34)) (rotr (at0 V 0) 39)) (ux (ux (ua (at0 V 0) (at0 V 1)) (ua (at0 V 0) (at0 V 2))) (ua (at0 V 1) (at0 V 2))))).toNat : Int)), .oth (fun v => v = .int .u64 ((at0 V 0).toNat : Int)), .oth (fun v => v = .pointer (some ⟨q12, 1, none⟩)), .oth (fun v => v = .int .u64 ((at0 V 1).toNat : Int)), .oth (fun v => v = .pointer (some ⟨q12, 2, none⟩)), .oth (fun v => v = .int .u64 ((at0 V 2).toNat : Int)), .oth (fun v => v = .pointer (some ⟨q12, 3, none⟩)), .oth (fun v => v = .int .u64 ((at0 V 3).toNat : Int)), .oth (fun v => v = .int .u64 ((up (up (up (up (at0 V 7) (ux (ux (rotr (at0 V 4) 14) (rotr (at0 V 4) 18)) (rotr (at0 V 4) 41))) (ux (ua (at0 V 4) (at0 V 5)) (ua (un (at0 V 4)) (at0 V 6)))) (at0 kTab t)) (at0 Wd t)).toNat : Int)), .oth (fun v => v = .int .u64 ((up (at0 V 3) (up (up (up (up (at0 V 7) (ux (ux (rotr (at0 V 4) 14) (rotr (at0 V 4) 18)) (rotr (at0 V 4) 41))) (ux (ua (at0 V 4) (at0 V 5)) (ua (un (at0 V 4)) (at0 V 6)))) (at0 kTab t)) (at0 Wd t))).toNat : Int)), .oth (fun v => v = .int .u64 ((at0 V 4).toNat : Int)), .oth (fun v => v = .pointer (some ⟨q12, 5, none⟩)), .oth (fun v => v = .int .u64 ((at0 V 5).toNat : Int)), .oth (fun v => v = .pointer (some ⟨q12, 6, none⟩)), .oth (fun v => v = .int .u64 ((at0 V 6).toNat : Int)), .val rW8 [rL h Wd (t + 1)], .sto q12 rW8 [rL h Wd (t + 1)]] W21z) (fun k => ((u138 :: u139 :: u140 :: u141 :: u142 :: u143 :: u144 :: u145 :: u146 :: u147 :: u148 :: u149 :: u150 :: u151 :: u152 :: u153 :: u154 :: u155 :: undef :: []) : List Value).getD k undef) ?_ (by rfl) Keep.start (holds_soft (by kernel_rfl)) ?_ ?_
          · intro u i v h
            rcases i with _ | _ | _ | _ | _ | _ | _ | _ | _ | _ | _ | _ | _ | _ | _ | _ | _ | _ | _ | i
            all_goals first | (simp [Act.put, putV]; done) | (exfalso; simp at h; omega)
          · intro hs
            refine ⟨?_, ?_, ?_, ?_, ?_, ?_, ?_, ?_, ?_, ?_, ?_, ?_, ?_, ?_, ?_, ?_, ?_, ?_, ?_, trivial⟩
            · exact step_pureO hs (wants_none rfl) rfl fun L u W hG hdep => ⟨_, run_move rfl, HC17.out⟩
            · exact step_pureO hs (wants_none rfl) rfl fun L u W hG hdep => ⟨_, run_move rfl, HC19.out⟩
            · refine step_pureO hs (wants_none rfl) rfl fun L u W hG hdep => ⟨_, ?_, rfl⟩
              have e0 := (show u 0 = .int .u64 ((up (up (up (up (at0 V 7) (ux (ux (rotr (at0 V 4) 14) (rotr (at0 V 4) 18)) (rotr (at0 V 4) 41))) (ux (ua (at0 V 4) (at0 V 5)) (ua (un (at0 V 4)) (at0 V 6)))) (at0 kTab t)) (at0 Wd t)).toNat : Int) from hG 0 (hdep 0 (by kernel_rfl)))
              have e1 := (show u 1 = .int .u64 ((up (ux (ux (rotr (at0 V 0) 28) (rotr (at0 V 0) 34)) (rotr (at0 V 0) 39)) (ux (ux (ua (at0 V 0) (at0 V 1)) (ua (at0 V 0) (at0 V 2))) (ua (at0 V 1) (at0 V 2)))).toNat : Int) from hG 1 (hdep 1 (by kernel_rfl)))
              exact run_up rfl ((show u 0 = .int .u64 ((up (up (up (up (at0 V 7) (ux (ux (rotr (at0 V 4) 14) (rotr (at0 V 4) 18)) (rotr (at0 V 4) 41))) (ux (ua (at0 V 4) (at0 V 5)) (ua (un (at0 V 4)) (at0 V 6)))) (at0 kTab t)) (at0 Wd t)).toNat : Int) from hG 0 (hdep 0 (by kernel_rfl)))) ((show u 1 = .int .u64 ((up (ux (ux (rotr (at0 V 0) 28) (rotr (at0 V 0) 34)) (rotr (at0 V 0) 39)) (ux (ux (ua (at0 V 0) (at0 V 1)) (ua (at0 V 0) (at0 V 2))) (ua (at0 V 1) (at0 V 2)))).toNat : Int) from hG 1 (hdep 1 (by kernel_rfl))))
            · exact step_pureO hs (wants_none rfl) rfl fun L u W hG hdep => ⟨_, run_move rfl, HC14.out⟩
            · refine step_pureO hs (wants_none rfl) rfl fun L u W hG hdep => ⟨_, ?_, rfl⟩
              have e0 := E12.out
              go_simp
              try rw [if_pos (by omega)]
              try rw [show ((1 : Nat) : Int).toNat = 1 by omega]
              try omega
            · exact step_cell q12 1 hs (wants_none rfl) rfl rfl (fun _ h => load_u64 h) (fun L u W hG hdep => (show u 4 = .pointer (some ⟨q12, 1, none⟩) from hG 4 (hdep 4 (by kernel_rfl)))) (HasFs.cellW hmM12 (by omega) rfl) (fun k g hk => by rcases k with _ | _ | _ | _ | _ | _ | _ | _ | _ | _ | _ | _ | _ | _ | _ | _ | _ | _ | _ | k <;> first | (cases hk; done) | (cases hk; exact .inl (by kernel_rfl)))
            · refine step_pureO hs (wants_none rfl) rfl fun L u W hG hdep => ⟨_, ?_, rfl⟩
              have e0 := E12.out
              go_simp
              try rw [if_pos (by omega)]
              try rw [show ((2 : Nat) : Int).toNat = 2 by omega]
              try omega
            · exact step_cell q12 2 hs (wants_none rfl) rfl rfl (fun _ h => load_u64 h) (fun L u W hG hdep => (show u 6 = .pointer (some ⟨q12, 2, none⟩) from hG 6 (hdep 6 (by kernel_rfl)))) (HasFs.cellW hmM12 (by omega) rfl) (fun k g hk => by rcases k with _ | _ | _ | _ | _ | _ | _ | _ | _ | _ | _ | _ | _ | _ | _ | _ | _ | _ | _ | k <;> first | (cases hk; done) | (cases hk; exact .inl (by kernel_rfl)))
            · refine step_pureO hs (wants_none rfl) rfl fun L u W hG hdep => ⟨_, ?_, rfl⟩
              have e0 := E12.out
              go_simp
              try rw [if_pos (by omega)]
              try rw [show ((3 : Nat) : Int).toNat = 3 by omega]
              try omega
            · exact step_cell q12 3 hs (wants_none rfl) rfl rfl (fun _ h => load_u64 h) (fun L u W hG hdep => (show u 8 = .pointer (some ⟨q12, 3, none⟩) from hG 8 (hdep 8 (by kernel_rfl)))) (HasFs.cellW hmM12 (by omega) rfl) (fun k g hk => by rcases k with _ | _ | _ | _ | _ | _ | _ | _ | _ | _ | _ | _ | _ | _ | _ | _ | _ | _ | _ | k <;> first | (cases hk; done) | (cases hk; exact .inl (by kernel_rfl)))
            · exact step_pureO hs (wants_none rfl) rfl fun L u W hG hdep => ⟨_, run_move rfl, HC17.out⟩
            · refine step_pureO hs (wants_none rfl) rfl fun L u W hG hdep => ⟨_, ?_, rfl⟩
              have e0 := (show u 9 = .int .u64 ((at0 V 3).toNat : Int) from hG 9 (hdep 9 (by kernel_rfl)))
              have e1 := (show u 10 = .int .u64 ((up (up (up (up (at0 V 7) (ux (ux (rotr (at0 V 4) 14) (rotr (at0 V 4) 18)) (rotr (at0 V 4) 41))) (ux (ua (at0 V 4) (at0 V 5)) (ua (un (at0 V 4)) (at0 V 6)))) (at0 kTab t)) (at0 Wd t)).toNat : Int) from hG 10 (hdep 10 (by kernel_rfl)))
              exact run_up rfl ((show u 9 = .int .u64 ((at0 V 3).toNat : Int) from hG 9 (hdep 9 (by kernel_rfl)))) ((show u 10 = .int .u64 ((up (up (up (up (at0 V 7) (ux (ux (rotr (at0 V 4) 14) (rotr (at0 V 4) 18)) (rotr (at0 V 4) 41))) (ux (ua (at0 V 4) (at0 V 5)) (ua (un (at0 V 4)) (at0 V 6)))) (at0 kTab t)) (at0 Wd t)).toNat : Int) from hG 10 (hdep 10 (by kernel_rfl))))
            · exact step_pureO hs (wants_none rfl) rfl fun L u W hG hdep => ⟨_, run_move rfl, HC15.out⟩
            · refine step_pureO hs (wants_none rfl) rfl fun L u W hG hdep => ⟨_, ?_, rfl⟩
              have e0 := E12.out
              go_simp
              try rw [if_pos (by omega)]
              try rw [show ((5 : Nat) : Int).toNat = 5 by omega]
              try omega
            · exact step_cell q12 5 hs (wants_none rfl) rfl rfl (fun _ h => load_u64 h) (fun L u W hG hdep => (show u 13 = .pointer (some ⟨q12, 5, none⟩) from hG 13 (hdep 13 (by kernel_rfl)))) (HasFs.cellW hmM12 (by omega) rfl) (fun k g hk => by rcases k with _ | _ | _ | _ | _ | _ | _ | _ | _ | _ | _ | _ | _ | _ | _ | _ | _ | _ | _ | k <;> first | (cases hk; done) | (cases hk; exact .inl (by kernel_rfl)))
            · refine step_pureO hs (wants_none rfl) rfl fun L u W hG hdep => ⟨_, ?_, rfl⟩
              have e0 := E12.out
              go_simp
              try rw [if_pos (by omega)]
              try rw [show ((6 : Nat) : Int).toNat = 6 by omega]
              try omega
            · exact step_cell q12 6 hs (wants_none rfl) rfl rfl (fun _ h => load_u64 h) (fun L u W hG hdep => (show u 15 = .pointer (some ⟨q12, 6, none⟩) from hG 15 (hdep 15 (by kernel_rfl)))) (HasFs.cellW hmM12 (by omega) rfl) (fun k g hk => by rcases k with _ | _ | _ | _ | _ | _ | _ | _ | _ | _ | _ | _ | _ | _ | _ | _ | _ | _ | _ | k <;> first | (cases hk; done) | (cases hk; exact .inl (by kernel_rfl)))
            · refine step_pure hs (wants_none rfl) rfl fun L u W hG hdep => ?_
              rw [← HNV.out]
              exact run_build8W rfl ((show u 2 = .int .u64 ((up (up (up (up (up (at0 V 7) (ux (ux (rotr (at0 V 4) 14) (rotr (at0 V 4) 18)) (rotr (at0 V 4) 41))) (ux (ua (at0 V 4) (at0 V 5)) (ua (un (at0 V 4)) (at0 V 6)))) (at0 kTab t)) (at0 Wd t)) (up (ux (ux (rotr (at0 V 0) 28) (rotr (at0 V 0) 34)) (rotr (at0 V 0) 39)) (ux (ux (ua (at0 V 0) (at0 V 1)) (ua (at0 V 0) (at0 V 2))) (ua (at0 V 1) (at0 V 2))))).toNat : Int) from hG 2 (hdep 2 (by kernel_rfl)))) ((show u 3 = .int .u64 ((at0 V 0).toNat : Int) from hG 3 (hdep 3 (by kernel_rfl)))) ((show u 5 = .int .u64 ((at0 V 1).toNat : Int) from hG 5 (hdep 5 (by kernel_rfl)))) ((show u 7 = .int .u64 ((at0 V 2).toNat : Int) from hG 7 (hdep 7 (by kernel_rfl)))) ((show u 11 = .int .u64 ((up (at0 V 3) (up (up (up (up (at0 V 7) (ux (ux (rotr (at0 V 4) 14) (rotr (at0 V 4) 18)) (rotr (at0 V 4) 41))) (ux (ua (at0 V 4) (at0 V 5)) (ua (un (at0 V 4)) (at0 V 6)))) (at0 kTab t)) (at0 Wd t))).toNat : Int) from hG 11 (hdep 11 (by kernel_rfl)))) ((show u 12 = .int .u64 ((at0 V 4).toNat : Int) from hG 12 (hdep 12 (by kernel_rfl)))) ((show u 14 = .int .u64 ((at0 V 5).toNat : Int) from hG 14 (hdep 14 (by kernel_rfl)))) ((show u 16 = .int .u64 ((at0 V 6).toNat : Int) from hG 16 (hdep 16 (by kernel_rfl))))
            · refine step_storeO q12 8 hs (wants_none rfl) rfl rfl (by kernel_rfl) (fun k hk => ?_) (fun _ => E12.out) (there_lt htM12 (by omega)) htM12 (gives_op 17 rfl (by kernel_rfl) (fun _ => rfl)) tya8 rfl
              rcases k with _ | _ | _ | _ | _ | _ | _ | _ | _ | _ | _ | _ | _ | _ | _ | _ | _ | _ | _ | k
              all_goals first | (exact absurd rfl hk) | (intro e; cases e; done)
          intro L22 u22z W22z hall hJ hG
          have hb : Below w.heap.size W21z W22z := hJ.below (by have := hbel.size; omega) (fun k b hf => by rcases k with _ | _ | _ | _ | _ | _ | _ | _ | _ | _ | _ | _ | _ | _ | _ | _ | _ | _ | _ | k <;> first | (cases hf; done) | (cases hf; omega))
          have hbel := hbel.trans hb
          have hmM2 := hmM2.blk (hJ.block _ (hmM2.lt) (fun k hk => by rcases k with _ | _ | _ | _ | _ | _ | _ | _ | _ | _ | _ | _ | _ | _ | _ | _ | _ | _ | _ | k <;> first | (cases hk; done) | (cases hk; exact absurd rfl (Ne.symm HD12_q2.out))))
          have hmM5 := hmM5.blk (hJ.block _ (hmM5.lt) (fun k hk => by rcases k with _ | _ | _ | _ | _ | _ | _ | _ | _ | _ | _ | _ | _ | _ | _ | _ | _ | _ | _ | k <;> first | (cases hk; done) | (cases hk; exact absurd rfl (Ne.symm HD12_q5.out))))
          have hmM6 := hmM6.blk (hJ.block _ (hmM6.lt) (fun k hk => by rcases k with _ | _ | _ | _ | _ | _ | _ | _ | _ | _ | _ | _ | _ | _ | _ | _ | _ | _ | _ | k <;> first | (cases hk; done) | (cases hk; exact absurd rfl (Ne.symm HD12_q6.out))))
          have htM2 := there_blk htM2 (hJ.block _ (there_lt htM2 (by omega)) (fun k hk => by rcases k with _ | _ | _ | _ | _ | _ | _ | _ | _ | _ | _ | _ | _ | _ | _ | _ | _ | _ | _ | k <;> first | (cases hk; done) | (cases hk; exact absurd rfl (Ne.symm HD12_q2.out))))
          have htM4 := there_blk htM4 (hJ.block _ (there_lt htM4 (by omega)) (fun k hk => by rcases k with _ | _ | _ | _ | _ | _ | _ | _ | _ | _ | _ | _ | _ | _ | _ | _ | _ | _ | _ | k <;> first | (cases hk; done) | (cases hk; exact absurd rfl (Ne.symm HD12_q4.out))))
          have htM5 := there_blk htM5 (hJ.block _ (there_lt htM5 (by omega)) (fun k hk => by rcases k with _ | _ | _ | _ | _ | _ | _ | _ | _ | _ | _ | _ | _ | _ | _ | _ | _ | _ | _ | k <;> first | (cases hk; done) | (cases hk; exact absurd rfl (Ne.symm HD12_q5.out))))
          have htM6 := there_blk htM6 (hJ.block _ (there_lt htM6 (by omega)) (fun k hk => by rcases k with _ | _ | _ | _ | _ | _ | _ | _ | _ | _ | _ | _ | _ | _ | _ | _ | _ | _ | _ | k <;> first | (cases hk; done) | (cases hk; exact absurd rfl (Ne.symm HD12_q6.out))))
          obtain ⟨_, hs22_18t, hs22_18⟩ := (show _ ∧ W22z.there q12 0 8 ∧ HasFs rW8 W22z q12 0 [rL h Wd (t + 1)] from hG 18 (by simp))
          have hbel0 := hbel
          clear hJ hG hall hb
          have hlt := HLT.out
          go_wp2_with fail
          go_roundw
          case rel => exact ⟨t + 1, by omega, by go_num, hmM2, htM2, htM4, hmM5, htM5, hmM6, htM6, hs22_18, hs22_18t, hbel⟩
          case measure => simp [intOf]; omega
        · obtain rfl : t = 80 := by omega
          have hd1 : decide (((80 : Nat) : Int) < 80) = false := by decide
          obtain ⟨V, hV⟩ : ∃ V, V = rL h Wd 80 := ⟨_, rfl⟩
          rw [← hV] at hmM12
          have HV := Lib.hid hV
          clear hV ht
          have HH := Lib.hid hmM2.lenW
          go_wp2_with fail
          go_loopw [157] (fun sk wr => ∃ i : Nat, i ≤ 8 ∧ sk = .int .i64 (i : Int) ∧ HasFs rW8 wr q2 0 [hP h V i] ∧ wr.there q2 0 8 ∧ wr.there q4 0 8 ∧ HasFs rW8 wr q12 0 [V] ∧ wr.there q12 0 8 ∧ Below w.heap.size w wr) (fun x _ => 8 - (intOf x).toNat)
          case atStart => exact ⟨0, by omega, rfl, (by rw [hP_zero _ HH.out]; exact hmM2), htM2, htM4, hmM12, htM12, hbel⟩
          case round =>
            obtain ⟨i, hi, rfl, hnL2, hsL2, hsL4, hnL12, hsL12, hbel'⟩ := hrel
            clear hmM12 hmM2 hmM5 hmM6 htM12 htM2 htM4 htM5 htM6 hbel hbel0
            have hbel := hbel'
            have hbel0 := hbel'
            by_cases hlt : i < 8
            · have hd1' : decide ((i : Int) < 8) = true := decide_eq_true (by omega)
              have HLT := Lib.hid hlt
              clear hlt
              go_upto_region 27 with fail
              clear hd1'
              refine wp_region_mid (fun u => (v0 :: .slice (some ⟨bb, q, none⟩) n cap :: u0z 0 :: undef :: u0z 1 :: u1z 0 :: u2z 1 :: u7 :: u8 :: u9 :: u10 :: u11 :: u13z 1 :: u13 :: u14 :: u15 :: u16 :: u17 :: u18 :: u19 :: .int .i64 (i : Int) :: u2z 0 :: .int .i64 ((80 : Nat) : Int) :: .bool false :: u24 :: u25 :: u26 :: u27 :: u28 :: u29 :: u30 :: u31 :: u32 :: u33 :: u34 :: u35 :: u36 :: u37 :: u38 :: u39 :: u40 :: u41 :: u42 :: u43 :: u44 :: u45 :: u46 :: u47 :: u48 :: u49 :: u50 :: u51 :: u52 :: u53 :: u54 :: u55 :: u56 :: u57 :: u58 :: u59 :: u60 :: u61 :: u62 :: u63 :: u64 :: u65 :: u66 :: u67 :: u68 :: u69 :: u70 :: u71 :: u72 :: u73 :: u13z 0 :: .int .i64 ((80 : Nat) : Int) :: .bool false :: u77 :: u78 :: u79 :: u80 :: u81 :: u82 :: u83 :: u84 :: u85 :: u86 :: u87 :: u88 :: u89 :: u90 :: u91 :: u92 :: u93 :: u94 :: u95 :: u96 :: u97 :: u98 :: u99 :: u100 :: u101 :: u102 :: u103 :: u104 :: u105 :: u106 :: u107 :: u108 :: u109 :: u110 :: u111 :: u112 :: u113 :: u114 :: u115 :: u116 :: u117 :: u118 :: u119 :: u120 :: u121 :: u122 :: u123 :: u124 :: u125 :: u126 :: u127 :: u128 :: u129 :: u130 :: u131 :: u132 :: u133 :: u134 :: u135 :: u136 :: u137 :: u138 :: u139 :: u140 :: u141 :: u142 :: u143 :: u144 :: u145 :: u146 :: u147 :: u148 :: u149 :: u150 :: u151 :: u152 :: u153 :: u154 :: u155 :: u156 :: .int .i64 (i : Int) :: .bool true :: .int .i64 (i : Int) :: u 0 :: u 1 :: u 2 :: u 3 :: u 4 :: u 5 :: u 6 :: u 7 :: u168 :: undef :: []).toArray) (Holds [.oth (fun v => v = .int .i64 (i : Int)), .oth (fun v => v = .pointer (some ⟨q2, i, none⟩)), .oth (fun v => v = .int .u64 ((at0 h i).toNat : Int)), .oth (fun v => v = .int .i64 (i : Int)), .oth (fun v => v = .pointer (some ⟨q12, i, none⟩)), .oth (fun v => v = .int .u64 ((at0 V i).toNat : Int)), .oth (fun v => v = .int .u64 ((up (at0 h i) (at0 V i)).toNat : Int)), .oth (fun v => v = .pointer (some ⟨q2, i, none⟩)), .cst q2 i (.int .u64 ((up (at0 h i) (at0 V i)).toNat : Int))] wr) (Keep [.oth (fun v => v = .int .i64 (i : Int)), .oth (fun v => v = .pointer (some ⟨q2, i, none⟩)), .oth (fun v => v = .int .u64 ((at0 h i).toNat : Int)), .oth (fun v => v = .int .i64 (i : Int)), .oth (fun v => v = .pointer (some ⟨q12, i, none⟩)), .oth (fun v => v = .int .u64 ((at0 V i).toNat : Int)), .oth (fun v => v = .int .u64 ((up (at0 h i) (at0 V i)).toNat : Int)), .oth (fun v => v = .pointer (some ⟨q2, i, none⟩)), .cst q2 i (.int .u64 ((up (at0 h i) (at0 V i)).toNat : Int))] wr) (fun k => ((u160 :: u161 :: u162 :: u163 :: u164 :: u165 :: u166 :: u167 :: undef :: []) : List Value).getD k undef) (by kernel_rfl) (by kernel_rfl) ?_ (by rfl) Keep.drew (holds_soft (by kernel_rfl)) ?_ ?_
              · intro u i v h
                rcases i with _ | _ | _ | _ | _ | _ | _ | _ | _ | i
                all_goals first | (simp [Act.put, putV]; done) | (exfalso; simp at h; omega)
              · intro hs
                refine ⟨?_, ?_, ?_, ?_, ?_, ?_, ?_, ?_, ?_, trivial⟩
                · exact step_pureO hs (wants_none rfl) rfl fun L u W hG hdep => ⟨_, run_move rfl, rfl⟩
                · refine step_pureO hs (wants_none rfl) rfl fun L u W hG hdep => ⟨_, ?_, rfl⟩
                  have e0 := E2.out
                  have e1 := (show u 0 = .int .i64 (i : Int) from hG 0 (hdep 0 (by kernel_rfl)))
                  have hltx := HLT.out
                  go_simp
                  try rw [if_pos (by omega)]
                  try rw [show ((i : Nat) : Int).toNat = i by omega]
                  try omega
                · exact step_cell q2 i hs (wants_none rfl) rfl rfl (fun _ h => load_u64 h) (fun L u W hG hdep => (show u 1 = .pointer (some ⟨q2, i, none⟩) from hG 1 (hdep 1 (by kernel_rfl)))) (HasFs.cellW hnL2 HLT.out (hP_at HLT.out)) (fun k g hk => by rcases k with _ | _ | _ | _ | _ | _ | _ | _ | _ | k <;> first | (cases hk; done) | (cases hk; exact .inl (by kernel_rfl)))
                · exact step_pureO hs (wants_none rfl) rfl fun L u W hG hdep => ⟨_, run_move rfl, rfl⟩
                · refine step_pureO hs (wants_none rfl) rfl fun L u W hG hdep => ⟨_, ?_, rfl⟩
                  have e0 := E12.out
                  have e1 := (show u 3 = .int .i64 (i : Int) from hG 3 (hdep 3 (by kernel_rfl)))
                  have hltx := HLT.out
                  go_simp
                  try rw [if_pos (by omega)]
                  try rw [show ((i : Nat) : Int).toNat = i by omega]
                  try omega
                · exact step_cell q12 i hs (wants_none rfl) rfl rfl (fun _ h => load_u64 h) (fun L u W hG hdep => (show u 4 = .pointer (some ⟨q12, i, none⟩) from hG 4 (hdep 4 (by kernel_rfl)))) (HasFs.cellW hnL12 HLT.out rfl) (fun k g hk => by rcases k with _ | _ | _ | _ | _ | _ | _ | _ | _ | k <;> first | (cases hk; done) | (cases hk; exact .inr HD12_q2.out))
                · refine step_pureO hs (wants_none rfl) rfl fun L u W hG hdep => ⟨_, ?_, rfl⟩
                  have e0 := (show u 2 = .int .u64 ((at0 h i).toNat : Int) from hG 2 (hdep 2 (by kernel_rfl)))
                  have e1 := (show u 5 = .int .u64 ((at0 V i).toNat : Int) from hG 5 (hdep 5 (by kernel_rfl)))
                  exact run_up rfl ((show u 2 = .int .u64 ((at0 h i).toNat : Int) from hG 2 (hdep 2 (by kernel_rfl)))) ((show u 5 = .int .u64 ((at0 V i).toNat : Int) from hG 5 (hdep 5 (by kernel_rfl))))
                · refine step_pureO hs (wants_none rfl) rfl fun L u W hG hdep => ⟨_, ?_, rfl⟩
                  have e0 := E2.out
                  have e1 := (show u 0 = .int .i64 (i : Int) from hG 0 (hdep 0 (by kernel_rfl)))
                  have hltx := HLT.out
                  go_simp
                  try rw [if_pos (by omega)]
                  try rw [show ((i : Nat) : Int).toNat = i by omega]
                  try omega
                · refine step_cst (old := .int .u64 ((at0 h i).toNat : Int)) q2 i hs (wants_none rfl) rfl rfl (by kernel_rfl) (fun k hk => ?_) (fun _ h1 h2 => store_u64 h1 h2) (fun L u W hG hdep => (show u 7 = .pointer (some ⟨q2, i, none⟩) from hG 7 (hdep 7 (by kernel_rfl)))) (fun L u W hG hdep => (show u 6 = .int .u64 ((up (at0 h i) (at0 V i)).toNat : Int) from hG 6 (hdep 6 (by kernel_rfl)))) (HasFs.cellW hnL2 HLT.out (hP_at HLT.out)) (there_frozen hsL2 HLT.out)
                  rcases k with _ | _ | _ | _ | _ | _ | _ | _ | _ | k
                  all_goals first | (exact absurd rfl hk) | (intro e; cases e; done)
              intro L27 u27z W27z hall hJ hG
              have hb : Below w.heap.size wr W27z := hJ.below (by have := hbel.size; omega) (fun k b hf => by rcases k with _ | _ | _ | _ | _ | _ | _ | _ | _ | k <;> first | (cases hf; done) | (cases hf; omega))
              have hbel := hbel.trans hb
              have hnL2 : HasFs rW8 W27z q2 0 [hP h V (i + 1)] := by
                have z := (hnL2.setW hsL2 HLT.out (up (at0 h i) (at0 V i))).blk (show _ ∧ W27z.heap[q2]? = (wr.setCell ⟨q2, i, none⟩ (.int .u64 ((up (at0 h i) (at0 V i)).toNat : Int))).heap[q2]? from hG 8 (by simp)).2
                rw [hP_set] at z
                exact z
              have hnL12 := hnL12.blk (hJ.block _ (hnL12.lt) (fun k hk => by rcases k with _ | _ | _ | _ | _ | _ | _ | _ | _ | k <;> first | (cases hk; done) | (cases hk; exact absurd rfl HD12_q2.out)))
              have hsL2 := there_blk (there_set (b := q2) (k := i) (v := .int .u64 ((up (at0 h i) (at0 V i)).toNat : Int)) hsL2) (show _ ∧ W27z.heap[q2]? = (wr.setCell ⟨q2, i, none⟩ (.int .u64 ((up (at0 h i) (at0 V i)).toNat : Int))).heap[q2]? from hG 8 (by simp)).2
              have hsL4 := there_blk hsL4 (hJ.block _ (there_lt hsL4 (by omega)) (fun k hk => by rcases k with _ | _ | _ | _ | _ | _ | _ | _ | _ | k <;> first | (cases hk; done) | (cases hk; exact absurd rfl HN2_4.out)))
              have hsL12 := there_blk hsL12 (hJ.block _ (there_lt hsL12 (by omega)) (fun k hk => by rcases k with _ | _ | _ | _ | _ | _ | _ | _ | _ | k <;> first | (cases hk; done) | (cases hk; exact absurd rfl HD12_q2.out)))
              have hbel0 := hbel
              clear hJ hG hall hb
              have hlt := HLT.out
              go_wp2_with fail
              go_roundw
              case rel => exact ⟨i + 1, by omega, by go_num, hnL2, hsL2, hsL4, hnL12, hsL12, hbel⟩
              case measure => simp [intOf]; omega
            · obtain rfl : i = 8 := by omega
              have hd1' : decide (((8 : Nat) : Int) < 8) = false := by decide
              have HT : Hid (hP h V 8 = turn h (words l)) := Lib.hid (by rw [hP_full, HV.out, HWD.out]; rfl)
              clear hi
              rw [HT.out] at hnL2
              go_upto_region 29 with fail
              clear hd1'
              refine wp_region_turn (fun u => (v0 :: .slice (some ⟨bb, q, none⟩) n cap :: u0z 0 :: undef :: u0z 1 :: u1z 0 :: u2z 1 :: u7 :: u8 :: u9 :: u10 :: u11 :: u13z 1 :: u13 :: u14 :: u15 :: u16 :: u17 :: u18 :: u19 :: u20 :: u2z 0 :: .int .i64 ((80 : Nat) : Int) :: .bool false :: u24 :: u25 :: u26 :: u27 :: u28 :: u29 :: u30 :: u31 :: u32 :: u33 :: u34 :: u35 :: u36 :: u37 :: u38 :: u39 :: u40 :: u41 :: u42 :: u43 :: u44 :: u45 :: u46 :: u47 :: u48 :: u49 :: u50 :: u51 :: u52 :: u53 :: u54 :: u55 :: u56 :: u57 :: u58 :: u59 :: u60 :: u61 :: u62 :: u63 :: u64 :: u65 :: u66 :: u67 :: u68 :: u69 :: u70 :: u71 :: u72 :: u73 :: u13z 0 :: .int .i64 ((80 : Nat) : Int) :: .bool false :: u77 :: u78 :: u79 :: u80 :: u81 :: u82 :: u83 :: u84 :: u85 :: u86 :: u87 :: u88 :: u89 :: u90 :: u91 :: u92 :: u93 :: u94 :: u95 :: u96 :: u97 :: u98 :: u99 :: u100 :: u101 :: u102 :: u103 :: u104 :: u105 :: u106 :: u107 :: u108 :: u109 :: u110 :: u111 :: u112 :: u113 :: u114 :: u115 :: u116 :: u117 :: u118 :: u119 :: u120 :: u121 :: u122 :: u123 :: u124 :: u125 :: u126 :: u127 :: u128 :: u129 :: u130 :: u131 :: u132 :: u133 :: u134 :: u135 :: u136 :: u137 :: u138 :: u139 :: u140 :: u141 :: u142 :: u143 :: u144 :: u145 :: u146 :: u147 :: u148 :: u149 :: u150 :: u151 :: u152 :: u153 :: u154 :: u155 :: u156 :: .int .i64 ((8 : Nat) : Int) :: .bool false :: u159 :: u160 :: u161 :: u162 :: u163 :: u164 :: u165 :: u166 :: u167 :: u168 :: u 0 :: []).toArray) (Holds [.val rW8 [turn h (words l)], .sto q4 rW8 [turn h (words l)]] wr) (Keep [.val rW8 [turn h (words l)], .sto q4 rW8 [turn h (words l)]] wr) (fun _ => undef) ?_ (by rfl) Keep.start (holds_soft (by kernel_rfl)) ?_ ?_
              · intro u i v h
                rcases i with _ | _ | i
                all_goals first | (simp [Act.put, putV]; done) | (exfalso; simp at h; omega)
              · intro hs
                refine ⟨?_, ?_, trivial⟩
                · exact step_load q2 0 hs (wants_none rfl) rfl rfl tya8 (fun _ => E2.out) hnL2.lt hnL2 (fun k g hk => by rcases k with _ | _ | k <;> first | (cases hk; done) | (cases hk; exact .inr (Ne.symm HN2_4.out)))
                · refine step_storeO q4 8 hs (wants_none rfl) rfl rfl (by kernel_rfl) (fun k hk => ?_) (fun _ => E4.out) (there_lt hsL4 (by omega)) hsL4 (gives_op 0 rfl (by kernel_rfl) (fun _ => rfl)) tya8 rfl
                  rcases k with _ | _ | k
                  all_goals first | (exact absurd rfl hk) | (intro e; cases e; done)
              intro L29 u29z W29z hall hJ hG
              have hb : Below w.heap.size wr W29z := hJ.below (by have := hbel.size; omega) (fun k b hf => by rcases k with _ | _ | k <;> first | (cases hf; done) | (cases hf; omega))
              have hbel := hbel.trans hb
              have hnL2 := hnL2.blk (hJ.block _ (hnL2.lt) (fun k hk => by rcases k with _ | _ | k <;> first | (cases hk; done) | (cases hk; exact absurd rfl (Ne.symm HN2_4.out))))
              have hnL12 := hnL12.blk (hJ.block _ (hnL12.lt) (fun k hk => by rcases k with _ | _ | k <;> first | (cases hk; done) | (cases hk; exact absurd rfl HD12_q4.out)))
              have hsL2 := there_blk hsL2 (hJ.block _ (there_lt hsL2 (by omega)) (fun k hk => by rcases k with _ | _ | k <;> first | (cases hk; done) | (cases hk; exact absurd rfl (Ne.symm HN2_4.out))))
              have hsL12 := there_blk hsL12 (hJ.block _ (there_lt hsL12 (by omega)) (fun k hk => by rcases k with _ | _ | k <;> first | (cases hk; done) | (cases hk; exact absurd rfl HD12_q4.out)))
              obtain ⟨_, hs29_1t, hs29_1⟩ := (show _ ∧ W29z.there q4 0 8 ∧ HasFs rW8 W29z q4 0 [turn h (words l)] from hG 1 (by simp))
              have hbel0 := hbel
              clear hJ hG hall hb
              go_wp2
              exact ret_cell1 (R := rW8) Try.results62 (by exact E4.out) hs29_1 tya8 rfl (fun r hr => ⟨r, rfl, hr, hbel⟩)
end Go.Proofs.Ytielgpefoameiaa
namespace Go.Proofs.Ytielgpefoameiaa
open Go Go.RowKit
theorem padB_len (l : List UInt8) : (padB l).length = l.length + 1 + (240 - (l.length + 1) % 128) % 128 + 8 + 8 := by
  unfold padB be8; simp [leB_len]; omega
set_option maxRecDepth 100000 in
set_option maxHeartbeats 4000000 in
theorem pad_any {a : Option Addr} {n cap : Nat} {l : List UInt8} (w : World) (h : RdB w a n cap l) (hm : n ≤ 4294967296) :
    Calls Try.prog 61 #[.slice a n cap, .int .u64 (n : Int), .int .i64 128] w fun e w' => ∃ v, e = .returned v ∧ w'.ownsRow w.heap.size 5 1 v (padB l).length ((padB l).map bV) ∧ Below w.heap.size w w' := by
  have HL := Lib.hid h.hlen
  have HH := Lib.hid h
  obtain ⟨K, hK⟩ : ∃ K : Nat, K = (240 - (n + 1) % 128) % 128 := ⟨_, rfl⟩
  have HK := Lib.hid hK
  have e8 : IntKind.u64.wrap (8 * (n : Int)) = (((UInt64.ofNat (8 * n)).toNat : Nat) : Int) := by rw [IntKind.wrap_u64, UInt64.toNat_ofNat']; omega
  have HP : Hid ((l ++ [128] ++ List.replicate K 0 ++ List.replicate 8 0 ++ be8 (UInt64.ofNat (8 * n))) = padB l) := Lib.hid (by unfold padB; rw [← HL.out] at *; rw [← hK]; simp)
  clear h hK
  generalize UInt64.ofNat (8 * n) = X at *
  go_enter Try.func61, Try.ntmps61
  go_upto_region 2 with (first | (go_at_call 39; go_must (refine (clone_own _ HH.out (by omega)).mono ?_; rintro e w1 ⟨v0, rfl, ho, hb⟩; have HO := Lib.hid ho; have hbel := hb; clear ho hb)) | (at_builtin; go_must (refine app_bytes _ rfl (.tmp 10) (.tmp 11) rfl w.heap.size _ n l rfl (HO.out.alloc _) _ 1 1 [128] rfl (RdB.blk (g := w1.heap.size) [] (Blk.new w1 #[.int .u8 128] 5) rfl (by omega) (by unfold maxLen; omega)) (by omega) (by have := hbel.size; simp; omega) w (by exact (by repeat (first | (with_reducible refine Below.alloc' ?_ _) | (with_reducible refine Below.drew ?_) | (with_reducible refine below_drewN ?_ _) | ((with_reducible refine Below.setCell ?_ ?_ _); rotate_left; (focus (first | exact Nat.le_refl _ | (simp; done) | (simp; omega)))) | (with_reducible assumption) | (with_reducible exact Below.refl _ _)))) ?_; intro v1 w2 ho hb2; have HO1 := Lib.hid ho; clear ho)))
  have hn0 : (0 : Int) ≤ (n : Int) := by omega
  have hn1 : (n : Int) ≤ 4294967296 := by omega
  rcases HO1.out.2 with ⟨_, h0⟩ | ⟨g, c1, cur, rfl, hr⟩
  · omega
  clear hr
  have h26b : (240 - ((n : Int) + 1) % 128) % 128 = (K : Int) := by have := HK.out; omega
  have HB2 := Lib.hid (show w.heap.size ≤ w2.heap.size from hb2.size)
  have HK2 : Hid (K < 128) := Lib.hid (by have := HK.out; omega)
  clear hbel
  go_upto_region 4 with (at_builtin; go_must (refine app_zeros _ rfl (.tmp 15) (.tmp 26) rfl w.heap.size _ (n + 1) (l ++ [128]) rfl HO1.out K (congrArg (Value.int IntKind.i64) h26b) (by have := HK2.out; omega) HB2.out w hb2 ?_; intro v2 w3 ho hb3; have HO2 := Lib.hid ho; clear ho))
  clear h26b hb2 HB2 HO1
  go_upto_region 5 with (at_builtin; go_must (refine app_zeros _ rfl (.tmp 28) (.tmp 30) rfl w.heap.size _ (n + 1 + K) (l ++ [128] ++ List.replicate K 0) rfl HO2.out 8 rfl (by have := HK2.out; omega) hb3.size w hb3 ?_; intro v3 w4 ho hb4; have HO3 := Lib.hid ho; clear ho))
  clear hb3 HO2
  go_wp2_with (first | (go_at_call 63; go_must (refine (put64_any (x := X) _).mono ?_; rintro e w5 ⟨rfl, hB, hb⟩; have hb5 := Below.call hb4 hb; have HO4 := Lib.hid (own_below HO3.out hb); have HB := Lib.hid (RdB.blk (n := 8) (cap := 8) (l := be8 X) [] (by rw [List.append_nil]; exact hB) (by unfold be8; rw [List.length_reverse, leB_len]) (by omega) (by unfold maxLen; omega)); clear hB hb)) | (at_builtin; go_must (refine app_bytes _ rfl (.tmp 32) (.tmp 35) rfl w.heap.size _ (n + 1 + K + 8) (l ++ [128] ++ List.replicate K 0 ++ List.replicate 8 0) rfl HO4.out _ 8 8 (be8 X) rfl HB.out (by have := HK2.out; omega) hb5.size w hb5 ?_; intro v4 w6 ho hb6; have HO5 := Lib.hid ho; clear ho)))
  go_ret
  have hl : (padB l).length = n + 1 + K + 8 + 8 := by rw [padB_len, HL.out, HK.out]
  exact ⟨v4, rfl, by rw [hl, ← HP.out]; exact HO5.out, hb6⟩
end Go.Proofs.Ytielgpefoameiaa
namespace Go.Proofs.Ytielgpefoameiaa
open Go Go.RowKit
theorem ix8_0 (a b c d e f g h : UInt64) (w : World) : (Instr.index 83 (.agg #[.int .u64 ((a).toNat : Int), .int .u64 ((b).toNat : Int), .int .u64 ((c).toNat : Int), .int .u64 ((d).toNat : Int), .int .u64 ((e).toNat : Int), .int .u64 ((f).toNat : Int), .int .u64 ((g).toNat : Int), .int .u64 ((h).toNat : Int)]) (.int .i64 0)).run Try.prog w = .ok (.int .u64 ((a).toNat : Int)) w := by kernel_rfl
theorem ix8_1 (a b c d e f g h : UInt64) (w : World) : (Instr.index 83 (.agg #[.int .u64 ((a).toNat : Int), .int .u64 ((b).toNat : Int), .int .u64 ((c).toNat : Int), .int .u64 ((d).toNat : Int), .int .u64 ((e).toNat : Int), .int .u64 ((f).toNat : Int), .int .u64 ((g).toNat : Int), .int .u64 ((h).toNat : Int)]) (.int .i64 1)).run Try.prog w = .ok (.int .u64 ((b).toNat : Int)) w := by kernel_rfl
theorem ix8_2 (a b c d e f g h : UInt64) (w : World) : (Instr.index 83 (.agg #[.int .u64 ((a).toNat : Int), .int .u64 ((b).toNat : Int), .int .u64 ((c).toNat : Int), .int .u64 ((d).toNat : Int), .int .u64 ((e).toNat : Int), .int .u64 ((f).toNat : Int), .int .u64 ((g).toNat : Int), .int .u64 ((h).toNat : Int)]) (.int .i64 2)).run Try.prog w = .ok (.int .u64 ((c).toNat : Int)) w := by kernel_rfl
theorem ix8_3 (a b c d e f g h : UInt64) (w : World) : (Instr.index 83 (.agg #[.int .u64 ((a).toNat : Int), .int .u64 ((b).toNat : Int), .int .u64 ((c).toNat : Int), .int .u64 ((d).toNat : Int), .int .u64 ((e).toNat : Int), .int .u64 ((f).toNat : Int), .int .u64 ((g).toNat : Int), .int .u64 ((h).toNat : Int)]) (.int .i64 3)).run Try.prog w = .ok (.int .u64 ((d).toNat : Int)) w := by kernel_rfl
theorem ix8_4 (a b c d e f g h : UInt64) (w : World) : (Instr.index 83 (.agg #[.int .u64 ((a).toNat : Int), .int .u64 ((b).toNat : Int), .int .u64 ((c).toNat : Int), .int .u64 ((d).toNat : Int), .int .u64 ((e).toNat : Int), .int .u64 ((f).toNat : Int), .int .u64 ((g).toNat : Int), .int .u64 ((h).toNat : Int)]) (.int .i64 4)).run Try.prog w = .ok (.int .u64 ((e).toNat : Int)) w := by kernel_rfl
theorem ix8_5 (a b c d e f g h : UInt64) (w : World) : (Instr.index 83 (.agg #[.int .u64 ((a).toNat : Int), .int .u64 ((b).toNat : Int), .int .u64 ((c).toNat : Int), .int .u64 ((d).toNat : Int), .int .u64 ((e).toNat : Int), .int .u64 ((f).toNat : Int), .int .u64 ((g).toNat : Int), .int .u64 ((h).toNat : Int)]) (.int .i64 5)).run Try.prog w = .ok (.int .u64 ((f).toNat : Int)) w := by kernel_rfl
theorem ix8_6 (a b c d e f g h : UInt64) (w : World) : (Instr.index 83 (.agg #[.int .u64 ((a).toNat : Int), .int .u64 ((b).toNat : Int), .int .u64 ((c).toNat : Int), .int .u64 ((d).toNat : Int), .int .u64 ((e).toNat : Int), .int .u64 ((f).toNat : Int), .int .u64 ((g).toNat : Int), .int .u64 ((h).toNat : Int)]) (.int .i64 6)).run Try.prog w = .ok (.int .u64 ((g).toNat : Int)) w := by kernel_rfl
theorem ix8_7 (a b c d e f g h : UInt64) (w : World) : (Instr.index 83 (.agg #[.int .u64 ((a).toNat : Int), .int .u64 ((b).toNat : Int), .int .u64 ((c).toNat : Int), .int .u64 ((d).toNat : Int), .int .u64 ((e).toNat : Int), .int .u64 ((f).toNat : Int), .int .u64 ((g).toNat : Int), .int .u64 ((h).toNat : Int)]) (.int .i64 7)).run Try.prog w = .ok (.int .u64 ((h).toNat : Int)) w := by kernel_rfl
theorem index8 {L : List UInt64} (hl : L.length = 8) (k : Nat) (hk : k < 8) (w : World) : (Instr.index 83 (.agg (L.map uI).toArray) (.int .i64 (k : Int))).run Try.prog w = .ok (.int .u64 ((at0 L k).toNat : Int)) w := by
  match L, hl with
  | [a, b, c, d, e, f, g, h], _ =>
    match k, hk with
    | 0, _ => exact ix8_0 a b c d e f g h w
    | 1, _ => exact ix8_1 a b c d e f g h w
    | 2, _ => exact ix8_2 a b c d e f g h w
    | 3, _ => exact ix8_3 a b c d e f g h w
    | 4, _ => exact ix8_4 a b c d e f g h w
    | 5, _ => exact ix8_5 a b c d e f g h w
    | 6, _ => exact ix8_6 a b c d e f g h w
    | 7, _ => exact ix8_7 a b c d e f g h w
theorem of_isW8 {v : Value} {L : List UInt64} (h : IsFs rW8 v [L]) : v = .agg (L.map uI).toArray ∧ L.length = 8 := by
  obtain ⟨cs, rfl, hc⟩ := h
  obtain ⟨hl, rfl⟩ := Lims.of_single hc
  exact ⟨rfl, hl⟩
/-- The first k words' bytes. -/
def outK (L : List UInt64) (k : Nat) : List UInt8 := ((List.range k).map fun i => be8 (at0 L i)).flatten
theorem outK_succ (L : List UInt64) (k : Nat) : outK L (k + 1) = outK L k ++ be8 (at0 L k) := by
  unfold outK; rw [List.range_succ]; simp
theorem be8_len (x : UInt64) : (be8 x).length = 8 := by unfold be8; rw [List.length_reverse, leB_len]
theorem outK_len (L : List UInt64) : ∀ k, (outK L k).length = 8 * k
  | 0 => rfl
  | k + 1 => by rw [outK_succ, List.length_append, be8_len, outK_len L k]; omega
theorem padB_blocks (l : List UInt8) : (padB l).length = 128 * ((padB l).length / 128) ∧ 0 < (padB l).length / 128 := by
  rw [padB_len]; omega
theorem sha512_out (l : List UInt8) : outK (hSt (padB l) ((padB l).length / 128)) 8 = sha512 l := rfl
theorem sha512_len (l : List UInt8) : (sha512 l).length = 64 := by rw [← sha512_out, outK_len]
theorem pad_blk {a : Option Addr} {n cap M : Nat} {l P : List UInt8} {w : World} (h : RdB w a n cap l) (hm : n ≤ 1000000) (hP : padB l = P) (hM : P.length = 128 * M) (hM0 : 0 < M) :
    Calls Try.prog 61 #[.slice a n cap, .int .u64 (n : Int), .int .i64 128] w fun e w' => ∃ g c r, e = .returned (.slice (some ⟨g, 0, none⟩) (128 * M) c) ∧ w.heap.size ≤ g ∧ Blk w' g (P.map bV ++ r) 5 ∧ 128 * M ≤ c ∧ c ≤ maxLen ∧ Below w.heap.size w w' := by
  refine (pad_any w h (by omega)).mono ?_
  rintro e w' ⟨v, rfl, ho, hb⟩
  rw [hP, hM] at ho
  obtain ⟨g, c, r, rfl, hg, hB, _, hc, hm⟩ := own_rdb ho (by omega)
  exact ⟨g, c, r, rfl, hg, hB, hc, hm, hb⟩
theorem rd_at {W : World} {g k m c : Nat} {P : List UInt8} {r : List Value} (hB : Blk W g (P.map bV ++ r) 5) (hl : (P.drop k).length = m) (hc : m ≤ c) (hm : c ≤ maxLen) : RdB W (some ⟨g, k, none⟩) m c (P.drop k) := by
  refine ⟨hl, hc, hm, fun j hj => ⟨g, k, rfl, ?_⟩, fun h => by cases h⟩
  have hj2 := hj
  rw [List.length_drop] at hj2
  rw [hB.cell, List.getElem?_append_left (by rw [List.length_map]; omega), List.getElem?_map, List.getElem?_eq_getElem (by omega), List.getElem_drop]; rfl
set_option maxRecDepth 100000 in
set_option maxHeartbeats 400000 in
theorem sum512_walk {a : Option Addr} {n cap N M : Nat} {ls : List (List UInt8)} {l P : List UInt8} {w : World} (h : RdRows w a n cap ls) (hl : ls.flatten = l) (hN : l.length = N) (hs : N ≤ 1000000) (hP : padB l = P) (hM : P.length = 128 * M) (hM0 : 0 < M) (hM1 : M ≤ 10000) :
    Calls Try.prog 32 #[.slice a n cap] w (NewB w (outK (hSt P M) 8)) := by
  have HS := Lib.hid hs
  have HLF := Lib.hid hl
  have HR := Lib.hid h
  have HN := Lib.hid hN
  have HP := Lib.hid hP
  have HM := Lib.hid hM
  have HM0 := Lib.hid hM0
  have HM1 := Lib.hid hM1
  clear h hl hs hN hP hM hM0 hM1
  go_enter Try.func32, Try.ntmps32
  go_upto_region 2 with (go_at_call 25; go_must (refine (cat_any _ HR.out (by rw [HLF.out, HN.out]; have := HS.out; omega)).mono ?_; rintro e w1 ⟨v, rfl, ho, hb⟩; (rw [HLF.out, HN.out] at ho); obtain ⟨a1, c1, rfl, hr1, _⟩ := own_sl ho; have HR1 := Lib.hid hr1; have hbel := hb; clear ho hb hr1))
  have hbel0 := hbel
  have hNm : (N : Int) ≤ 1000000 := by have := HS.out; omega
  refine wp_region_turn (fun u => #[.slice a n cap, undef, .slice none 0 0, .slice a1 N c1, u 1, undef, undef, undef, .slice a n cap, .slice a1 N c1, u 0, undef, undef, undef, undef, undef, undef, undef, undef, undef, undef, undef, undef, undef, undef, undef, undef, undef, undef, undef, undef, undef, undef, undef]) (Holds [.val rW8 [hTab], .new 8, .st 1 rW8 [hTab]] w1) (Keep [.val rW8 [hTab], .new 8, .st 1 rW8 [hTab]] w1) (fun _ => undef) ?_ (by rfl) Keep.start (holds_soft (by kernel_rfl)) ?_ ?_
  · intro u i v h
    rcases i with _ | _ | _ | i
    all_goals first | (simp [Act.put, putV]; done) | (exfalso; simp at h; omega)
  · intro hs
    refine ⟨?_, ?_, ?_, trivial⟩
    · refine step_call hs (wants_none rfl) rfl fun L u W hJ hG hL hdep K hK => ?_
      go_simp
      go_at_call 60
      (with_reducible refine (start_any _).mono ?_); rintro e w1 ⟨r, rfl, hr, hb⟩
      have hk := hK.out _ _ hr hb
      exact hk
    · exact step_alloc hs (wants_none rfl) rfl rfl (by omega) rfl alloca8
    · exact step_store 1 hs (by kernel_rfl) (wants_none rfl) rfl rfl rfl (by kernel_rfl) (by kernel_rfl) (by kernel_rfl) (by kernel_rfl) (fun _ => rfl) (gives_op 0 rfl (by kernel_rfl) (fun _ => rfl)) tya8 rfl
  intro L2 u2z W2z hall hJ hG
  obtain ⟨q4, e4, hq4, _, ht4⟩ := (show ∃ g, u2z 1 = .pointer (some ⟨g, 0, none⟩) ∧ w1.heap.size ≤ g ∧ 0 < 8 ∧ W2z.there g 0 8 from hG 1 (by simp))
  have hm4 : HasFs rW8 W2z q4 0 [hTab] := by
    obtain ⟨g, e, _, h⟩ := (show ∃ g, u2z 1 = .pointer (some ⟨g, 0, none⟩) ∧ w1.heap.size ≤ g ∧ HasFs rW8 W2z g 0 [hTab] from hG 2 (by simp))
    rw [e4] at e; cases e; exact h
  have hq4 : w.heap.size ≤ q4 := by have := hbel0.size; omega
  have E4 := Lib.hid e4; clear e4
  have hb := hJ.all rfl
  have HBW := Lib.hid hb
  have hbel := Below.call hbel hb
  have hbel0 := hbel
  clear hJ hG hall hb
  have HBR := Lib.hid HBW.out
  clear hbel0
  go_upto_region 4 with (go_at_call 61; go_must (refine (pad_blk (HR1.out.below HBR.out) HS.out HP.out HM.out HM0.out).mono ?_; rintro e w3 ⟨g5, c5, r5, rfl, hg5, hB5, hc5, hm5, hb3⟩))
  have HNE : Hid (q4 ≠ g5) := Lib.hid (by have := hm4.lt; omega)
  have hmQ := hm4.later hb3
  have htQ := there_later ht4 hb3
  have hbel := Below.call hbel hb3
  have hG5 := Lib.hid hg5
  clear hb3 hm4 ht4 hg5
  have hpm : (128 * M : Nat) ≤ 1280000 := by have := HM1.out; omega
  go_loopw [5] (fun b wr => ∃ i off c m : Nat, i ≤ M ∧ m = 128 * (M - i) ∧ b = .slice (some ⟨g5, off, none⟩) m c ∧ (i < M → off = 128 * i) ∧ m ≤ c ∧ c ≤ maxLen ∧ Blk wr g5 (P.map bV ++ r5) 5 ∧ HasFs rW8 wr q4 0 [hSt P i] ∧ wr.there q4 0 8 ∧ Below w.heap.size w wr) (fun b _ => match b with | .slice _ k _ => k | _ => 0)
  case atStart => exact ⟨0, 0, c5, 128 * M, by omega, by rw [Nat.sub_zero], rfl, fun _ => rfl, hc5, hm5, hB5, hmQ, htQ, hbel⟩
  case round =>
    obtain ⟨i, off, c, m, hi, hm, rfl, hoff, hc, hmx, hB, hmL4, htL4, hbel'⟩ := hrel
    clear hB5 hmQ htQ hbel hm5 hc5
    have hbel := hbel'
    have hbel0 := hbel'
    by_cases hlt : i < M
    · obtain rfl := hoff hlt
      have HI := Lib.hid hlt
      have hpos : (0 : Int) < (m : Int) := by omega
      have HMI := Lib.hid hm
      have HIN : Hid (128 ≤ m) := Lib.hid (by omega)
      have HCC := Lib.hid hc; have HMX := Lib.hid hmx
      have HDL : Hid ((P.drop (128 * i)).length = m) := Lib.hid (by rw [List.length_drop, HM.out, hm]; omega)
      have HB := Lib.hid hB
      have hgt : decide ((0 : Int) < (m : Int)) = true := decide_eq_true hpos
      have hgt2 : decide (0 < m) = true := decide_eq_true (by omega)
      clear hm hoff hi hc hmx hB hlt
      go_upto_region 6 with fail
      clear hgt hgt2
      refine wp_region_turn (fun u => #[.slice a n cap, undef, .slice none 0 0, .slice a1 N c1, u2z 1, .slice (some ⟨g5, 128 * i, none⟩) m c, undef, undef, .slice a n cap, .slice a1 N c1, u2z 0, .slice a1 N c1, .slice a1 N c1, .int .i64 (N : Int), .int .u64 (N : Int), .slice (some ⟨g5, 0, none⟩) (128 * M) c5, .slice (some ⟨g5, 128 * i, none⟩) m c, .int .i64 (m : Int), .bool true, u19, u20, u 0, u 1, u 2, undef, undef, undef, undef, undef, undef, undef, undef, undef, undef]) (Holds [.val rW8 [hSt P i], .oth (fun v => v = .slice (some ⟨g5, 128 * i, none⟩) m c), .val rW8 [hSt P (i + 1)], .sto q4 rW8 [hSt P (i + 1)]] wr) (Keep [.val rW8 [hSt P i], .oth (fun v => v = .slice (some ⟨g5, 128 * i, none⟩) m c), .val rW8 [hSt P (i + 1)], .sto q4 rW8 [hSt P (i + 1)]] wr) (fun k => ((u21 :: u22 :: u23 :: undef :: []) : List Value).getD k undef) ?_ (by rfl) Keep.start (holds_soft (by kernel_rfl)) ?_ ?_
      · intro u i v h
        rcases i with _ | _ | _ | _ | i
        all_goals first | (simp [Act.put, putV]; done) | (exfalso; simp at h; omega)
      · intro hs
        refine ⟨?_, ?_, ?_, ?_, trivial⟩
        · exact step_load q4 0 hs (wants_none rfl) rfl rfl tya8 (fun _ => E4.out) hmL4.lt hmL4 (fun k g hk => by rcases k with _ | _ | _ | _ | k <;> first | (cases hk; done) | (cases hk; exact .inl (by kernel_rfl)))
        · exact step_pureO hs (wants_none rfl) rfl fun L u W hG hdep => ⟨_, run_move rfl, rfl⟩
        · refine step_call hs (wants_none rfl) rfl fun L u W hJ hG hL hdep K hK => ?_
          have a0 := (show IsFs rW8 (u 0) [hSt P i] from hG 0 (hdep 0 (by kernel_rfl)))
          have x0 := (show u 1 = .slice (some ⟨g5, 128 * i, none⟩) m c from hG 1 (hdep 1 (by kernel_rfl)))
          have hRB0 := rd_at (blk_keep HB.out (hJ.block _ HB.out.lt (fun k hk => by rcases k with _ | _ | _ | _ | k <;> first | (cases hk; done) | (cases hk; exact absurd rfl HNE.out)))) HDL.out HCC.out HMX.out
          go_simp
          go_at_call 62
          (with_reducible refine (turn_any a0 hRB0 (by have := HIN.out; omega)).mono ?_); rintro e w1 ⟨r, rfl, hr, hb⟩
          have hk := hK.out _ _ hr hb
          simp only [x0] at hk
          exact hk
        · refine step_storeO q4 8 hs (wants_none rfl) rfl rfl (by kernel_rfl) (fun k hk => ?_) (fun _ => E4.out) (there_lt htL4 (by omega)) htL4 (gives_op 2 rfl (by kernel_rfl) (fun _ => rfl)) tya8 rfl
          rcases k with _ | _ | _ | _ | k
          all_goals first | (exact absurd rfl hk) | (intro e; cases e; done)
      intro L6 u6z W6z hall hJ hG
      have hb : Below w.heap.size wr W6z := hJ.below (by have := hbel.size; omega) (fun k b hf => by rcases k with _ | _ | _ | _ | k <;> first | (cases hf; done) | (cases hf; omega))
      have hbel := hbel.trans hb
      have HB := Lib.hid (blk_keep HB.out (hJ.block _ (HB.out.lt) (fun k hk => by rcases k with _ | _ | _ | _ | k <;> first | (cases hk; done) | (cases hk; exact absurd rfl HNE.out))))
      obtain ⟨_, hs6_3t, hs6_3⟩ := (show _ ∧ W6z.there q4 0 8 ∧ HasFs rW8 W6z q4 0 [hSt P (i + 1)] from hG 3 (by simp))
      have hbel0 := hbel
      clear hJ hG hall hb
      have hcc := HCC.out; have hin := HIN.out; have hmx := HMX.out
      have hmxI : (c : Int) ≤ 9223372036854775807 := by unfold maxLen at hmx; omega
      by_cases hcap : c = 128
      · subst hcap
        obtain rfl : m = 128 := by omega
        go_wp2
        go_roundw
        case rel => exact ⟨i + 1, 128 * i, 0, 128 - 128, by have := HI.out; omega, by have := HMI.out; omega, rfl, fun h => absurd h (by have := HMI.out; omega), by omega, by unfold maxLen; omega, HB.out, hs6_3, hs6_3t, hbel⟩
        case measure => show 128 - 128 < 128; omega
      · go_wp2
        go_roundw
        case rel => exact ⟨i + 1, 128 * i + 128, c - 128, m - 128, by have := HI.out; omega, by have := HMI.out; omega, rfl, fun h => by omega, by omega, by unfold maxLen at hmx ⊢; omega, HB.out, hs6_3, hs6_3t, hbel⟩
        case measure => show m - 128 < m; omega
    · obtain rfl : i = M := by omega
      obtain rfl : m = 0 := by omega
      obtain ⟨H, hH⟩ : ∃ H, H = hSt P i := ⟨_, rfl⟩
      rw [← hH] at hmL4
      have HH := Lib.hid hH
      clear hH hi hm hoff hc hmx hB
      go_upto_region 7 with fail
      refine wp_region_turn (fun u => #[.slice a n cap, undef, .slice none 0 0, .slice a1 N c1, u2z 1, .slice (some ⟨g5, off, none⟩) 0 c, undef, undef, .slice a n cap, .slice a1 N c1, u2z 0, .slice a1 N c1, .slice a1 N c1, .int .i64 (N : Int), .int .u64 (N : Int), .slice (some ⟨g5, 0, none⟩) (128 * i) c5, .slice (some ⟨g5, off, none⟩) 0 c, .int .i64 0, .bool false, u19, u20, u21, u22, u23, u 0, u 1, undef, undef, undef, undef, undef, undef, undef, undef]) (Holds [.val rW8 [H], .oth (fun v => v = .int .i64 0)] wr) (Keep [.val rW8 [H], .oth (fun v => v = .int .i64 0)] wr) (fun _ => undef) ?_ (by rfl) Keep.start (holds_soft (by kernel_rfl)) ?_ ?_
      · intro u i v h
        rcases i with _ | _ | i
        all_goals first | (simp [Act.put, putV]; done) | (exfalso; simp at h; omega)
      · intro hs
        refine ⟨?_, ?_, trivial⟩
        · exact step_load q4 0 hs (wants_none rfl) rfl rfl tya8 (fun _ => E4.out) hmL4.lt hmL4 (noSto_apart (by kernel_rfl))
        · exact step_pureO hs (wants_none rfl) rfl fun L u W hG hdep => ⟨_, run_move rfl, rfl⟩
      intro L7 u7z W7z hall hJ hG
      have hb := hJ.all rfl
      have hbel := Below.call hbel hb
      have hmL4 := hmL4.later hb
      have htL4 := there_later htL4 hb
      have hv24 := (show IsFs rW8 (u7z 0) [H] from hG 0 (by simp))
      have HC25 := Lib.hid (show u7z 1 = .int .i64 0 from hG 1 (by simp))
      have hbel0 := hbel
      clear hJ hG hall hb
      obtain ⟨hv, h8⟩ := of_isW8 hv24
      have HIX := Lib.hid (fun (k : Nat) (hk : k < 8) (w : World) => index8 h8 k hk w)
      rw [← hv] at HIX
      have HT : Hid (outK H 8 = outK (hSt P i) 8) := Lib.hid (by rw [HH.out])
      have hlb := hbel
      clear hv hmL4 htL4 hbel0 hbel
      go_wp2_with fail
      go_loopw [2, 25] (fun v k wr => ∃ j : Nat, j ≤ 8 ∧ k = .int .i64 (j : Int) ∧ wr.ownsRow w.heap.size 5 1 v (8 * j) ((outK H j).map bV) ∧ Below w.heap.size w wr) (fun _ k _ => 8 - (intOf k).toNat)
      case atStart => exact ⟨0, by omega, by first | rfl | exact HC25.out, World.ownsRow_nil _ _ _ _, hlb⟩
      case round =>
        clear hlb
        obtain ⟨j, hj, rfl, ho, hbel⟩ := hrel
        by_cases hlt : j < 8
        · have hd : decide ((j : Int) < 8) = true := decide_eq_true (by omega)
          have hix := HIX.out j hlt
          have HO := Lib.hid ho
          have HJ := Lib.hid hlt
          clear ho hlt
          go_wp2_with (first | (go_at_call 63; go_must (refine (put64_any (x := at0 H j) _).mono ?_; rintro e w5 ⟨rfl, hB, hb⟩; have hb5 := Below.call hbel hb; have HO4 := Lib.hid (own_below HO.out hb); have HB := Lib.hid (RdB.blk (n := 8) (cap := 8) (l := be8 (at0 H j)) [] (by rw [List.append_nil]; exact hB) (be8_len _) (by omega) (by unfold maxLen; omega)); clear hB hb)) | (at_builtin; go_must (refine app_bytes _ rfl (.tmp 28) (.tmp 30) rfl w.heap.size _ (8 * j) (outK H j) rfl HO4.out _ 8 8 (be8 (at0 H j)) rfl HB.out (by have := HJ.out; omega) hb5.size w hb5 ?_; intro v4 w6 ho hb6; have HO5 := Lib.hid ho; clear ho)))
          go_roundw
          case rel => exact ⟨j + 1, by have := HJ.out; omega, by go_num, by rw [outK_succ, show 8 * (j + 1) = 8 * j + 8 by omega]; exact HO5.out, hb6⟩
          case measure => have := HJ.out; simp [intOf]; omega
        · obtain rfl : j = 8 := by omega
          have hd : decide (((8 : Nat) : Int) < 8) = false := by decide
          obtain ⟨g9, c9, r9, rfl, hg9, hB9, hl9, hc9, hm9⟩ := own_rdb ho (by omega)
          have HB9 := Lib.hid hB9; have HL9 := Lib.hid hl9
          clear ho hB9 hl9
          go_wp2
          go_ret
          exact ⟨g9, 64, c9, r9, rfl, hg9, by rw [← HT.out]; exact HB9.out, by rw [outK_len], hc9, hm9, hbel⟩
/-- SHA-512 of rows of bytes. -/
theorem sum512_any {a : Option Addr} {n cap : Nat} {ls : List (List UInt8)} {l : List UInt8} {w : World} (h : RdRows w a n cap ls) (hl : ls.flatten = l) (hs : l.length ≤ 1000000) :
    Calls Try.prog 32 #[.slice a n cap] w (NewB w (sha512 l)) := by
  have hp := padB_blocks l
  have h2 := padB_len l
  rw [← sha512_out]
  exact sum512_walk h hl rfl hs rfl hp.1 hp.2 (by omega)
end Go.Proofs.Ytielgpefoameiaa
namespace Go.Proofs.Ytielgpefoameiaa
open Go.RowKit
/-- A secret, clamped. -/
def clampB (l : List UInt8) : List UInt8 := ((first l 32).set 0 ((first l 32).getD 0 0 &&& 248)).set 31 (((first l 32).getD 31 0 &&& 127) ||| 64)
theorem clampB_len (l : List UInt8) : (clampB l).length = 32 := by simp [clampB, first_len]
theorem and8 (c d : UInt8) : bits BinOp.and IntKind.u8 (c.toNat : Int) (d.toNat : Int) = (((c &&& d).toNat : Nat) : Int) := by
  rw [u8_and_nat _ _ c.toNat_lt d.toNat_lt]; simp
theorem or8 (c d : UInt8) : bits BinOp.or IntKind.u8 (c.toNat : Int) (d.toNat : Int) = (((c ||| d).toNat : Nat) : Int) := by
  rw [u8_or_nat _ _ c.toNat_lt d.toNat_lt]; simp
set_option maxRecDepth 100000 in
set_option maxHeartbeats 400000 in
theorem clamp_any {a : Option Addr} {n cap : Nat} {l : List UInt8} (w : World) (h : RdB w a n cap l) :
    Calls Try.prog 34 #[.slice a n cap] w fun e w' => e = .returned (.slice (some ⟨w.heap.size, 0, none⟩) 32 32) ∧ Blk w' w.heap.size ((clampB l).map bV) 5 ∧ Below w.heap.size w w' := by
  have hlen := first_len l 32
  have HC : Hid (clampB l = ((first l 32).set 0 ((first l 32).getD 0 0 &&& 248)).set 31 (((first l 32).getD 31 0 &&& 127) ||| 64)) := Lib.hid rfl
  generalize hfl : first l 32 = fl at *
  have HF := Lib.hid hfl; have HL := Lib.hid hlen
  obtain ⟨c0, hc0⟩ : ∃ c0, c0 = fl.getD 0 0 := ⟨_, rfl⟩
  obtain ⟨c1, hc1⟩ : ∃ c1, c1 = fl.getD 31 0 := ⟨_, rfl⟩
  have H0 := Lib.hid hc0; have H1 := Lib.hid hc1
  obtain ⟨d0, hd0⟩ : ∃ d0, d0 = c0 &&& 248 := ⟨_, rfl⟩
  obtain ⟨d1, hd1⟩ : ∃ d1, d1 = c1 &&& 127 := ⟨_, rfl⟩
  obtain ⟨d2, hd2⟩ : ∃ d2, d2 = d1 ||| 64 := ⟨_, rfl⟩
  have e0 : bits BinOp.and IntKind.u8 (c0.toNat : Int) 248 = ((d0.toNat : Nat) : Int) := by rw [hd0]; exact and8 c0 248
  have e1 : bits BinOp.and IntKind.u8 (c1.toNat : Int) 127 = ((d1.toNat : Nat) : Int) := by rw [hd1]; exact and8 c1 127
  have e2 : bits BinOp.or IntKind.u8 ((d1.toNat : Nat) : Int) 64 = ((d2.toNat : Nat) : Int) := by rw [hd2]; exact or8 d1 64
  rw [hd1] at hd2
  have D0 := Lib.hid hd0; have D2 := Lib.hid hd2
  clear hd0 hd1 hd2
  clear hfl hlen hc0 hc1
  go_enter Try.func34, Try.ntmps34
  go_wp2_with (go_at_call 64; go_must (refine (first_any 32 (by omega) _ h).mono ?_; rintro e w1 ⟨rfl, hB, hb⟩; rw [HF.out] at hB; have k0 : w1.cell? ⟨w.heap.size, 0, none⟩ = some (.int .u8 (c0.toNat : Int)) := (by rw [hB.cell, H0.out]; have := HL.out; simp [bV, List.getElem?_eq_getElem (show 0 < fl.length by omega)]); have k1 : w1.cell? ⟨w.heap.size, 31, none⟩ = some (.int .u8 (c1.toNat : Int)) := (by rw [hB.cell, H1.out]; have := HL.out; simp [bV, List.getElem?_eq_getElem (show 31 < fl.length by omega)]); have kf := hB.frozen; have HB := Lib.hid hB; clear hB))
  go_ret
  refine ⟨rfl, ?_, (by repeat (first | (with_reducible refine Below.alloc' ?_ _) | (with_reducible refine Below.drew ?_) | (with_reducible refine below_drewN ?_ _) | ((with_reducible refine Below.setCell ?_ ?_ _); rotate_left; (focus (first | exact Nat.le_refl _ | (simp; done) | (simp; omega)))) | (with_reducible assumption) | (with_reducible exact Below.refl _ _)))⟩
  have hB := (HB.out.set 0 (bV d0)).set 31 (bV d2)
  rw [← List.map_set, ← List.map_set] at hB
  rw [HC.out, ← H0.out, ← H1.out, ← D0.out, ← D2.out]
  exact hB
end Go.Proofs.Ytielgpefoameiaa
