/- What EB rests on, part 5 of 6: my own texts, put together (merge.py). -/
import Derived.Deep.RegionHeld3
import Derived.WalkKit
import Derived.ProofKit
import Derived.Lib.Hide
import Derived.OpenShut
import Derived.Deep.MidRow
import Derived.Test.YtielgpefoameiaaRows
import Derived.WalkSpells
import Derived.StillTactics
import Derived.Laws.Pointers
import Derived.Laws.CopyOwn
import Derived.Laws.AppendOwnNone
import Derived.RowKit3
import Derived.BigQuiet
import Derived.Deep.QuietTactic
import Derived.Deep.LoopGhost
import Derived.Deep.DeepFit
import Derived.WalkLawsBesides
import Derived.Shelf.Spec.BitsCarry
import Derived.Laws.IdiomStrings
import Derived.Deep.WholeRow
import Derived.Laws.Rows
import Derived.Deep.DeepCutAuto
import Derived.Lib.AppendZerosOnto
import Derived.Lib.SliceRun
import Derived.Deep.Matrix
import Derived.Deep.AppendLies
import Derived.ShutString
import Derived.ChangeOld
import Derived.Test.YtielgpefoameiaaZEBD
namespace Go.Proofs.Ytielgpefoameiaa
open Go Go.RowKit
theorem xx_fs {v : Value} {y : F} (h : IsFs rE v [(y * y - fn 1) * finv (y * y * dE + fn 1)]) : IsFs rE v [xx y] := h
theorem cRootN {v : Value} {x X : F} {c : Int} (hX : rootV x = X) (hc : rootC x = c) (h : IsFs rE v [x]) (w : World) :
    Calls Try.prog 47 #[v] w fun e w' => ∃ r, e = .returned (.tuple #[r, .int .i64 c]) ∧ IsFs rE r [X] ∧ Below w.heap.size w w' := by subst hX hc; exact cRoot h w
theorem dec_pext {P : EP} {x y : F} (hx : P.x = x) (hy : P.y = y) : Pext P x y (fn 1) (x * y) := by subst hx hy; exact Pext.one P
theorem odd_bit {l : List UInt8} {c : UInt8} {o : Bool} (h : l.length = 32) (hc : l.getD 31 0 = c) (ho : sgn l = o) : (bits BinOp.and IntKind.u8 (c.toNat : Int) 128 != 0) = o := by
  rw [← ho, sgn_byte h, hc]
  exact odd_byte _ c.toNat_lt
theorem clr_bit {c d : UInt8} (h : c &&& 127 = d) : bits BinOp.andNot IntKind.u8 (c.toNat : Int) 128 = (d.toNat : Int) := by
  have := clr_byte2 c.toNat c.toNat_lt
  rw [UInt8.ofNat_toNat, h] at this
  exact this
theorem root_7 {x : F} (h : ¬ rootC x = 0) : rootC x = 7 := by
  unfold rootC at *
  by_cases e : cand x * cand x = x
  · rw [if_pos e] at h; exact absurd rfl h
  · rw [if_neg e]
set_option maxRecDepth 100000 in
set_option maxHeartbeats 4000000 in
theorem decode_len {a : Option Addr} {n cap : Nat} (w : World) (hn : n ≠ 32) :
    Calls Try.prog 21 #[.slice a n cap] w fun e w' => ∃ r, e = .returned (.tuple #[r, .int .i64 12]) ∧ IsFs rP r [Cp.zero] ∧ Below w.heap.size w w' := by
  have d1 : decide ((n : Int) = 32) = false := decide_eq_false (by omega)
  have HD : Hid (¬ ((n : Int) = 32)) := Lib.hid (by omega)
  clear hn
  go_enter Try.func21, Try.ntmps21
  have hbel : Below w.heap.size w w := Below.refl _ _
  have hbel0 := hbel
  go_upto_region 0 with fail
  refine wp_region_turn (fun u => (.slice a n cap :: undef :: u 0 :: u 1 :: undef :: undef :: undef :: undef :: undef :: undef :: undef :: undef :: undef :: undef :: undef :: undef :: undef :: undef :: undef :: undef :: undef :: undef :: undef :: undef :: undef :: undef :: undef :: undef :: undef :: undef :: undef :: undef :: undef :: undef :: undef :: undef :: undef :: undef :: undef :: undef :: undef :: undef :: undef :: undef :: undef :: undef :: undef :: undef :: undef :: undef :: undef :: undef :: undef :: undef :: undef :: undef :: undef :: undef :: undef :: undef :: undef :: undef :: undef :: undef :: undef :: undef :: undef :: undef :: undef :: undef :: []).toArray) (Holds [.new 20, .oth (fun v => v = .int .i64 0)] w) (Keep [.new 20, .oth (fun v => v = .int .i64 0)] w) (fun _ => undef) ?_ (by rfl) Keep.start (holds_soft (by kernel_rfl)) ?_ ?_
  · intro u i v h
    rcases i with _ | _ | i
    all_goals first | (simp [Act.put, putV]; done) | (exfalso; simp at h; omega)
  · intro hs
    refine ⟨?_, ?_, trivial⟩
    · exact step_alloc hs (wants_none rfl) rfl rfl (by omega) rfl allocP
    · exact step_pureO hs (wants_none rfl) rfl fun L u W hG hdep => ⟨_, run_assign rfl, rfl⟩
  intro L0 u0 W0 hall hJ hG
  obtain ⟨q2, e2, hq2, _, ht2⟩ := (show ∃ g, u0 0 = .pointer (some ⟨g, 0, none⟩) ∧ w.heap.size ≤ g ∧ 0 < 20 ∧ W0.there g 0 20 from hG 0 (by simp))
  have hq2 : w.heap.size ≤ q2 := by have := hbel0.size; omega
  have E2 := Lib.hid e2; clear e2
  have hb := hJ.all rfl
  have hbel := Below.call hbel hb
  have HC3 := Lib.hid (show u0 1 = .int .i64 0 from hG 1 (by simp))
  have hbel0 := hbel
  clear hJ hG hall hb
  go_upto_region 1 with fail
  refine wp_region_turn (fun u => (.slice a n cap :: undef :: u0 0 :: u0 1 :: undef :: undef :: undef :: undef :: undef :: undef :: u 0 :: u 1 :: u 2 :: undef :: undef :: undef :: undef :: undef :: undef :: undef :: undef :: undef :: undef :: undef :: undef :: undef :: undef :: undef :: undef :: undef :: undef :: undef :: undef :: undef :: undef :: undef :: undef :: undef :: undef :: undef :: undef :: undef :: undef :: undef :: undef :: undef :: undef :: undef :: undef :: undef :: undef :: undef :: undef :: undef :: undef :: undef :: undef :: undef :: undef :: undef :: undef :: undef :: undef :: undef :: undef :: undef :: undef :: undef :: undef :: undef :: []).toArray) (Holds [.oth (fun v => v = .slice a n cap), .oth (fun v => v = .int .i64 (n : Nat)), .oth (fun v => v = .bool true)] W0) (Keep [.oth (fun v => v = .slice a n cap), .oth (fun v => v = .int .i64 (n : Nat)), .oth (fun v => v = .bool true)] W0) (fun _ => undef) ?_ (by rfl) Keep.start (holds_soft (by kernel_rfl)) ?_ ?_
  · intro u i v h
    rcases i with _ | _ | _ | i
    all_goals first | (simp [Act.put, putV]; done) | (exfalso; simp at h; omega)
  · intro hs
    refine ⟨?_, ?_, ?_, trivial⟩
    · exact step_pureO hs (wants_none rfl) rfl fun L u W hG hdep => ⟨_, run_move rfl, rfl⟩
    · refine step_pureO hs (wants_none rfl) rfl fun L u W hG hdep => ⟨_, ?_, rfl⟩
      have e0 := (show u 0 = .slice a n cap from hG 0 (hdep 0 (by kernel_rfl)))
      go_simp
    · refine step_pureO hs (wants_none rfl) rfl fun L u W hG hdep => ⟨_, ?_, rfl⟩
      have e0 := (show u 1 = .int .i64 (n : Nat) from hG 1 (hdep 1 (by kernel_rfl)))
      go_simp
      exact HD.out
  intro L1 u1 W1 hall hJ hG
  have hb := hJ.all rfl
  have hbel := Below.call hbel hb
  have ht2 := there_later ht2 hb
  have HC12 := Lib.hid (show u1 2 = .bool true from hG 2 (by simp))
  have hbel0 := hbel
  clear hJ hG hall hb
  have hx : u1 2 = .bool true := HC12.out
  go_wp2_with fail
  rw [hx]
  clear hx
  go_upto_region 2 with fail
  refine wp_region_turn (fun u => (.slice a n cap :: undef :: u0 0 :: u 2 :: undef :: undef :: undef :: undef :: undef :: undef :: u1 0 :: u1 1 :: .bool true :: u 0 :: undef :: undef :: undef :: undef :: undef :: undef :: undef :: undef :: undef :: undef :: undef :: undef :: undef :: undef :: undef :: undef :: undef :: undef :: undef :: undef :: undef :: undef :: undef :: undef :: undef :: undef :: undef :: undef :: undef :: undef :: undef :: undef :: undef :: undef :: undef :: undef :: undef :: undef :: undef :: undef :: undef :: undef :: undef :: undef :: undef :: undef :: undef :: undef :: undef :: undef :: undef :: undef :: undef :: undef :: undef :: undef :: []).toArray) (Holds [.val rP [Cp.zero], .sto q2 rP [Cp.zero], .oth (fun v => v = .int .i64 12)] W1) (Keep [.val rP [Cp.zero], .sto q2 rP [Cp.zero], .oth (fun v => v = .int .i64 12)] W1) (fun k => ((undef :: undef :: u0 1 :: []) : List Value).getD k undef) ?_ (by rfl) Keep.start (holds_soft (by kernel_rfl)) ?_ ?_
  · intro u i v h
    rcases i with _ | _ | _ | i
    all_goals first | (simp [Act.put, putV]; done) | (exfalso; simp at h; omega)
  · intro hs
    refine ⟨?_, ?_, ?_, trivial⟩
    · exact step_pure hs (wants_none rfl) rfl fun L u W hG hdep => run_build0 rfl (build_P0 W)
    · refine step_storeO q2 20 hs (wants_none rfl) rfl rfl (by kernel_rfl) (fun k hk => ?_) (fun _ => E2.out) (there_lt ht2 (by omega)) ht2 (gives_op 0 rfl (by kernel_rfl) (fun _ => rfl)) tyP rfl
      rcases k with _ | _ | _ | k
      all_goals first | (exact absurd rfl hk) | (intro e; cases e; done)
    · exact step_pureO hs (wants_none rfl) rfl fun L u W hG hdep => ⟨_, run_assign rfl, rfl⟩
  intro L2 u2 W2 hall hJ hG
  have hb : Below w.heap.size W1 W2 := hJ.below (by have := hbel.size; omega) (fun k b hf => by rcases k with _ | _ | _ | k <;> first | (cases hf; done) | (cases hf; omega))
  have hbel := hbel.trans hb
  obtain ⟨_, hs2_1t, hs2_1⟩ := (show _ ∧ W2.there q2 0 20 ∧ HasFs rP W2 q2 0 [Cp.zero] from hG 1 (by simp))
  have HC3 := Lib.hid (show u2 2 = .int .i64 12 from hG 2 (by simp))
  have hbel0 := hbel
  clear hJ hG hall hb
  go_wp2
  exact ret_cell_slot (R := rP) Try.results21 (by exact E2.out) (by exact HC3.out) hs2_1 tyP rfl (fun r hr => ⟨r, rfl, hr, hbel⟩)
set_option maxRecDepth 100000 in
set_option maxHeartbeats 8000000 in
theorem decode_32 {bb q cap : Nat} {l : List UInt8} {o : Bool} (w : World) (hs : sgn l = o) (h : RdB w (some ⟨bb, q, none⟩) 32 cap l) :
    Calls Try.prog 21 #[.slice (some ⟨bb, q, none⟩) 32 cap] w fun e w' => ∃ r, e = .returned (.tuple #[r, .int .i64 (decC l)]) ∧ IsFs rP r [decV l] ∧ Below w.heap.size w w' := by
  have hl := h.hlen
  obtain ⟨b', q', hab, hc0⟩ := h.get 31 (by omega)
  obtain ⟨rfl, rfl⟩ : bb = b' ∧ q = q' := by simpa using hab
  clear hab
  obtain ⟨c, hc⟩ : ∃ c, c = l.getD 31 0 := ⟨_, rfl⟩
  have hc1 : w.cell? ⟨bb, q + 31, none⟩ = some (.int .u8 (c.toNat : Int)) := by
    rw [hc0, hc, List.getD_eq_getElem?_getD, List.getElem?_eq_getElem (by omega)]; rfl
  have HCL := Lib.hid hc1
  have HOB := Lib.hid (odd_bit hl hc.symm hs)
  obtain ⟨d, hd⟩ : ∃ d, c &&& 127 = d := ⟨_, rfl⟩
  have HDB := Lib.hid (clr_bit hd)
  have HK0 : Hid (l.set 31 d = clr l) := Lib.hid (by unfold clr; rw [← hc, hd])
  have HL := Lib.hid hl; have HS := Lib.hid hs; have HCC := Lib.hid hc
  clear hc0 hc1 hc hd hl hs
  go_enter Try.func21, Try.ntmps21
  have hbel : Below w.heap.size w w := Below.refl _ _
  have hbel0 := hbel
  go_upto_region 0 with fail
  refine wp_region_turn (fun u => (.slice (some ⟨bb, q, none⟩) 32 cap :: undef :: u 0 :: u 1 :: undef :: undef :: undef :: undef :: undef :: undef :: undef :: undef :: undef :: undef :: undef :: undef :: undef :: undef :: undef :: undef :: undef :: undef :: undef :: undef :: undef :: undef :: undef :: undef :: undef :: undef :: undef :: undef :: undef :: undef :: undef :: undef :: undef :: undef :: undef :: undef :: undef :: undef :: undef :: undef :: undef :: undef :: undef :: undef :: undef :: undef :: undef :: undef :: undef :: undef :: undef :: undef :: undef :: undef :: undef :: undef :: undef :: undef :: undef :: undef :: undef :: undef :: undef :: undef :: undef :: undef :: []).toArray) (Holds [.new 20, .oth (fun v => v = .int .i64 0)] w) (Keep [.new 20, .oth (fun v => v = .int .i64 0)] w) (fun _ => undef) ?_ (by rfl) Keep.start (holds_soft (by kernel_rfl)) ?_ ?_
  · intro u i v h
    rcases i with _ | _ | i
    all_goals first | (simp [Act.put, putV]; done) | (exfalso; simp at h; omega)
  · intro hs
    refine ⟨?_, ?_, trivial⟩
    · exact step_alloc hs (wants_none rfl) rfl rfl (by omega) rfl allocP
    · exact step_pureO hs (wants_none rfl) rfl fun L u W hG hdep => ⟨_, run_assign rfl, rfl⟩
  intro L0 u0 W0 hall hJ hG
  obtain ⟨q2, e2, hq2, _, ht2⟩ := (show ∃ g, u0 0 = .pointer (some ⟨g, 0, none⟩) ∧ w.heap.size ≤ g ∧ 0 < 20 ∧ W0.there g 0 20 from hG 0 (by simp))
  have hq2 : w.heap.size ≤ q2 := by have := hbel0.size; omega
  have E2 := Lib.hid e2; clear e2
  have hb := hJ.all rfl
  have hbel := Below.call hbel hb
  have HC3 := Lib.hid (show u0 1 = .int .i64 0 from hG 1 (by simp))
  have hbel0 := hbel
  clear hJ hG hall hb
  go_upto_region 1 with fail
  refine wp_region_turn (fun u => (.slice (some ⟨bb, q, none⟩) 32 cap :: undef :: u0 0 :: u0 1 :: undef :: undef :: undef :: undef :: undef :: undef :: u 0 :: u 1 :: u 2 :: undef :: undef :: undef :: undef :: undef :: undef :: undef :: undef :: undef :: undef :: undef :: undef :: undef :: undef :: undef :: undef :: undef :: undef :: undef :: undef :: undef :: undef :: undef :: undef :: undef :: undef :: undef :: undef :: undef :: undef :: undef :: undef :: undef :: undef :: undef :: undef :: undef :: undef :: undef :: undef :: undef :: undef :: undef :: undef :: undef :: undef :: undef :: undef :: undef :: undef :: undef :: undef :: undef :: undef :: undef :: undef :: undef :: []).toArray) (Holds [.oth (fun v => v = .slice (some ⟨bb, q, none⟩) 32 cap), .oth (fun v => v = .int .i64 32), .oth (fun v => v = .bool false)] W0) (Keep [.oth (fun v => v = .slice (some ⟨bb, q, none⟩) 32 cap), .oth (fun v => v = .int .i64 32), .oth (fun v => v = .bool false)] W0) (fun _ => undef) ?_ (by rfl) Keep.start (holds_soft (by kernel_rfl)) ?_ ?_
  · intro u i v h
    rcases i with _ | _ | _ | i
    all_goals first | (simp [Act.put, putV]; done) | (exfalso; simp at h; omega)
  · intro hs
    refine ⟨?_, ?_, ?_, trivial⟩
    · exact step_pureO hs (wants_none rfl) rfl fun L u W hG hdep => ⟨_, run_move rfl, rfl⟩
    · refine step_pureO hs (wants_none rfl) rfl fun L u W hG hdep => ⟨_, ?_, rfl⟩
      have e0 := (show u 0 = .slice (some ⟨bb, q, none⟩) 32 cap from hG 0 (hdep 0 (by kernel_rfl)))
      go_simp
    · refine step_pureO hs (wants_none rfl) rfl fun L u W hG hdep => ⟨_, ?_, rfl⟩
      have e0 := (show u 1 = .int .i64 32 from hG 1 (hdep 1 (by kernel_rfl)))
      go_simp
      try simp [bne]
  intro L1 u1 W1 hall hJ hG
  have hb := hJ.all rfl
  have hbel := Below.call hbel hb
  have ht2 := there_later ht2 hb
  have HC12 := Lib.hid (show u1 2 = .bool false from hG 2 (by simp))
  have hbel0 := hbel
  clear hJ hG hall hb
  have hx : u1 2 = .bool false := HC12.out
  go_wp2_with fail
  rw [hx]
  clear hx
  go_upto_region 3 with fail
  refine wp_region_turn (fun u => (.slice (some ⟨bb, q, none⟩) 32 cap :: undef :: u0 0 :: u0 1 :: u 5 :: undef :: undef :: undef :: undef :: undef :: u1 0 :: u1 1 :: .bool false :: undef :: u 0 :: u 1 :: u 2 :: u 3 :: u 4 :: undef :: undef :: undef :: undef :: undef :: undef :: undef :: undef :: undef :: undef :: undef :: undef :: undef :: undef :: undef :: undef :: undef :: undef :: undef :: undef :: undef :: undef :: undef :: undef :: undef :: undef :: undef :: undef :: undef :: undef :: undef :: undef :: undef :: undef :: undef :: undef :: undef :: undef :: undef :: undef :: undef :: undef :: undef :: undef :: undef :: undef :: undef :: undef :: undef :: undef :: undef :: []).toArray) (Holds [.oth (fun v => v = .slice (some ⟨bb, q, none⟩) 32 cap), .oth (fun v => v = .pointer (some ⟨bb, q + 31, none⟩)), .oth (fun v => v = .int .u8 (c.toNat : Int)), .oth (fun v => v = .int .u8 (bits BinOp.and IntKind.u8 (c.toNat : Int) 128)), .oth (fun v => v = .bool o), .oth (fun v => v = .bool o)] W1) (Keep [.oth (fun v => v = .slice (some ⟨bb, q, none⟩) 32 cap), .oth (fun v => v = .pointer (some ⟨bb, q + 31, none⟩)), .oth (fun v => v = .int .u8 (c.toNat : Int)), .oth (fun v => v = .int .u8 (bits BinOp.and IntKind.u8 (c.toNat : Int) 128)), .oth (fun v => v = .bool o), .oth (fun v => v = .bool o)] W1) (fun _ => undef) ?_ (by rfl) Keep.start (holds_soft (by kernel_rfl)) ?_ ?_
  · intro u i v h
    rcases i with _ | _ | _ | _ | _ | _ | i
    all_goals first | (simp [Act.put, putV]; done) | (exfalso; simp at h; omega)
  · intro hs
    refine ⟨?_, ?_, ?_, ?_, ?_, ?_, trivial⟩
    · exact step_pureO hs (wants_none rfl) rfl fun L u W hG hdep => ⟨_, run_move rfl, rfl⟩
    · refine step_pureO hs (wants_none rfl) rfl fun L u W hG hdep => ⟨_, ?_, rfl⟩
      have e0 := (show u 0 = .slice (some ⟨bb, q, none⟩) 32 cap from hG 0 (hdep 0 (by kernel_rfl)))
      go_simp
    · exact step_cell bb (q + 31) hs (wants_none rfl) rfl rfl (fun _ h => load_u8 h) (fun L u W hG hdep => (show u 1 = .pointer (some ⟨bb, q + 31, none⟩) from hG 1 (hdep 1 (by kernel_rfl)))) (cell_keep HCL.out hbel) (noSto_apart (by kernel_rfl))
    · refine step_pureO hs (wants_none rfl) rfl fun L u W hG hdep => ⟨_, ?_, rfl⟩
      have e0 := (show u 2 = .int .u8 (c.toNat : Int) from hG 2 (hdep 2 (by kernel_rfl)))
      go_simp
    · refine step_pureO hs (wants_none rfl) rfl fun L u W hG hdep => ⟨_, ?_, rfl⟩
      have e0 := (show u 3 = .int .u8 (bits BinOp.and IntKind.u8 (c.toNat : Int) 128) from hG 3 (hdep 3 (by kernel_rfl)))
      have e9 := HOB.out
      go_simp
      try exact e9
    · exact step_pureO hs (wants_none rfl) rfl fun L u W hG hdep => ⟨_, run_assign rfl, (show u 4 = .bool o from hG 4 (hdep 4 (by kernel_rfl)))⟩
  intro L3 u3 W3 hall hJ hG
  have hb := hJ.all rfl
  have hbel := Below.call hbel hb
  have ht2 := there_later ht2 hb
  have HC18 := Lib.hid (show u3 4 = .bool o from hG 4 (by simp))
  have HC4 := Lib.hid (show u3 5 = .bool o from hG 5 (by simp))
  have hbel0 := hbel
  clear hJ hG hall hb
  go_upto_region 5 with (go_at_call 39; go_must (refine (clone_any _ (h.below hbel) (by omega) (by omega)).mono ?_; rintro e W4 ⟨gB, nB, cB, rB, rfl, hgB0, hB, hlB, hcB, hmB, hb⟩))
  rw [HL.out] at hlB
  subst hlB
  have hgB : w.heap.size ≤ gB := by have := hbel.size; omega
  have HE_q2 := Lib.hid (show q2 ≠ gB by have := there_lt ht2 (by omega); omega)
  have ht2 := there_later ht2 hb
  have hbel := Below.call hbel hb
  have hbel0 := hbel
  have HB := Lib.hid hB
  clear hB hb
  have hcell : W4.cell? ⟨gB, 31, none⟩ = some (.int .u8 (c.toNat : Int)) := by rw [HCC.out]; exact at31 HL.out HB.out
  have HCX := Lib.hid hcell; have HCF : Hid (W4.frozen? ⟨gB, 31, none⟩ = false) := Lib.hid (HB.out.frozen 31)
  clear hcell
  go_upto_region 5 with fail
  refine wp_region_turn (fun u => (.slice (some ⟨gB, 0, none⟩) 32 cB :: undef :: u0 0 :: u0 1 :: u3 5 :: undef :: undef :: undef :: undef :: undef :: u1 0 :: u1 1 :: .bool false :: undef :: u3 0 :: u3 1 :: u3 2 :: u3 3 :: u3 4 :: .slice (some ⟨bb, q, none⟩) 32 cap :: .slice (some ⟨gB, 0, none⟩) 32 cB :: u 0 :: u 1 :: u 2 :: u 3 :: u 4 :: undef :: undef :: undef :: undef :: undef :: undef :: undef :: undef :: undef :: undef :: undef :: undef :: undef :: undef :: undef :: undef :: undef :: undef :: undef :: undef :: undef :: undef :: undef :: undef :: undef :: undef :: undef :: undef :: undef :: undef :: undef :: undef :: undef :: undef :: undef :: undef :: undef :: undef :: undef :: undef :: undef :: undef :: undef :: undef :: []).toArray) (Holds [.oth (fun v => v = .slice (some ⟨gB, 0, none⟩) 32 cB), .oth (fun v => v = .pointer (some ⟨gB, 31, none⟩)), .oth (fun v => v = .int .u8 (c.toNat : Int)), .oth (fun v => v = .int .u8 (d.toNat : Int)), .oth (fun v => v = .pointer (some ⟨gB, 31, none⟩)), .cst gB 31 (.int .u8 (d.toNat : Int))] W4) (Keep [.oth (fun v => v = .slice (some ⟨gB, 0, none⟩) 32 cB), .oth (fun v => v = .pointer (some ⟨gB, 31, none⟩)), .oth (fun v => v = .int .u8 (c.toNat : Int)), .oth (fun v => v = .int .u8 (d.toNat : Int)), .oth (fun v => v = .pointer (some ⟨gB, 31, none⟩)), .cst gB 31 (.int .u8 (d.toNat : Int))] W4) (fun _ => undef) ?_ (by rfl) Keep.start (holds_soft (by kernel_rfl)) ?_ ?_
  · intro u i v h
    rcases i with _ | _ | _ | _ | _ | _ | i
    all_goals first | (simp [Act.put, putV]; done) | (exfalso; simp at h; omega)
  · intro hs
    refine ⟨?_, ?_, ?_, ?_, ?_, ?_, trivial⟩
    · exact step_pureO hs (wants_none rfl) rfl fun L u W hG hdep => ⟨_, run_move rfl, rfl⟩
    · refine step_pureO hs (wants_none rfl) rfl fun L u W hG hdep => ⟨_, ?_, rfl⟩
      have e0 := (show u 0 = .slice (some ⟨gB, 0, none⟩) 32 cB from hG 0 (hdep 0 (by kernel_rfl)))
      go_simp
    · exact step_cell gB 31 hs (wants_none rfl) rfl rfl (fun _ h => load_u8 h) (fun L u W hG hdep => (show u 1 = .pointer (some ⟨gB, 31, none⟩) from hG 1 (hdep 1 (by kernel_rfl)))) HCX.out (fun k g hk => by rcases k with _ | _ | _ | _ | _ | _ | k <;> first | (cases hk; done) | (cases hk; exact .inl (by kernel_rfl)))
    · refine step_pureO hs (wants_none rfl) rfl fun L u W hG hdep => ⟨_, ?_, rfl⟩
      have e0 := (show u 2 = .int .u8 (c.toNat : Int) from hG 2 (hdep 2 (by kernel_rfl)))
      have e9 := HDB.out
      go_simp
    · refine step_pureO hs (wants_none rfl) rfl fun L u W hG hdep => ⟨_, ?_, rfl⟩
      have e0 := (show u 0 = .slice (some ⟨gB, 0, none⟩) 32 cB from hG 0 (hdep 0 (by kernel_rfl)))
      go_simp
    · refine step_cst (old := .int .u8 (c.toNat : Int)) gB 31 hs (wants_none rfl) rfl rfl (by kernel_rfl) (fun k hk => ?_) (fun _ h1 h2 => store_u8 h1 h2) (fun L u W hG hdep => (show u 4 = .pointer (some ⟨gB, 31, none⟩) from hG 4 (hdep 4 (by kernel_rfl)))) (fun L u W hG hdep => (show u 3 = .int .u8 (d.toNat : Int) from hG 3 (hdep 3 (by kernel_rfl)))) HCX.out HCF.out
      rcases k with _ | _ | _ | _ | _ | _ | k
      all_goals first | (exact absurd rfl hk) | (intro e; cases e; done)
  intro L5 u5 W5 hall hJ hG
  have hb : Below w.heap.size W4 W5 := hJ.below (by have := hbel.size; omega) (fun k b hf => by rcases k with _ | _ | _ | _ | _ | _ | k <;> first | (cases hf; done) | (cases hf; omega))
  have hbel := hbel.trans hb
  have ht2 := there_blk ht2 (hJ.block _ (there_lt ht2 (by omega)) (fun k hk => by rcases k with _ | _ | _ | _ | _ | _ | k <;> first | (cases hk; done) | (cases hk; exact absurd rfl (Ne.symm HE_q2.out))))
  have HB := Lib.hid (blk_keep (HB.out.set 31 (.int .u8 (d.toNat : Int))) (show _ ∧ W5.heap[gB]? = (W4.setCell ⟨gB, 31, none⟩ (.int .u8 (d.toNat : Int))).heap[gB]? from hG 5 (by simp)).2)
  have hbel0 := hbel
  clear hJ hG hall hb
  have HKB : Hid (Blk W5 gB ((clr l).map bV ++ rB) 5) := Lib.hid (by rw [← HK0.out, ← set31 HL.out]; exact HB.out)
  clear HB HCX HCF HK0 HDB HOB HCL HCC
  have HKL : Hid ((clr l).length = 32) := Lib.hid (by rw [clr_len]; exact HL.out)
  by_cases hlow : lowN l < Pq
  rotate_left
  · have HLW := Lib.hid hlow; clear hlow
    have HC2 := Lib.hid (stC_no HL.out HLW.out)
    generalize clr l = K at *
    go_upto_region 6 with fail
    refine wp_region_turn (fun u => (.slice (some ⟨gB, 0, none⟩) 32 cB :: undef :: u0 0 :: u0 1 :: u3 5 :: u 5 :: u 7 :: undef :: undef :: undef :: u1 0 :: u1 1 :: .bool false :: undef :: u3 0 :: u3 1 :: u3 2 :: u3 3 :: u3 4 :: .slice (some ⟨bb, q, none⟩) 32 cap :: .slice (some ⟨gB, 0, none⟩) 32 cB :: u5 0 :: u5 1 :: u5 2 :: u5 3 :: u5 4 :: u 2 :: u 0 :: u 1 :: u 3 :: u 4 :: undef :: undef :: undef :: undef :: undef :: undef :: undef :: undef :: undef :: undef :: undef :: undef :: undef :: undef :: undef :: undef :: undef :: undef :: undef :: undef :: undef :: undef :: undef :: undef :: undef :: undef :: undef :: undef :: undef :: undef :: undef :: undef :: undef :: undef :: undef :: undef :: undef :: undef :: undef :: []).toArray) (Holds [.oth (fun v => v = .slice (some ⟨gB, 0, none⟩) 32 cB), .oth (fun v => IsTV rE v [stV K] (.int .i64 2)), .oth (fun v => IsTV rE v [stV K] (.int .i64 2)), .val rE [stV K], .oth (fun v => v = .int .i64 2), .new 5, .st 5 rE [stV K], .oth (fun v => v = .int .i64 2)] W5) (Keep [.oth (fun v => v = .slice (some ⟨gB, 0, none⟩) 32 cB), .oth (fun v => IsTV rE v [stV K] (.int .i64 2)), .oth (fun v => IsTV rE v [stV K] (.int .i64 2)), .val rE [stV K], .oth (fun v => v = .int .i64 2), .new 5, .st 5 rE [stV K], .oth (fun v => v = .int .i64 2)] W5) (fun _ => undef) ?_ (by rfl) Keep.start (holds_soft (by kernel_rfl)) ?_ ?_
    · intro u i v h
      rcases i with _ | _ | _ | _ | _ | _ | _ | _ | i
      all_goals first | (simp [Act.put, putV]; done) | (exfalso; simp at h; omega)
    · intro hs
      refine ⟨?_, ?_, ?_, ?_, ?_, ?_, ?_, ?_, trivial⟩
      · exact step_pureO hs (wants_none rfl) rfl fun L u W hG hdep => ⟨_, run_move rfl, rfl⟩
      · refine step_callO hs (wants_none rfl) rfl fun L u W hJ hG hL hdep K hK => ?_
        have x0 := (show u 0 = .slice (some ⟨gB, 0, none⟩) 32 cB from hG 0 (hdep 0 (by kernel_rfl)))
        have hRB0 := (RdB.blk rB HKB.out HKL.out hcB hmB).below (hJ.all rfl)
        go_simp
        go_at_call 40
        (with_reducible refine (cStrict' rfl HC2.out hRB0).mono ?_); rintro e w1 ⟨r, rfl, hr, hb⟩
        have hk := hK.out _ _ ⟨r, rfl, hr⟩ hb
        simp only [x0] at hk
        exact hk
      · exact step_pureO hs (wants_none rfl) rfl fun L u W hG hdep => ⟨_, run_move rfl, (show IsTV rE (u 1) [stV K] (.int .i64 2) from hG 1 (hdep 1 (by kernel_rfl)))⟩
      · exact step_pure hs (wants_none rfl) rfl fun L u W hG hdep => run_extractV0 rfl (show IsTV rE (u 2) [stV K] (.int .i64 2) from hG 2 (hdep 2 (by kernel_rfl)))
      · exact step_pureO hs (wants_none rfl) rfl fun L u W hG hdep => run_extractV1 rfl (show IsTV rE (u 2) [stV K] (.int .i64 2) from hG 2 (hdep 2 (by kernel_rfl)))
      · exact step_alloc hs (wants_none rfl) rfl rfl (by omega) rfl allocE
      · exact step_store 5 hs (by kernel_rfl) (wants_none rfl) rfl rfl rfl (by kernel_rfl) (by kernel_rfl) (by kernel_rfl) (by kernel_rfl) (fun _ => rfl) (gives_op 3 rfl (by kernel_rfl) (fun _ => rfl)) tyE rfl
      · exact step_pureO hs (wants_none rfl) rfl fun L u W hG hdep => ⟨_, run_assign rfl, (show u 4 = .int .i64 2 from hG 4 (hdep 4 (by kernel_rfl)))⟩
    intro L6 u6a W6a hall hJ hG
    obtain ⟨q5, e5, hq5, _, ht5⟩ := (show ∃ g, u6a 5 = .pointer (some ⟨g, 0, none⟩) ∧ W5.heap.size ≤ g ∧ 0 < 5 ∧ W6a.there g 0 5 from hG 5 (by simp))
    have hm5 : HasFs rE W6a q5 0 [stV K] := by
      obtain ⟨g, e, _, h⟩ := (show ∃ g, u6a 5 = .pointer (some ⟨g, 0, none⟩) ∧ W5.heap.size ≤ g ∧ HasFs rE W6a g 0 [stV K] from hG 6 (by simp))
      rw [e5] at e; cases e; exact h
    have HD5_q2 := Lib.hid (show q2 ≠ q5 by have := there_lt ht2 (by omega); omega)
    have hq5 : w.heap.size ≤ q5 := by have := hbel0.size; omega
    have E5 := Lib.hid e5; clear e5
    have hb := hJ.all rfl
    have hbel := Below.call hbel hb
    have ht2 := there_later ht2 hb
    have HKB := Lib.hid (HKB.out.below' hb)
    have HC6 := Lib.hid (show u6a 7 = .int .i64 2 from hG 7 (by simp))
    have hbel0 := hbel
    clear hJ hG hall hb
    go_upto_region 7 with fail
    refine wp_region_turn (fun u => (.slice (some ⟨gB, 0, none⟩) 32 cB :: undef :: u0 0 :: u0 1 :: u3 5 :: u6a 5 :: u6a 7 :: undef :: undef :: undef :: u1 0 :: u1 1 :: .bool false :: undef :: u3 0 :: u3 1 :: u3 2 :: u3 3 :: u3 4 :: .slice (some ⟨bb, q, none⟩) 32 cap :: .slice (some ⟨gB, 0, none⟩) 32 cB :: u5 0 :: u5 1 :: u5 2 :: u5 3 :: u5 4 :: u6a 2 :: u6a 0 :: u6a 1 :: u6a 3 :: u6a 4 :: u 0 :: u 1 :: undef :: undef :: undef :: undef :: undef :: undef :: undef :: undef :: undef :: undef :: undef :: undef :: undef :: undef :: undef :: undef :: undef :: undef :: undef :: undef :: undef :: undef :: undef :: undef :: undef :: undef :: undef :: undef :: undef :: undef :: undef :: undef :: undef :: undef :: undef :: undef :: undef :: []).toArray) (Holds [.oth (fun v => v = .int .i64 2), .oth (fun v => v = .bool true)] W6a) (Keep [.oth (fun v => v = .int .i64 2), .oth (fun v => v = .bool true)] W6a) (fun _ => undef) ?_ (by rfl) Keep.start (holds_soft (by kernel_rfl)) ?_ ?_
    · intro u i v h
      rcases i with _ | _ | i
      all_goals first | (simp [Act.put, putV]; done) | (exfalso; simp at h; omega)
    · intro hs
      refine ⟨?_, ?_, trivial⟩
      · exact step_pureO hs (wants_none rfl) rfl fun L u W hG hdep => ⟨_, run_move rfl, HC6.out⟩
      · refine step_pureO hs (wants_none rfl) rfl fun L u W hG hdep => ⟨_, ?_, rfl⟩
        have e0 := (show u 0 = .int .i64 2 from hG 0 (hdep 0 (by kernel_rfl)))
        go_simp
        try simp [bne]
    intro L7 u7a W7a hall hJ hG
    have hb := hJ.all rfl
    have hbel := Below.call hbel hb
    have hm5 := hm5.later hb
    have ht2 := there_later ht2 hb
    have ht5 := there_later ht5 hb
    have HKB := Lib.hid (HKB.out.below' hb)
    have HC32 := Lib.hid (show u7a 1 = .bool true from hG 1 (by simp))
    have hbel0 := hbel
    clear hJ hG hall hb
    have hx : u7a 1 = .bool true := HC32.out
    go_wp2_with fail
    rw [hx]
    clear hx
    go_upto_region 8 with fail
    refine wp_region_turn (fun u => (.slice (some ⟨gB, 0, none⟩) 32 cB :: undef :: u0 0 :: u 2 :: u3 5 :: u6a 5 :: u6a 7 :: undef :: undef :: undef :: u1 0 :: u1 1 :: .bool false :: undef :: u3 0 :: u3 1 :: u3 2 :: u3 3 :: u3 4 :: .slice (some ⟨bb, q, none⟩) 32 cap :: .slice (some ⟨gB, 0, none⟩) 32 cB :: u5 0 :: u5 1 :: u5 2 :: u5 3 :: u5 4 :: u6a 2 :: u6a 0 :: u6a 1 :: u6a 3 :: u6a 4 :: u7a 0 :: .bool true :: u 0 :: undef :: undef :: undef :: undef :: undef :: undef :: undef :: undef :: undef :: undef :: undef :: undef :: undef :: undef :: undef :: undef :: undef :: undef :: undef :: undef :: undef :: undef :: undef :: undef :: undef :: undef :: undef :: undef :: undef :: undef :: undef :: undef :: undef :: undef :: undef :: undef :: []).toArray) (Holds [.val rP [Cp.zero], .sto q2 rP [Cp.zero], .oth (fun v => v = .int .i64 12)] W7a) (Keep [.val rP [Cp.zero], .sto q2 rP [Cp.zero], .oth (fun v => v = .int .i64 12)] W7a) (fun k => ((undef :: undef :: u0 1 :: []) : List Value).getD k undef) ?_ (by rfl) Keep.start (holds_soft (by kernel_rfl)) ?_ ?_
    · intro u i v h
      rcases i with _ | _ | _ | i
      all_goals first | (simp [Act.put, putV]; done) | (exfalso; simp at h; omega)
    · intro hs
      refine ⟨?_, ?_, ?_, trivial⟩
      · exact step_pure hs (wants_none rfl) rfl fun L u W hG hdep => run_build0 rfl (build_P0 W)
      · refine step_storeO q2 20 hs (wants_none rfl) rfl rfl (by kernel_rfl) (fun k hk => ?_) (fun _ => E2.out) (there_lt ht2 (by omega)) ht2 (gives_op 0 rfl (by kernel_rfl) (fun _ => rfl)) tyP rfl
        rcases k with _ | _ | _ | k
        all_goals first | (exact absurd rfl hk) | (intro e; cases e; done)
      · exact step_pureO hs (wants_none rfl) rfl fun L u W hG hdep => ⟨_, run_assign rfl, rfl⟩
    intro L8 u8a W8a hall hJ hG
    have hb : Below w.heap.size W7a W8a := hJ.below (by have := hbel.size; omega) (fun k b hf => by rcases k with _ | _ | _ | k <;> first | (cases hf; done) | (cases hf; omega))
    have hbel := hbel.trans hb
    have hm5 := hm5.blk (hJ.block _ (hm5.lt) (fun k hk => by rcases k with _ | _ | _ | k <;> first | (cases hk; done) | (cases hk; exact absurd rfl HD5_q2.out)))
    have ht5 := there_blk ht5 (hJ.block _ (there_lt ht5 (by omega)) (fun k hk => by rcases k with _ | _ | _ | k <;> first | (cases hk; done) | (cases hk; exact absurd rfl HD5_q2.out)))
    have HKB := Lib.hid (blk_keep HKB.out (hJ.block _ (HKB.out.lt) (fun k hk => by rcases k with _ | _ | _ | k <;> first | (cases hk; done) | (cases hk; exact absurd rfl HE_q2.out))))
    obtain ⟨_, hs8_1t, hs8_1⟩ := (show _ ∧ W8a.there q2 0 20 ∧ HasFs rP W8a q2 0 [Cp.zero] from hG 1 (by simp))
    have HC3 := Lib.hid (show u8a 2 = .int .i64 12 from hG 2 (by simp))
    have hbel0 := hbel
    clear hJ hG hall hb
    go_wp2
    exact ret_cell_slot (R := rP) Try.results21 (by exact E2.out) (by exact HC3.out) hs8_1 tyP rfl (fun r hr => ⟨r, by rw [(dec_big HLW.out).2], by rw [(dec_big HLW.out).1]; exact hr, hbel⟩)
  · have HLW := Lib.hid hlow; clear hlow
    have HC2 := Lib.hid (stC_clr HL.out HLW.out)
    have HV0 := Lib.hid (stV_clr HL.out HLW.out)
    generalize clr l = K at *
    generalize hy : fn (lowN l) = y at *
    have HY := Lib.hid hy; clear hy
    go_upto_region 6 with fail
    refine wp_region_turn (fun u => (.slice (some ⟨gB, 0, none⟩) 32 cB :: undef :: u0 0 :: u0 1 :: u3 5 :: u 5 :: u 7 :: undef :: undef :: undef :: u1 0 :: u1 1 :: .bool false :: undef :: u3 0 :: u3 1 :: u3 2 :: u3 3 :: u3 4 :: .slice (some ⟨bb, q, none⟩) 32 cap :: .slice (some ⟨gB, 0, none⟩) 32 cB :: u5 0 :: u5 1 :: u5 2 :: u5 3 :: u5 4 :: u 2 :: u 0 :: u 1 :: u 3 :: u 4 :: undef :: undef :: undef :: undef :: undef :: undef :: undef :: undef :: undef :: undef :: undef :: undef :: undef :: undef :: undef :: undef :: undef :: undef :: undef :: undef :: undef :: undef :: undef :: undef :: undef :: undef :: undef :: undef :: undef :: undef :: undef :: undef :: undef :: undef :: undef :: undef :: undef :: undef :: undef :: []).toArray) (Holds [.oth (fun v => v = .slice (some ⟨gB, 0, none⟩) 32 cB), .oth (fun v => IsTV rE v [y] (.int .i64 0)), .oth (fun v => IsTV rE v [y] (.int .i64 0)), .val rE [y], .oth (fun v => v = .int .i64 0), .new 5, .st 5 rE [y], .oth (fun v => v = .int .i64 0)] W5) (Keep [.oth (fun v => v = .slice (some ⟨gB, 0, none⟩) 32 cB), .oth (fun v => IsTV rE v [y] (.int .i64 0)), .oth (fun v => IsTV rE v [y] (.int .i64 0)), .val rE [y], .oth (fun v => v = .int .i64 0), .new 5, .st 5 rE [y], .oth (fun v => v = .int .i64 0)] W5) (fun _ => undef) ?_ (by rfl) Keep.start (holds_soft (by kernel_rfl)) ?_ ?_
    · intro u i v h
      rcases i with _ | _ | _ | _ | _ | _ | _ | _ | i
      all_goals first | (simp [Act.put, putV]; done) | (exfalso; simp at h; omega)
    · intro hs
      refine ⟨?_, ?_, ?_, ?_, ?_, ?_, ?_, ?_, trivial⟩
      · exact step_pureO hs (wants_none rfl) rfl fun L u W hG hdep => ⟨_, run_move rfl, rfl⟩
      · refine step_callO hs (wants_none rfl) rfl fun L u W hJ hG hL hdep K hK => ?_
        have x0 := (show u 0 = .slice (some ⟨gB, 0, none⟩) 32 cB from hG 0 (hdep 0 (by kernel_rfl)))
        have hRB0 := (RdB.blk rB HKB.out HKL.out hcB hmB).below (hJ.all rfl)
        go_simp
        go_at_call 40
        (with_reducible refine (cStrict' HV0.out HC2.out hRB0).mono ?_); rintro e w1 ⟨r, rfl, hr, hb⟩
        have hk := hK.out _ _ ⟨r, rfl, hr⟩ hb
        simp only [x0] at hk
        exact hk
      · exact step_pureO hs (wants_none rfl) rfl fun L u W hG hdep => ⟨_, run_move rfl, (show IsTV rE (u 1) [y] (.int .i64 0) from hG 1 (hdep 1 (by kernel_rfl)))⟩
      · exact step_pure hs (wants_none rfl) rfl fun L u W hG hdep => run_extractV0 rfl (show IsTV rE (u 2) [y] (.int .i64 0) from hG 2 (hdep 2 (by kernel_rfl)))
      · exact step_pureO hs (wants_none rfl) rfl fun L u W hG hdep => run_extractV1 rfl (show IsTV rE (u 2) [y] (.int .i64 0) from hG 2 (hdep 2 (by kernel_rfl)))
      · exact step_alloc hs (wants_none rfl) rfl rfl (by omega) rfl allocE
      · exact step_store 5 hs (by kernel_rfl) (wants_none rfl) rfl rfl rfl (by kernel_rfl) (by kernel_rfl) (by kernel_rfl) (by kernel_rfl) (fun _ => rfl) (gives_op 3 rfl (by kernel_rfl) (fun _ => rfl)) tyE rfl
      · exact step_pureO hs (wants_none rfl) rfl fun L u W hG hdep => ⟨_, run_assign rfl, (show u 4 = .int .i64 0 from hG 4 (hdep 4 (by kernel_rfl)))⟩
    intro L6 u6b W6b hall hJ hG
    obtain ⟨q5, e5, hq5, _, ht5⟩ := (show ∃ g, u6b 5 = .pointer (some ⟨g, 0, none⟩) ∧ W5.heap.size ≤ g ∧ 0 < 5 ∧ W6b.there g 0 5 from hG 5 (by simp))
    have hm5 : HasFs rE W6b q5 0 [y] := by
      obtain ⟨g, e, _, h⟩ := (show ∃ g, u6b 5 = .pointer (some ⟨g, 0, none⟩) ∧ W5.heap.size ≤ g ∧ HasFs rE W6b g 0 [y] from hG 6 (by simp))
      rw [e5] at e; cases e; exact h
    have HD5_q2 := Lib.hid (show q2 ≠ q5 by have := there_lt ht2 (by omega); omega)
    have hq5 : w.heap.size ≤ q5 := by have := hbel0.size; omega
    have E5 := Lib.hid e5; clear e5
    have hb := hJ.all rfl
    have hbel := Below.call hbel hb
    have ht2 := there_later ht2 hb
    have HKB := Lib.hid (HKB.out.below' hb)
    have HC6 := Lib.hid (show u6b 7 = .int .i64 0 from hG 7 (by simp))
    have hbel0 := hbel
    clear hJ hG hall hb
    go_upto_region 7 with fail
    refine wp_region_turn (fun u => (.slice (some ⟨gB, 0, none⟩) 32 cB :: undef :: u0 0 :: u0 1 :: u3 5 :: u6b 5 :: u6b 7 :: undef :: undef :: undef :: u1 0 :: u1 1 :: .bool false :: undef :: u3 0 :: u3 1 :: u3 2 :: u3 3 :: u3 4 :: .slice (some ⟨bb, q, none⟩) 32 cap :: .slice (some ⟨gB, 0, none⟩) 32 cB :: u5 0 :: u5 1 :: u5 2 :: u5 3 :: u5 4 :: u6b 2 :: u6b 0 :: u6b 1 :: u6b 3 :: u6b 4 :: u 0 :: u 1 :: undef :: undef :: undef :: undef :: undef :: undef :: undef :: undef :: undef :: undef :: undef :: undef :: undef :: undef :: undef :: undef :: undef :: undef :: undef :: undef :: undef :: undef :: undef :: undef :: undef :: undef :: undef :: undef :: undef :: undef :: undef :: undef :: undef :: undef :: undef :: undef :: undef :: []).toArray) (Holds [.oth (fun v => v = .int .i64 0), .oth (fun v => v = .bool false)] W6b) (Keep [.oth (fun v => v = .int .i64 0), .oth (fun v => v = .bool false)] W6b) (fun _ => undef) ?_ (by rfl) Keep.start (holds_soft (by kernel_rfl)) ?_ ?_
    · intro u i v h
      rcases i with _ | _ | i
      all_goals first | (simp [Act.put, putV]; done) | (exfalso; simp at h; omega)
    · intro hs
      refine ⟨?_, ?_, trivial⟩
      · exact step_pureO hs (wants_none rfl) rfl fun L u W hG hdep => ⟨_, run_move rfl, HC6.out⟩
      · refine step_pureO hs (wants_none rfl) rfl fun L u W hG hdep => ⟨_, ?_, rfl⟩
        have e0 := (show u 0 = .int .i64 0 from hG 0 (hdep 0 (by kernel_rfl)))
        go_simp
        try simp [bne]
    intro L7 u7b W7b hall hJ hG
    have hb := hJ.all rfl
    have hbel := Below.call hbel hb
    have hm5 := hm5.later hb
    have ht2 := there_later ht2 hb
    have ht5 := there_later ht5 hb
    have HKB := Lib.hid (HKB.out.below' hb)
    have HC32 := Lib.hid (show u7b 1 = .bool false from hG 1 (by simp))
    have hbel0 := hbel
    clear hJ hG hall hb
    have hx : u7b 1 = .bool false := HC32.out
    go_wp2_with fail
    rw [hx]
    clear hx
    go_upto_region 9 with fail
    refine wp_region_mid (fun u => (.slice (some ⟨gB, 0, none⟩) 32 cB :: undef :: u0 0 :: u0 1 :: u3 5 :: u6b 5 :: u6b 7 :: u 4 :: u 5 :: undef :: u1 0 :: u1 1 :: .bool false :: undef :: u3 0 :: u3 1 :: u3 2 :: u3 3 :: u3 4 :: .slice (some ⟨bb, q, none⟩) 32 cap :: .slice (some ⟨gB, 0, none⟩) 32 cB :: u5 0 :: u5 1 :: u5 2 :: u5 3 :: u5 4 :: u6b 2 :: u6b 0 :: u6b 1 :: u6b 3 :: u6b 4 :: u7b 0 :: .bool false :: undef :: u 0 :: u 1 :: u 2 :: u 3 :: undef :: undef :: undef :: undef :: undef :: undef :: undef :: undef :: undef :: undef :: undef :: undef :: undef :: undef :: undef :: undef :: undef :: undef :: undef :: undef :: undef :: undef :: undef :: undef :: undef :: undef :: undef :: undef :: undef :: undef :: undef :: undef :: []).toArray) (Holds [.val rE [fn 1], .val rE [y], .val rE [y], .val rE [y * y], .new 5, .new 5, .st 4 rE [fn 1], .st 5 rE [y * y]] W7b) (Keep [.val rE [fn 1], .val rE [y], .val rE [y], .val rE [y * y], .new 5, .new 5, .st 4 rE [fn 1], .st 5 rE [y * y]] W7b) (fun _ => undef) (by kernel_rfl) (by kernel_rfl) ?_ (by rfl) Keep.drew (holds_soft (by kernel_rfl)) ?_ ?_
    · intro u i v h
      rcases i with _ | _ | _ | _ | _ | _ | _ | _ | i
      all_goals first | (simp [Act.put, putV]; done) | (exfalso; simp at h; omega)
    · intro hs
      refine ⟨?_, ?_, ?_, ?_, ?_, ?_, ?_, ?_, trivial⟩
      · refine step_call hs (wants_none rfl) rfl fun L u W hJ hG hL hdep K hK => ?_
        go_simp
        go_at_call 41
        (with_reducible refine (cSmallI (n := 1) (z := 1) rfl (by omega) _).mono ?_); rintro e w1 ⟨r, rfl, hr, hb⟩
        have hk := hK.out _ _ hr hb
        exact hk
      · exact step_load q5 0 hs (wants_none rfl) rfl rfl tyE (fun _ => E5.out) hm5.lt hm5 (noSto_apart (by kernel_rfl))
      · exact step_load q5 0 hs (wants_none rfl) rfl rfl tyE (fun _ => E5.out) hm5.lt hm5 (noSto_apart (by kernel_rfl))
      · refine step_call hs (wants_none rfl) rfl fun L u W hJ hG hL hdep K hK => ?_
        have a0 := (show IsFs rE (u 1) [y] from hG 1 (hdep 1 (by kernel_rfl)))
        have a1 := (show IsFs rE (u 2) [y] from hG 2 (hdep 2 (by kernel_rfl)))
        go_simp
        go_at_call 42
        (with_reducible refine (cMul a0 a1 _).mono ?_); rintro e w1 ⟨r, rfl, hr, hb⟩
        have hk := hK.out _ _ hr hb
        exact hk
      · exact step_alloc hs (wants_none rfl) rfl rfl (by omega) rfl allocE
      · exact step_alloc hs (wants_none rfl) rfl rfl (by omega) rfl allocE
      · exact step_store 4 hs (by kernel_rfl) (wants_none rfl) rfl rfl rfl (by kernel_rfl) (by kernel_rfl) (by kernel_rfl) (by kernel_rfl) (fun _ => rfl) (gives_op 0 rfl (by kernel_rfl) (fun _ => rfl)) tyE rfl
      · exact step_store 5 hs (by kernel_rfl) (wants_none rfl) rfl rfl rfl (by kernel_rfl) (by kernel_rfl) (by kernel_rfl) (by kernel_rfl) (fun _ => rfl) (gives_op 3 rfl (by kernel_rfl) (fun _ => rfl)) tyE rfl
    intro L9 u9b W9b hall hJ hG
    obtain ⟨q7, e7, hq7, _, ht7⟩ := (show ∃ g, u9b 4 = .pointer (some ⟨g, 0, none⟩) ∧ W7b.heap.size ≤ g ∧ 0 < 5 ∧ W9b.there g 0 5 from hG 4 (by simp))
    have hm7 : HasFs rE W9b q7 0 [fn 1] := by
      obtain ⟨g, e, _, h⟩ := (show ∃ g, u9b 4 = .pointer (some ⟨g, 0, none⟩) ∧ W7b.heap.size ≤ g ∧ HasFs rE W9b g 0 [fn 1] from hG 6 (by simp))
      rw [e7] at e; cases e; exact h
    have HD7_q2 := Lib.hid (show q2 ≠ q7 by have := there_lt ht2 (by omega); omega)
    have HD7_q5 := Lib.hid (show q5 ≠ q7 by have := there_lt ht5 (by omega); omega)
    have hq7 : w.heap.size ≤ q7 := by have := hbel0.size; omega
    have E7 := Lib.hid e7; clear e7
    obtain ⟨q8, e8, hq8, _, ht8⟩ := (show ∃ g, u9b 5 = .pointer (some ⟨g, 0, none⟩) ∧ W7b.heap.size ≤ g ∧ 0 < 5 ∧ W9b.there g 0 5 from hG 5 (by simp))
    have hm8 : HasFs rE W9b q8 0 [y * y] := by
      obtain ⟨g, e, _, h⟩ := (show ∃ g, u9b 5 = .pointer (some ⟨g, 0, none⟩) ∧ W7b.heap.size ≤ g ∧ HasFs rE W9b g 0 [y * y] from hG 7 (by simp))
      rw [e8] at e; cases e; exact h
    have HD8_q2 := Lib.hid (show q2 ≠ q8 by have := there_lt ht2 (by omega); omega)
    have HD8_q5 := Lib.hid (show q5 ≠ q8 by have := there_lt ht5 (by omega); omega)
    have hq8 : w.heap.size ≤ q8 := by have := hbel0.size; omega
    have E8 := Lib.hid e8; clear e8
    have hb := hJ.all rfl
    have hbel := Below.call hbel hb
    have hm5 := hm5.later hb
    have ht2 := there_later ht2 hb
    have ht5 := there_later ht5 hb
    have HKB := Lib.hid (HKB.out.below' hb)
    have HN7_8 := Lib.hid (show q7 ≠ q8 from fun e => hJ.apart 4 5 _ (by omega) (hall _ (by simp)) (hall _ (by simp)) rfl rfl (E7.out.trans (by rw [e])) E8.out)
    have hbel0 := hbel
    clear hJ hG hall hb
    obtain ⟨X, hX⟩ : ∃ X, rootV (xx y) = X := ⟨_, rfl⟩
    have HX := Lib.hid hX; clear hX
    by_cases hrc : rootC (xx y) = 0
    rotate_left
    · have HR7 := Lib.hid hrc; have HRC := Lib.hid (root_7 hrc); clear hrc
      go_upto_region 10 with fail
      refine wp_region_mid (fun u => (.slice (some ⟨gB, 0, none⟩) 32 cB :: undef :: u0 0 :: u0 1 :: u3 5 :: u6b 5 :: u 16 :: u9b 4 :: u9b 5 :: u 14 :: u1 0 :: u1 1 :: .bool false :: undef :: u3 0 :: u3 1 :: u3 2 :: u3 3 :: u3 4 :: .slice (some ⟨bb, q, none⟩) 32 cap :: .slice (some ⟨gB, 0, none⟩) 32 cB :: u5 0 :: u5 1 :: u5 2 :: u5 3 :: u5 4 :: u6b 2 :: u6b 0 :: u6b 1 :: u6b 3 :: u6b 4 :: u7b 0 :: .bool false :: undef :: u9b 0 :: u9b 1 :: u9b 2 :: u9b 3 :: u 11 :: u 0 :: u 1 :: u 2 :: u 3 :: u 4 :: u 5 :: u 6 :: u 7 :: u 8 :: u 9 :: u 10 :: u 12 :: u 13 :: undef :: undef :: undef :: undef :: undef :: undef :: undef :: undef :: undef :: undef :: undef :: undef :: undef :: undef :: undef :: undef :: undef :: undef :: []).toArray) (Holds [.val rE [y * y], .val rE [fn 1], .val rE [(y * y) - (fn 1)], .val rE [y * y], .val rE [dE], .val rE [(y * y) * dE], .val rE [fn 1], .val rE [((y * y) * dE) + (fn 1)], .val rE [finv (((y * y) * dE) + (fn 1))], .val rE [((y * y) - (fn 1)) * (finv (((y * y) * dE) + (fn 1)))], .oth (fun v => IsTV rE v [X] (.int .i64 7)), .oth (fun v => IsTV rE v [X] (.int .i64 7)), .val rE [X], .oth (fun v => v = .int .i64 7), .new 5, .st 14 rE [X], .oth (fun v => v = .int .i64 7)] W9b) (Keep [.val rE [y * y], .val rE [fn 1], .val rE [(y * y) - (fn 1)], .val rE [y * y], .val rE [dE], .val rE [(y * y) * dE], .val rE [fn 1], .val rE [((y * y) * dE) + (fn 1)], .val rE [finv (((y * y) * dE) + (fn 1))], .val rE [((y * y) - (fn 1)) * (finv (((y * y) * dE) + (fn 1)))], .oth (fun v => IsTV rE v [X] (.int .i64 7)), .oth (fun v => IsTV rE v [X] (.int .i64 7)), .val rE [X], .oth (fun v => v = .int .i64 7), .new 5, .st 14 rE [X], .oth (fun v => v = .int .i64 7)] W9b) (fun k => ((undef :: undef :: undef :: undef :: undef :: undef :: undef :: undef :: undef :: undef :: undef :: undef :: undef :: undef :: undef :: undef :: u6b 7 :: []) : List Value).getD k undef) (by kernel_rfl) (by kernel_rfl) ?_ (by rfl) Keep.drew (holds_soft (by kernel_rfl)) ?_ ?_
      · intro u i v h
        rcases i with _ | _ | _ | _ | _ | _ | _ | _ | _ | _ | _ | _ | _ | _ | _ | _ | _ | i
        all_goals first | (simp [Act.put, putV]; done) | (exfalso; simp at h; omega)
      · intro hs
        refine ⟨?_, ?_, ?_, ?_, ?_, ?_, ?_, ?_, ?_, ?_, ?_, ?_, ?_, ?_, ?_, ?_, ?_, trivial⟩
        · exact step_load q8 0 hs (wants_none rfl) rfl rfl tyE (fun _ => E8.out) hm8.lt hm8 (noSto_apart (by kernel_rfl))
        · exact step_load q7 0 hs (wants_none rfl) rfl rfl tyE (fun _ => E7.out) hm7.lt hm7 (noSto_apart (by kernel_rfl))
        · refine step_call hs (wants_none rfl) rfl fun L u W hJ hG hL hdep K hK => ?_
          have a0 := (show IsFs rE (u 0) [y * y] from hG 0 (hdep 0 (by kernel_rfl)))
          have a1 := (show IsFs rE (u 1) [fn 1] from hG 1 (hdep 1 (by kernel_rfl)))
          go_simp
          go_at_call 43
          (with_reducible refine (cSub a0 a1 _).mono ?_); rintro e w1 ⟨r, rfl, hr, hb⟩
          have hk := hK.out _ _ hr hb
          exact hk
        · exact step_load q8 0 hs (wants_none rfl) rfl rfl tyE (fun _ => E8.out) hm8.lt hm8 (noSto_apart (by kernel_rfl))
        · refine step_call hs (wants_none rfl) rfl fun L u W hJ hG hL hdep K hK => ?_
          go_simp
          go_at_call 44
          (with_reducible refine (cD _).mono ?_); rintro e w1 ⟨r, rfl, hr, hb⟩
          have hk := hK.out _ _ hr hb
          exact hk
        · refine step_call hs (wants_none rfl) rfl fun L u W hJ hG hL hdep K hK => ?_
          have a0 := (show IsFs rE (u 3) [y * y] from hG 3 (hdep 3 (by kernel_rfl)))
          have a1 := (show IsFs rE (u 4) [dE] from hG 4 (hdep 4 (by kernel_rfl)))
          go_simp
          go_at_call 42
          (with_reducible refine (cMul a0 a1 _).mono ?_); rintro e w1 ⟨r, rfl, hr, hb⟩
          have hk := hK.out _ _ hr hb
          exact hk
        · exact step_load q7 0 hs (wants_none rfl) rfl rfl tyE (fun _ => E7.out) hm7.lt hm7 (noSto_apart (by kernel_rfl))
        · refine step_call hs (wants_none rfl) rfl fun L u W hJ hG hL hdep K hK => ?_
          have a0 := (show IsFs rE (u 5) [(y * y) * dE] from hG 5 (hdep 5 (by kernel_rfl)))
          have a1 := (show IsFs rE (u 6) [fn 1] from hG 6 (hdep 6 (by kernel_rfl)))
          go_simp
          go_at_call 45
          (with_reducible refine (cAdd a0 a1 _).mono ?_); rintro e w1 ⟨r, rfl, hr, hb⟩
          have hk := hK.out _ _ hr hb
          exact hk
        · refine step_call hs (wants_none rfl) rfl fun L u W hJ hG hL hdep K hK => ?_
          have a0 := (show IsFs rE (u 7) [((y * y) * dE) + (fn 1)] from hG 7 (hdep 7 (by kernel_rfl)))
          go_simp
          go_at_call 46
          (with_reducible refine (cInv a0 _).mono ?_); rintro e w1 ⟨r, rfl, hr, hb⟩
          have hk := hK.out _ _ hr hb
          exact hk
        · refine step_call hs (wants_none rfl) rfl fun L u W hJ hG hL hdep K hK => ?_
          have a0 := (show IsFs rE (u 2) [(y * y) - (fn 1)] from hG 2 (hdep 2 (by kernel_rfl)))
          have a1 := (show IsFs rE (u 8) [finv (((y * y) * dE) + (fn 1))] from hG 8 (hdep 8 (by kernel_rfl)))
          go_simp
          go_at_call 42
          (with_reducible refine (cMul a0 a1 _).mono ?_); rintro e w1 ⟨r, rfl, hr, hb⟩
          have hk := hK.out _ _ hr hb
          exact hk
        · refine step_callO hs (wants_none rfl) rfl fun L u W hJ hG hL hdep K hK => ?_
          have a0 := xx_fs ((show IsFs rE (u 9) [((y * y) - (fn 1)) * (finv (((y * y) * dE) + (fn 1)))] from hG 9 (hdep 9 (by kernel_rfl))))
          go_simp
          go_at_call 47
          (with_reducible refine (cRootN HX.out HRC.out a0 _).mono ?_); rintro e w1 ⟨r, rfl, hr, hb⟩
          have hk := hK.out _ _ ⟨r, rfl, hr⟩ hb
          exact hk
        · exact step_pureO hs (wants_none rfl) rfl fun L u W hG hdep => ⟨_, run_move rfl, (show IsTV rE (u 10) [X] (.int .i64 7) from hG 10 (hdep 10 (by kernel_rfl)))⟩
        · exact step_pure hs (wants_none rfl) rfl fun L u W hG hdep => run_extractV0 rfl (show IsTV rE (u 11) [X] (.int .i64 7) from hG 11 (hdep 11 (by kernel_rfl)))
        · exact step_pureO hs (wants_none rfl) rfl fun L u W hG hdep => run_extractV1 rfl (show IsTV rE (u 11) [X] (.int .i64 7) from hG 11 (hdep 11 (by kernel_rfl)))
        · exact step_alloc hs (wants_none rfl) rfl rfl (by omega) rfl allocE
        · exact step_store 14 hs (by kernel_rfl) (wants_none rfl) rfl rfl rfl (by kernel_rfl) (by kernel_rfl) (by kernel_rfl) (by kernel_rfl) (fun _ => rfl) (gives_op 12 rfl (by kernel_rfl) (fun _ => rfl)) tyE rfl
        · exact step_pureO hs (wants_none rfl) rfl fun L u W hG hdep => ⟨_, run_assign rfl, (show u 13 = .int .i64 7 from hG 13 (hdep 13 (by kernel_rfl)))⟩
      intro L10 u10c W10c hall hJ hG
      obtain ⟨q9, e9, hq9, _, ht9⟩ := (show ∃ g, u10c 14 = .pointer (some ⟨g, 0, none⟩) ∧ W9b.heap.size ≤ g ∧ 0 < 5 ∧ W10c.there g 0 5 from hG 14 (by simp))
      have hm9 : HasFs rE W10c q9 0 [X] := by
        obtain ⟨g, e, _, h⟩ := (show ∃ g, u10c 14 = .pointer (some ⟨g, 0, none⟩) ∧ W9b.heap.size ≤ g ∧ HasFs rE W10c g 0 [X] from hG 15 (by simp))
        rw [e9] at e; cases e; exact h
      have HD9_q2 := Lib.hid (show q2 ≠ q9 by have := there_lt ht2 (by omega); omega)
      have HD9_q5 := Lib.hid (show q5 ≠ q9 by have := there_lt ht5 (by omega); omega)
      have HD9_q7 := Lib.hid (show q7 ≠ q9 by have := there_lt ht7 (by omega); omega)
      have HD9_q8 := Lib.hid (show q8 ≠ q9 by have := there_lt ht8 (by omega); omega)
      have hq9 : w.heap.size ≤ q9 := by have := hbel0.size; omega
      have E9 := Lib.hid e9; clear e9
      have hb := hJ.all rfl
      have hbel := Below.call hbel hb
      have hm5 := hm5.later hb
      have hm7 := hm7.later hb
      have hm8 := hm8.later hb
      have ht2 := there_later ht2 hb
      have ht5 := there_later ht5 hb
      have ht7 := there_later ht7 hb
      have ht8 := there_later ht8 hb
      have HKB := Lib.hid (HKB.out.below' hb)
      have HC6 := Lib.hid (show u10c 16 = .int .i64 7 from hG 16 (by simp))
      have hbel0 := hbel
      clear hJ hG hall hb
      go_upto_region 11 with fail
      refine wp_region_turn (fun u => (.slice (some ⟨gB, 0, none⟩) 32 cB :: undef :: u0 0 :: u0 1 :: u3 5 :: u6b 5 :: u10c 16 :: u9b 4 :: u9b 5 :: u10c 14 :: u1 0 :: u1 1 :: .bool false :: undef :: u3 0 :: u3 1 :: u3 2 :: u3 3 :: u3 4 :: .slice (some ⟨bb, q, none⟩) 32 cap :: .slice (some ⟨gB, 0, none⟩) 32 cB :: u5 0 :: u5 1 :: u5 2 :: u5 3 :: u5 4 :: u6b 2 :: u6b 0 :: u6b 1 :: u6b 3 :: u6b 4 :: u7b 0 :: .bool false :: undef :: u9b 0 :: u9b 1 :: u9b 2 :: u9b 3 :: u10c 11 :: u10c 0 :: u10c 1 :: u10c 2 :: u10c 3 :: u10c 4 :: u10c 5 :: u10c 6 :: u10c 7 :: u10c 8 :: u10c 9 :: u10c 10 :: u10c 12 :: u10c 13 :: u 0 :: u 1 :: u 2 :: u 3 :: u 4 :: u 5 :: u 6 :: u 7 :: u 8 :: u 9 :: undef :: undef :: undef :: undef :: undef :: undef :: undef :: undef :: []).toArray) (Holds [.oth (fun v => v = .int .i64 7), .oth (fun v => v = .bool true), .oth (fun v => v = .bool true), .oth (fun v => v = undef), .oth (fun v => v = undef), .oth (fun v => v = undef), .oth (fun v => v = undef), .oth (fun v => v = undef), .oth (fun v => v = undef), .oth (fun v => v = .bool true)] W10c) (Keep [.oth (fun v => v = .int .i64 7), .oth (fun v => v = .bool true), .oth (fun v => v = .bool true), .oth (fun v => v = undef), .oth (fun v => v = undef), .oth (fun v => v = undef), .oth (fun v => v = undef), .oth (fun v => v = undef), .oth (fun v => v = undef), .oth (fun v => v = .bool true)] W10c) (fun _ => undef) ?_ (by rfl) Keep.start (holds_soft (by kernel_rfl)) ?_ ?_
      · intro u i v h
        rcases i with _ | _ | _ | _ | _ | _ | _ | _ | _ | _ | i
        all_goals first | (simp [Act.put, putV]; done) | (exfalso; simp at h; omega)
      · intro hs
        refine ⟨?_, ?_, ?_, ?_, ?_, ?_, ?_, ?_, ?_, ?_, trivial⟩
        · exact step_pureO hs (wants_none rfl) rfl fun L u W hG hdep => ⟨_, run_move rfl, HC6.out⟩
        · refine step_pureO hs (wants_none rfl) rfl fun L u W hG hdep => ⟨_, ?_, rfl⟩
          have e0 := (show u 0 = .int .i64 7 from hG 0 (hdep 0 (by kernel_rfl)))
          go_simp
          try simp [bne]
        · exact step_pureO hs (wants_none rfl) rfl fun L u W hG hdep => ⟨_, run_move rfl, (show u 1 = .bool true from hG 1 (hdep 1 (by kernel_rfl)))⟩
        · exact step_outU hs (wants_off 2 rfl rfl rfl (by kernel_rfl) (fun _ => rfl)) rfl
        · exact step_outU hs (wants_off 2 rfl rfl rfl (by kernel_rfl) (fun _ => rfl)) rfl
        · exact step_outU hs (wants_offU 4 rfl rfl (by kernel_rfl) (fun _ => rfl)) rfl
        · exact step_outU hs (wants_offU 4 rfl rfl (by kernel_rfl) (fun _ => rfl)) rfl
        · exact step_outU hs (wants_offU 4 rfl rfl (by kernel_rfl) (fun _ => rfl)) rfl
        · exact step_outU hs (wants_off 2 rfl rfl rfl (by kernel_rfl) (fun _ => rfl)) rfl
        · exact step_pick true hs (wants_none rfl) rfl rfl (fun L u W hG hdep => (show u 2 = .bool true from hG 2 (hdep 2 (by kernel_rfl)))) (fun L u W hG hdep => rfl)
      intro L11 u11c W11c hall hJ hG
      have hb := hJ.all rfl
      have hbel := Below.call hbel hb
      have hm5 := hm5.later hb
      have hm7 := hm7.later hb
      have hm8 := hm8.later hb
      have hm9 := hm9.later hb
      have ht2 := there_later ht2 hb
      have ht5 := there_later ht5 hb
      have ht7 := there_later ht7 hb
      have ht8 := there_later ht8 hb
      have ht9 := there_later ht9 hb
      have HKB := Lib.hid (HKB.out.below' hb)
      have HC53 := Lib.hid (show u11c 1 = .bool true from hG 1 (by simp))
      have HC54 := Lib.hid (show u11c 2 = .bool true from hG 2 (by simp))
      have HC61 := Lib.hid (show u11c 9 = .bool true from hG 9 (by simp))
      have hbel0 := hbel
      clear hJ hG hall hb
      have hx : u11c 9 = .bool true := HC61.out
      go_wp2_with fail
      rw [hx]
      clear hx
      go_upto_region 12 with fail
      refine wp_region_turn (fun u => (.slice (some ⟨gB, 0, none⟩) 32 cB :: undef :: u0 0 :: u 2 :: u3 5 :: u6b 5 :: u10c 16 :: u9b 4 :: u9b 5 :: u10c 14 :: u1 0 :: u1 1 :: .bool false :: undef :: u3 0 :: u3 1 :: u3 2 :: u3 3 :: u3 4 :: .slice (some ⟨bb, q, none⟩) 32 cap :: .slice (some ⟨gB, 0, none⟩) 32 cB :: u5 0 :: u5 1 :: u5 2 :: u5 3 :: u5 4 :: u6b 2 :: u6b 0 :: u6b 1 :: u6b 3 :: u6b 4 :: u7b 0 :: .bool false :: undef :: u9b 0 :: u9b 1 :: u9b 2 :: u9b 3 :: u10c 11 :: u10c 0 :: u10c 1 :: u10c 2 :: u10c 3 :: u10c 4 :: u10c 5 :: u10c 6 :: u10c 7 :: u10c 8 :: u10c 9 :: u10c 10 :: u10c 12 :: u10c 13 :: u11c 0 :: u11c 1 :: u11c 2 :: u11c 3 :: u11c 4 :: u11c 5 :: u11c 6 :: u11c 7 :: u11c 8 :: .bool true :: u 0 :: undef :: undef :: undef :: undef :: undef :: undef :: undef :: []).toArray) (Holds [.val rP [Cp.zero], .sto q2 rP [Cp.zero], .oth (fun v => v = .int .i64 12)] W11c) (Keep [.val rP [Cp.zero], .sto q2 rP [Cp.zero], .oth (fun v => v = .int .i64 12)] W11c) (fun k => ((undef :: undef :: u0 1 :: []) : List Value).getD k undef) ?_ (by rfl) Keep.start (holds_soft (by kernel_rfl)) ?_ ?_
      · intro u i v h
        rcases i with _ | _ | _ | i
        all_goals first | (simp [Act.put, putV]; done) | (exfalso; simp at h; omega)
      · intro hs
        refine ⟨?_, ?_, ?_, trivial⟩
        · exact step_pure hs (wants_none rfl) rfl fun L u W hG hdep => run_build0 rfl (build_P0 W)
        · refine step_storeO q2 20 hs (wants_none rfl) rfl rfl (by kernel_rfl) (fun k hk => ?_) (fun _ => E2.out) (there_lt ht2 (by omega)) ht2 (gives_op 0 rfl (by kernel_rfl) (fun _ => rfl)) tyP rfl
          rcases k with _ | _ | _ | k
          all_goals first | (exact absurd rfl hk) | (intro e; cases e; done)
        · exact step_pureO hs (wants_none rfl) rfl fun L u W hG hdep => ⟨_, run_assign rfl, rfl⟩
      intro L12 u12c W12c hall hJ hG
      have hb : Below w.heap.size W11c W12c := hJ.below (by have := hbel.size; omega) (fun k b hf => by rcases k with _ | _ | _ | k <;> first | (cases hf; done) | (cases hf; omega))
      have hbel := hbel.trans hb
      have hm5 := hm5.blk (hJ.block _ (hm5.lt) (fun k hk => by rcases k with _ | _ | _ | k <;> first | (cases hk; done) | (cases hk; exact absurd rfl HD5_q2.out)))
      have hm7 := hm7.blk (hJ.block _ (hm7.lt) (fun k hk => by rcases k with _ | _ | _ | k <;> first | (cases hk; done) | (cases hk; exact absurd rfl HD7_q2.out)))
      have hm8 := hm8.blk (hJ.block _ (hm8.lt) (fun k hk => by rcases k with _ | _ | _ | k <;> first | (cases hk; done) | (cases hk; exact absurd rfl HD8_q2.out)))
      have hm9 := hm9.blk (hJ.block _ (hm9.lt) (fun k hk => by rcases k with _ | _ | _ | k <;> first | (cases hk; done) | (cases hk; exact absurd rfl HD9_q2.out)))
      have ht5 := there_blk ht5 (hJ.block _ (there_lt ht5 (by omega)) (fun k hk => by rcases k with _ | _ | _ | k <;> first | (cases hk; done) | (cases hk; exact absurd rfl HD5_q2.out)))
      have ht7 := there_blk ht7 (hJ.block _ (there_lt ht7 (by omega)) (fun k hk => by rcases k with _ | _ | _ | k <;> first | (cases hk; done) | (cases hk; exact absurd rfl HD7_q2.out)))
      have ht8 := there_blk ht8 (hJ.block _ (there_lt ht8 (by omega)) (fun k hk => by rcases k with _ | _ | _ | k <;> first | (cases hk; done) | (cases hk; exact absurd rfl HD8_q2.out)))
      have ht9 := there_blk ht9 (hJ.block _ (there_lt ht9 (by omega)) (fun k hk => by rcases k with _ | _ | _ | k <;> first | (cases hk; done) | (cases hk; exact absurd rfl HD9_q2.out)))
      have HKB := Lib.hid (blk_keep HKB.out (hJ.block _ (HKB.out.lt) (fun k hk => by rcases k with _ | _ | _ | k <;> first | (cases hk; done) | (cases hk; exact absurd rfl HE_q2.out))))
      obtain ⟨_, hs12_1t, hs12_1⟩ := (show _ ∧ W12c.there q2 0 20 ∧ HasFs rP W12c q2 0 [Cp.zero] from hG 1 (by simp))
      have HC3 := Lib.hid (show u12c 2 = .int .i64 12 from hG 2 (by simp))
      have hbel0 := hbel
      clear hJ hG hall hb
      go_wp2
      exact ret_cell_slot (R := rP) Try.results21 (by exact E2.out) (by exact HC3.out) hs12_1 tyP rfl (fun r hr => ⟨r, by rw [(dec_root HL.out HLW.out HY.out HR7.out).2], by rw [(dec_root HL.out HLW.out HY.out HR7.out).1]; exact hr, hbel⟩)
    · have HRC := Lib.hid hrc; clear hrc
      go_upto_region 10 with fail
      refine wp_region_mid (fun u => (.slice (some ⟨gB, 0, none⟩) 32 cB :: undef :: u0 0 :: u0 1 :: u3 5 :: u6b 5 :: u 16 :: u9b 4 :: u9b 5 :: u 14 :: u1 0 :: u1 1 :: .bool false :: undef :: u3 0 :: u3 1 :: u3 2 :: u3 3 :: u3 4 :: .slice (some ⟨bb, q, none⟩) 32 cap :: .slice (some ⟨gB, 0, none⟩) 32 cB :: u5 0 :: u5 1 :: u5 2 :: u5 3 :: u5 4 :: u6b 2 :: u6b 0 :: u6b 1 :: u6b 3 :: u6b 4 :: u7b 0 :: .bool false :: undef :: u9b 0 :: u9b 1 :: u9b 2 :: u9b 3 :: u 11 :: u 0 :: u 1 :: u 2 :: u 3 :: u 4 :: u 5 :: u 6 :: u 7 :: u 8 :: u 9 :: u 10 :: u 12 :: u 13 :: undef :: undef :: undef :: undef :: undef :: undef :: undef :: undef :: undef :: undef :: undef :: undef :: undef :: undef :: undef :: undef :: undef :: undef :: []).toArray) (Holds [.val rE [y * y], .val rE [fn 1], .val rE [(y * y) - (fn 1)], .val rE [y * y], .val rE [dE], .val rE [(y * y) * dE], .val rE [fn 1], .val rE [((y * y) * dE) + (fn 1)], .val rE [finv (((y * y) * dE) + (fn 1))], .val rE [((y * y) - (fn 1)) * (finv (((y * y) * dE) + (fn 1)))], .oth (fun v => IsTV rE v [X] (.int .i64 0)), .oth (fun v => IsTV rE v [X] (.int .i64 0)), .val rE [X], .oth (fun v => v = .int .i64 0), .new 5, .st 14 rE [X], .oth (fun v => v = .int .i64 0)] W9b) (Keep [.val rE [y * y], .val rE [fn 1], .val rE [(y * y) - (fn 1)], .val rE [y * y], .val rE [dE], .val rE [(y * y) * dE], .val rE [fn 1], .val rE [((y * y) * dE) + (fn 1)], .val rE [finv (((y * y) * dE) + (fn 1))], .val rE [((y * y) - (fn 1)) * (finv (((y * y) * dE) + (fn 1)))], .oth (fun v => IsTV rE v [X] (.int .i64 0)), .oth (fun v => IsTV rE v [X] (.int .i64 0)), .val rE [X], .oth (fun v => v = .int .i64 0), .new 5, .st 14 rE [X], .oth (fun v => v = .int .i64 0)] W9b) (fun k => ((undef :: undef :: undef :: undef :: undef :: undef :: undef :: undef :: undef :: undef :: undef :: undef :: undef :: undef :: undef :: undef :: u6b 7 :: []) : List Value).getD k undef) (by kernel_rfl) (by kernel_rfl) ?_ (by rfl) Keep.drew (holds_soft (by kernel_rfl)) ?_ ?_
      · intro u i v h
        rcases i with _ | _ | _ | _ | _ | _ | _ | _ | _ | _ | _ | _ | _ | _ | _ | _ | _ | i
        all_goals first | (simp [Act.put, putV]; done) | (exfalso; simp at h; omega)
      · intro hs
        refine ⟨?_, ?_, ?_, ?_, ?_, ?_, ?_, ?_, ?_, ?_, ?_, ?_, ?_, ?_, ?_, ?_, ?_, trivial⟩
        · exact step_load q8 0 hs (wants_none rfl) rfl rfl tyE (fun _ => E8.out) hm8.lt hm8 (noSto_apart (by kernel_rfl))
        · exact step_load q7 0 hs (wants_none rfl) rfl rfl tyE (fun _ => E7.out) hm7.lt hm7 (noSto_apart (by kernel_rfl))
        · refine step_call hs (wants_none rfl) rfl fun L u W hJ hG hL hdep K hK => ?_
          have a0 := (show IsFs rE (u 0) [y * y] from hG 0 (hdep 0 (by kernel_rfl)))
          have a1 := (show IsFs rE (u 1) [fn 1] from hG 1 (hdep 1 (by kernel_rfl)))
          go_simp
          go_at_call 43
          (with_reducible refine (cSub a0 a1 _).mono ?_); rintro e w1 ⟨r, rfl, hr, hb⟩
          have hk := hK.out _ _ hr hb
          exact hk
        · exact step_load q8 0 hs (wants_none rfl) rfl rfl tyE (fun _ => E8.out) hm8.lt hm8 (noSto_apart (by kernel_rfl))
        · refine step_call hs (wants_none rfl) rfl fun L u W hJ hG hL hdep K hK => ?_
          go_simp
          go_at_call 44
          (with_reducible refine (cD _).mono ?_); rintro e w1 ⟨r, rfl, hr, hb⟩
          have hk := hK.out _ _ hr hb
          exact hk
        · refine step_call hs (wants_none rfl) rfl fun L u W hJ hG hL hdep K hK => ?_
          have a0 := (show IsFs rE (u 3) [y * y] from hG 3 (hdep 3 (by kernel_rfl)))
          have a1 := (show IsFs rE (u 4) [dE] from hG 4 (hdep 4 (by kernel_rfl)))
          go_simp
          go_at_call 42
          (with_reducible refine (cMul a0 a1 _).mono ?_); rintro e w1 ⟨r, rfl, hr, hb⟩
          have hk := hK.out _ _ hr hb
          exact hk
        · exact step_load q7 0 hs (wants_none rfl) rfl rfl tyE (fun _ => E7.out) hm7.lt hm7 (noSto_apart (by kernel_rfl))
        · refine step_call hs (wants_none rfl) rfl fun L u W hJ hG hL hdep K hK => ?_
          have a0 := (show IsFs rE (u 5) [(y * y) * dE] from hG 5 (hdep 5 (by kernel_rfl)))
          have a1 := (show IsFs rE (u 6) [fn 1] from hG 6 (hdep 6 (by kernel_rfl)))
          go_simp
          go_at_call 45
          (with_reducible refine (cAdd a0 a1 _).mono ?_); rintro e w1 ⟨r, rfl, hr, hb⟩
          have hk := hK.out _ _ hr hb
          exact hk
        · refine step_call hs (wants_none rfl) rfl fun L u W hJ hG hL hdep K hK => ?_
          have a0 := (show IsFs rE (u 7) [((y * y) * dE) + (fn 1)] from hG 7 (hdep 7 (by kernel_rfl)))
          go_simp
          go_at_call 46
          (with_reducible refine (cInv a0 _).mono ?_); rintro e w1 ⟨r, rfl, hr, hb⟩
          have hk := hK.out _ _ hr hb
          exact hk
        · refine step_call hs (wants_none rfl) rfl fun L u W hJ hG hL hdep K hK => ?_
          have a0 := (show IsFs rE (u 2) [(y * y) - (fn 1)] from hG 2 (hdep 2 (by kernel_rfl)))
          have a1 := (show IsFs rE (u 8) [finv (((y * y) * dE) + (fn 1))] from hG 8 (hdep 8 (by kernel_rfl)))
          go_simp
          go_at_call 42
          (with_reducible refine (cMul a0 a1 _).mono ?_); rintro e w1 ⟨r, rfl, hr, hb⟩
          have hk := hK.out _ _ hr hb
          exact hk
        · refine step_callO hs (wants_none rfl) rfl fun L u W hJ hG hL hdep K hK => ?_
          have a0 := xx_fs ((show IsFs rE (u 9) [((y * y) - (fn 1)) * (finv (((y * y) * dE) + (fn 1)))] from hG 9 (hdep 9 (by kernel_rfl))))
          go_simp
          go_at_call 47
          (with_reducible refine (cRootN HX.out HRC.out a0 _).mono ?_); rintro e w1 ⟨r, rfl, hr, hb⟩
          have hk := hK.out _ _ ⟨r, rfl, hr⟩ hb
          exact hk
        · exact step_pureO hs (wants_none rfl) rfl fun L u W hG hdep => ⟨_, run_move rfl, (show IsTV rE (u 10) [X] (.int .i64 0) from hG 10 (hdep 10 (by kernel_rfl)))⟩
        · exact step_pure hs (wants_none rfl) rfl fun L u W hG hdep => run_extractV0 rfl (show IsTV rE (u 11) [X] (.int .i64 0) from hG 11 (hdep 11 (by kernel_rfl)))
        · exact step_pureO hs (wants_none rfl) rfl fun L u W hG hdep => run_extractV1 rfl (show IsTV rE (u 11) [X] (.int .i64 0) from hG 11 (hdep 11 (by kernel_rfl)))
        · exact step_alloc hs (wants_none rfl) rfl rfl (by omega) rfl allocE
        · exact step_store 14 hs (by kernel_rfl) (wants_none rfl) rfl rfl rfl (by kernel_rfl) (by kernel_rfl) (by kernel_rfl) (by kernel_rfl) (fun _ => rfl) (gives_op 12 rfl (by kernel_rfl) (fun _ => rfl)) tyE rfl
        · exact step_pureO hs (wants_none rfl) rfl fun L u W hG hdep => ⟨_, run_assign rfl, (show u 13 = .int .i64 0 from hG 13 (hdep 13 (by kernel_rfl)))⟩
      intro L10 u10d W10d hall hJ hG
      obtain ⟨q9, e9, hq9, _, ht9⟩ := (show ∃ g, u10d 14 = .pointer (some ⟨g, 0, none⟩) ∧ W9b.heap.size ≤ g ∧ 0 < 5 ∧ W10d.there g 0 5 from hG 14 (by simp))
      have hm9 : HasFs rE W10d q9 0 [X] := by
        obtain ⟨g, e, _, h⟩ := (show ∃ g, u10d 14 = .pointer (some ⟨g, 0, none⟩) ∧ W9b.heap.size ≤ g ∧ HasFs rE W10d g 0 [X] from hG 15 (by simp))
        rw [e9] at e; cases e; exact h
      have HD9_q2 := Lib.hid (show q2 ≠ q9 by have := there_lt ht2 (by omega); omega)
      have HD9_q5 := Lib.hid (show q5 ≠ q9 by have := there_lt ht5 (by omega); omega)
      have HD9_q7 := Lib.hid (show q7 ≠ q9 by have := there_lt ht7 (by omega); omega)
      have HD9_q8 := Lib.hid (show q8 ≠ q9 by have := there_lt ht8 (by omega); omega)
      have hq9 : w.heap.size ≤ q9 := by have := hbel0.size; omega
      have E9 := Lib.hid e9; clear e9
      have hb := hJ.all rfl
      have hbel := Below.call hbel hb
      have hm5 := hm5.later hb
      have hm7 := hm7.later hb
      have hm8 := hm8.later hb
      have ht2 := there_later ht2 hb
      have ht5 := there_later ht5 hb
      have ht7 := there_later ht7 hb
      have ht8 := there_later ht8 hb
      have HKB := Lib.hid (HKB.out.below' hb)
      have HC6 := Lib.hid (show u10d 16 = .int .i64 0 from hG 16 (by simp))
      have hbel0 := hbel
      clear hJ hG hall hb
      cases o
      · skip
        go_upto_region 11 with fail
        refine wp_region_turn (fun u => (.slice (some ⟨gB, 0, none⟩) 32 cB :: undef :: u0 0 :: u0 1 :: u3 5 :: u6b 5 :: u10d 16 :: u9b 4 :: u9b 5 :: u10d 14 :: u1 0 :: u1 1 :: .bool false :: undef :: u3 0 :: u3 1 :: u3 2 :: u3 3 :: u3 4 :: .slice (some ⟨bb, q, none⟩) 32 cap :: .slice (some ⟨gB, 0, none⟩) 32 cB :: u5 0 :: u5 1 :: u5 2 :: u5 3 :: u5 4 :: u6b 2 :: u6b 0 :: u6b 1 :: u6b 3 :: u6b 4 :: u7b 0 :: .bool false :: undef :: u9b 0 :: u9b 1 :: u9b 2 :: u9b 3 :: u10d 11 :: u10d 0 :: u10d 1 :: u10d 2 :: u10d 3 :: u10d 4 :: u10d 5 :: u10d 6 :: u10d 7 :: u10d 8 :: u10d 9 :: u10d 10 :: u10d 12 :: u10d 13 :: u 0 :: u 1 :: u 2 :: u 3 :: u 4 :: u 5 :: u 6 :: u 7 :: u 8 :: u 9 :: undef :: undef :: undef :: undef :: undef :: undef :: undef :: undef :: []).toArray) (Holds [.oth (fun v => v = .int .i64 0), .oth (fun v => v = .bool false), .oth (fun v => v = .bool false), .oth (fun v => v = .bool false), .oth (fun v => v = .bool false), .oth (fun v => v = undef), .oth (fun v => v = undef), .oth (fun v => v = undef), .oth (fun v => v = .bool false), .oth (fun v => v = .bool false)] W10d) (Keep [.oth (fun v => v = .int .i64 0), .oth (fun v => v = .bool false), .oth (fun v => v = .bool false), .oth (fun v => v = .bool false), .oth (fun v => v = .bool false), .oth (fun v => v = undef), .oth (fun v => v = undef), .oth (fun v => v = undef), .oth (fun v => v = .bool false), .oth (fun v => v = .bool false)] W10d) (fun _ => undef) ?_ (by rfl) Keep.start (holds_soft (by kernel_rfl)) ?_ ?_
        · intro u i v h
          rcases i with _ | _ | _ | _ | _ | _ | _ | _ | _ | _ | i
          all_goals first | (simp [Act.put, putV]; done) | (exfalso; simp at h; omega)
        · intro hs
          refine ⟨?_, ?_, ?_, ?_, ?_, ?_, ?_, ?_, ?_, ?_, trivial⟩
          · exact step_pureO hs (wants_none rfl) rfl fun L u W hG hdep => ⟨_, run_move rfl, HC6.out⟩
          · refine step_pureO hs (wants_none rfl) rfl fun L u W hG hdep => ⟨_, ?_, rfl⟩
            have e0 := (show u 0 = .int .i64 0 from hG 0 (hdep 0 (by kernel_rfl)))
            go_simp
            try simp [bne]
          · exact step_pureO hs (wants_none rfl) rfl fun L u W hG hdep => ⟨_, run_move rfl, (show u 1 = .bool false from hG 1 (hdep 1 (by kernel_rfl)))⟩
          · exact step_pureO hs (wants_on 2 rfl rfl (by kernel_rfl) (fun _ => rfl)) rfl fun L u W hG hdep => ⟨_, run_move rfl, HC4.out⟩
          · exact step_pureO hs (wants_on 2 rfl rfl (by kernel_rfl) (fun _ => rfl)) rfl fun L u W hG hdep => ⟨_, run_move rfl, (show u 3 = .bool false from hG 3 (hdep 3 (by kernel_rfl)))⟩
          · exact step_outU hs (wants_off 4 rfl rfl rfl (by kernel_rfl) (fun _ => rfl)) rfl
          · exact step_outU hs (wants_off 4 rfl rfl rfl (by kernel_rfl) (fun _ => rfl)) rfl
          · exact step_outU hs (wants_off 4 rfl rfl rfl (by kernel_rfl) (fun _ => rfl)) rfl
          · exact step_pick false hs (wants_on 2 rfl rfl (by kernel_rfl) (fun _ => rfl)) rfl rfl (fun L u W hG hdep => (show u 4 = .bool false from hG 4 (hdep 4 (by kernel_rfl)))) (fun L u W hG hdep => rfl)
          · exact step_pick false hs (wants_none rfl) rfl rfl (fun L u W hG hdep => (show u 2 = .bool false from hG 2 (hdep 2 (by kernel_rfl)))) (fun L u W hG hdep => (show u 8 = .bool false from hG 8 (hdep 8 (by kernel_rfl))))
        intro L11 u11n W11n hall hJ hG
        have hb := hJ.all rfl
        have hbel := Below.call hbel hb
        have hm5 := hm5.later hb
        have hm7 := hm7.later hb
        have hm8 := hm8.later hb
        have hm9 := hm9.later hb
        have ht2 := there_later ht2 hb
        have ht5 := there_later ht5 hb
        have ht7 := there_later ht7 hb
        have ht8 := there_later ht8 hb
        have ht9 := there_later ht9 hb
        have HKB := Lib.hid (HKB.out.below' hb)
        have HC53 := Lib.hid (show u11n 1 = .bool false from hG 1 (by simp))
        have HC54 := Lib.hid (show u11n 2 = .bool false from hG 2 (by simp))
        have HC55 := Lib.hid (show u11n 3 = .bool false from hG 3 (by simp))
        have HC56 := Lib.hid (show u11n 4 = .bool false from hG 4 (by simp))
        have HC60 := Lib.hid (show u11n 8 = .bool false from hG 8 (by simp))
        have HC61 := Lib.hid (show u11n 9 = .bool false from hG 9 (by simp))
        have hbel0 := hbel
        clear hJ hG hall hb
        have hx : u11n 9 = .bool false := HC61.out
        go_wp2_with fail
        rw [hx]
        clear hx
        go_upto_region 13 with fail
        refine wp_region_mid (fun u => (.slice (some ⟨gB, 0, none⟩) 32 cB :: undef :: u0 0 :: u 8 :: u3 5 :: u6b 5 :: u10d 16 :: u9b 4 :: u9b 5 :: u10d 14 :: u1 0 :: u1 1 :: .bool false :: undef :: u3 0 :: u3 1 :: u3 2 :: u3 3 :: u3 4 :: .slice (some ⟨bb, q, none⟩) 32 cap :: .slice (some ⟨gB, 0, none⟩) 32 cB :: u5 0 :: u5 1 :: u5 2 :: u5 3 :: u5 4 :: u6b 2 :: u6b 0 :: u6b 1 :: u6b 3 :: u6b 4 :: u7b 0 :: .bool false :: undef :: u9b 0 :: u9b 1 :: u9b 2 :: u9b 3 :: u10d 11 :: u10d 0 :: u10d 1 :: u10d 2 :: u10d 3 :: u10d 4 :: u10d 5 :: u10d 6 :: u10d 7 :: u10d 8 :: u10d 9 :: u10d 10 :: u10d 12 :: u10d 13 :: u11n 0 :: u11n 1 :: u11n 2 :: u11n 3 :: u11n 4 :: u11n 5 :: u11n 6 :: u11n 7 :: u11n 8 :: .bool false :: undef :: u 0 :: u 1 :: u 2 :: u 3 :: u 4 :: u 5 :: u 6 :: []).toArray) (Holds [.oth (fun v => v = .bool false), .val rE [X], .val rE [-X], .val rE [X], .val rE [X], .val rE [y], .val rE [X, y, fn 1, X * y], .sto q2 rE [X, y, fn 1, X * y], .oth (fun v => v = .int .i64 0)] W11n) (Keep [.oth (fun v => v = .bool false), .val rE [X], .val rE [-X], .val rE [X], .val rE [X], .val rE [y], .val rE [X, y, fn 1, X * y], .sto q2 rE [X, y, fn 1, X * y], .oth (fun v => v = .int .i64 0)] W11n) (fun k => ((undef :: undef :: undef :: undef :: undef :: undef :: undef :: undef :: u0 1 :: []) : List Value).getD k undef) (by kernel_rfl) (by kernel_rfl) ?_ (by rfl) Keep.drew (holds_soft (by kernel_rfl)) ?_ ?_
        · intro u i v h
          rcases i with _ | _ | _ | _ | _ | _ | _ | _ | _ | i
          all_goals first | (simp [Act.put, putV]; done) | (exfalso; simp at h; omega)
        · intro hs
          refine ⟨?_, ?_, ?_, ?_, ?_, ?_, ?_, ?_, ?_, trivial⟩
          · exact step_pureO hs (wants_none rfl) rfl fun L u W hG hdep => ⟨_, run_move rfl, HC4.out⟩
          · exact step_load q9 0 hs (wants_none rfl) rfl rfl tyE (fun _ => E9.out) hm9.lt hm9 (fun k g hk => by rcases k with _ | _ | _ | _ | _ | _ | _ | _ | _ | k <;> first | (cases hk; done) | (cases hk; exact .inr HD9_q2.out))
          · refine step_call hs (wants_none rfl) rfl fun L u W hJ hG hL hdep K hK => ?_
            have a0 := (show IsFs rE (u 1) [X] from hG 1 (hdep 1 (by kernel_rfl)))
            go_simp
            go_at_call 51
            (with_reducible refine (cNeg a0 _).mono ?_); rintro e w1 ⟨r, rfl, hr, hb⟩
            have hk := hK.out _ _ hr hb
            exact hk
          · exact step_load q9 0 hs (wants_none rfl) rfl rfl tyE (fun _ => E9.out) hm9.lt hm9 (fun k g hk => by rcases k with _ | _ | _ | _ | _ | _ | _ | _ | _ | k <;> first | (cases hk; done) | (cases hk; exact .inr HD9_q2.out))
          · refine step_call hs (wants_none rfl) rfl fun L u W hJ hG hL hdep K hK => ?_
            have a0 := (show IsFs rE (u 2) [-X] from hG 2 (hdep 2 (by kernel_rfl)))
            have a1 := (show IsFs rE (u 3) [X] from hG 3 (hdep 3 (by kernel_rfl)))
            have x0 := (show u 0 = .bool false from hG 0 (hdep 0 (by kernel_rfl)))
            go_simp
            go_at_call 50
            (with_reducible refine (cPick (b := false) rfl a0 a1 _).mono ?_); rintro e w1 ⟨r, rfl, hr, hb⟩
            have hk := hK.out _ _ hr hb
            simp only [x0] at hk
            exact hk
          · exact step_load q5 0 hs (wants_none rfl) rfl rfl tyE (fun _ => E5.out) hm5.lt hm5 (fun k g hk => by rcases k with _ | _ | _ | _ | _ | _ | _ | _ | _ | k <;> first | (cases hk; done) | (cases hk; exact .inr HD5_q2.out))
          · refine step_call hs (wants_none rfl) rfl fun L u W hJ hG hL hdep K hK => ?_
            have a0 := (show IsFs rE (u 4) [X] from hG 4 (hdep 4 (by kernel_rfl)))
            have a1 := (show IsFs rE (u 5) [y] from hG 5 (hdep 5 (by kernel_rfl)))
            go_simp
            go_at_call 49
            (with_reducible refine (cPoint a0 a1 _).mono ?_); rintro e w1 ⟨r, rfl, hr, hb⟩
            have hk := hK.out _ _ hr hb
            exact hk
          · refine step_storeO q2 20 hs (wants_none rfl) rfl rfl (by kernel_rfl) (fun k hk => ?_) (fun _ => E2.out) (there_lt ht2 (by omega)) ht2 (gives_op 6 rfl (by kernel_rfl) (fun _ => rfl)) tyP4 rfl
            rcases k with _ | _ | _ | _ | _ | _ | _ | _ | _ | k
            all_goals first | (exact absurd rfl hk) | (intro e; cases e; done)
          · exact step_pureO hs (wants_none rfl) rfl fun L u W hG hdep => ⟨_, run_assign rfl, rfl⟩
        intro L13 u13n W13n hall hJ hG
        have hb : Below w.heap.size W11n W13n := hJ.below (by have := hbel.size; omega) (fun k b hf => by rcases k with _ | _ | _ | _ | _ | _ | _ | _ | _ | k <;> first | (cases hf; done) | (cases hf; omega))
        have hbel := hbel.trans hb
        have hm5 := hm5.blk (hJ.block _ (hm5.lt) (fun k hk => by rcases k with _ | _ | _ | _ | _ | _ | _ | _ | _ | k <;> first | (cases hk; done) | (cases hk; exact absurd rfl HD5_q2.out)))
        have hm7 := hm7.blk (hJ.block _ (hm7.lt) (fun k hk => by rcases k with _ | _ | _ | _ | _ | _ | _ | _ | _ | k <;> first | (cases hk; done) | (cases hk; exact absurd rfl HD7_q2.out)))
        have hm8 := hm8.blk (hJ.block _ (hm8.lt) (fun k hk => by rcases k with _ | _ | _ | _ | _ | _ | _ | _ | _ | k <;> first | (cases hk; done) | (cases hk; exact absurd rfl HD8_q2.out)))
        have hm9 := hm9.blk (hJ.block _ (hm9.lt) (fun k hk => by rcases k with _ | _ | _ | _ | _ | _ | _ | _ | _ | k <;> first | (cases hk; done) | (cases hk; exact absurd rfl HD9_q2.out)))
        have ht5 := there_blk ht5 (hJ.block _ (there_lt ht5 (by omega)) (fun k hk => by rcases k with _ | _ | _ | _ | _ | _ | _ | _ | _ | k <;> first | (cases hk; done) | (cases hk; exact absurd rfl HD5_q2.out)))
        have ht7 := there_blk ht7 (hJ.block _ (there_lt ht7 (by omega)) (fun k hk => by rcases k with _ | _ | _ | _ | _ | _ | _ | _ | _ | k <;> first | (cases hk; done) | (cases hk; exact absurd rfl HD7_q2.out)))
        have ht8 := there_blk ht8 (hJ.block _ (there_lt ht8 (by omega)) (fun k hk => by rcases k with _ | _ | _ | _ | _ | _ | _ | _ | _ | k <;> first | (cases hk; done) | (cases hk; exact absurd rfl HD8_q2.out)))
        have ht9 := there_blk ht9 (hJ.block _ (there_lt ht9 (by omega)) (fun k hk => by rcases k with _ | _ | _ | _ | _ | _ | _ | _ | _ | k <;> first | (cases hk; done) | (cases hk; exact absurd rfl HD9_q2.out)))
        have HKB := Lib.hid (blk_keep HKB.out (hJ.block _ (HKB.out.lt) (fun k hk => by rcases k with _ | _ | _ | _ | _ | _ | _ | _ | _ | k <;> first | (cases hk; done) | (cases hk; exact absurd rfl HE_q2.out))))
        obtain ⟨_, hs13_7t, hs13_7⟩ := (show _ ∧ W13n.there q2 0 20 ∧ HasFs rE W13n q2 0 [X, y, fn 1, X * y] from hG 7 (by simp))
        have HC63 := Lib.hid (show u13n 0 = .bool false from hG 0 (by simp))
        have HC3 := Lib.hid (show u13n 8 = .int .i64 0 from hG 8 (by simp))
        have hbel0 := hbel
        clear hJ hG hall hb
        go_wp2
        exact ret_cell_slot (R := rE) Try.results21 (by exact E2.out) (by exact HC3.out) hs13_7 tyP4 rfl (fun r hr => ⟨r, by rw [(dec_yes HL.out HLW.out HY.out HRC.out HS.out (fun k => by cases k.1)).1], toP (isPr hr (dec_pext (by rw [(dec_yes HL.out HLW.out HY.out HRC.out HS.out (fun k => by cases k.1)).2.1, HX.out]; rfl) (dec_yes HL.out HLW.out HY.out HRC.out HS.out (fun k => by cases k.1)).2.2)), hbel⟩)
      · skip
        by_cases hx0 : X = 0
        · have HX0 := Lib.hid hx0; clear hx0
          go_upto_region 11 with fail
          refine wp_region_turn (fun u => (.slice (some ⟨gB, 0, none⟩) 32 cB :: undef :: u0 0 :: u0 1 :: u3 5 :: u6b 5 :: u10d 16 :: u9b 4 :: u9b 5 :: u10d 14 :: u1 0 :: u1 1 :: .bool false :: undef :: u3 0 :: u3 1 :: u3 2 :: u3 3 :: u3 4 :: .slice (some ⟨bb, q, none⟩) 32 cap :: .slice (some ⟨gB, 0, none⟩) 32 cB :: u5 0 :: u5 1 :: u5 2 :: u5 3 :: u5 4 :: u6b 2 :: u6b 0 :: u6b 1 :: u6b 3 :: u6b 4 :: u7b 0 :: .bool false :: undef :: u9b 0 :: u9b 1 :: u9b 2 :: u9b 3 :: u10d 11 :: u10d 0 :: u10d 1 :: u10d 2 :: u10d 3 :: u10d 4 :: u10d 5 :: u10d 6 :: u10d 7 :: u10d 8 :: u10d 9 :: u10d 10 :: u10d 12 :: u10d 13 :: u 0 :: u 1 :: u 2 :: u 3 :: u 4 :: u 5 :: u 6 :: u 7 :: u 8 :: u 9 :: undef :: undef :: undef :: undef :: undef :: undef :: undef :: undef :: []).toArray) (Holds [.oth (fun v => v = .int .i64 0), .oth (fun v => v = .bool false), .oth (fun v => v = .bool false), .oth (fun v => v = .bool true), .oth (fun v => v = .bool true), .val rE [X], .val rE [0], .oth (fun v => v = .bool true), .oth (fun v => v = .bool true), .oth (fun v => v = .bool true)] W10d) (Keep [.oth (fun v => v = .int .i64 0), .oth (fun v => v = .bool false), .oth (fun v => v = .bool false), .oth (fun v => v = .bool true), .oth (fun v => v = .bool true), .val rE [X], .val rE [0], .oth (fun v => v = .bool true), .oth (fun v => v = .bool true), .oth (fun v => v = .bool true)] W10d) (fun _ => undef) ?_ (by rfl) Keep.start (holds_soft (by kernel_rfl)) ?_ ?_
          · intro u i v h
            rcases i with _ | _ | _ | _ | _ | _ | _ | _ | _ | _ | i
            all_goals first | (simp [Act.put, putV]; done) | (exfalso; simp at h; omega)
          · intro hs
            refine ⟨?_, ?_, ?_, ?_, ?_, ?_, ?_, ?_, ?_, ?_, trivial⟩
            · exact step_pureO hs (wants_none rfl) rfl fun L u W hG hdep => ⟨_, run_move rfl, HC6.out⟩
            · refine step_pureO hs (wants_none rfl) rfl fun L u W hG hdep => ⟨_, ?_, rfl⟩
              have e0 := (show u 0 = .int .i64 0 from hG 0 (hdep 0 (by kernel_rfl)))
              go_simp
              try simp [bne]
            · exact step_pureO hs (wants_none rfl) rfl fun L u W hG hdep => ⟨_, run_move rfl, (show u 1 = .bool false from hG 1 (hdep 1 (by kernel_rfl)))⟩
            · exact step_pureO hs (wants_on 2 rfl rfl (by kernel_rfl) (fun _ => rfl)) rfl fun L u W hG hdep => ⟨_, run_move rfl, HC4.out⟩
            · exact step_pureO hs (wants_on 2 rfl rfl (by kernel_rfl) (fun _ => rfl)) rfl fun L u W hG hdep => ⟨_, run_move rfl, (show u 3 = .bool true from hG 3 (hdep 3 (by kernel_rfl)))⟩
            · exact step_load q9 0 hs (wants_on 4 rfl rfl (by kernel_rfl) (fun _ => rfl)) rfl rfl tyE (fun _ => E9.out) hm9.lt hm9 (noSto_apart (by kernel_rfl))
            · exact step_pure hs (wants_on 4 rfl rfl (by kernel_rfl) (fun _ => rfl)) rfl fun L u W hG hdep => run_build0 rfl (buildE0 W)
            · refine step_callO hs (wants_on 4 rfl rfl (by kernel_rfl) (fun _ => rfl)) rfl fun L u W hJ hG hL hdep K hK => ?_
              have a0 := (show IsFs rE (u 5) [X] from hG 5 (hdep 5 (by kernel_rfl)))
              have a1 := (show IsFs rE (u 6) [0] from hG 6 (hdep 6 (by kernel_rfl)))
              go_simp
              go_at_call 48
              (with_reducible refine (cSame (b := true) (decide_eq_true HX0.out) a0 a1 _).mono ?_); rintro e w1 ⟨rfl, hb⟩
              have hk := hK.out _ _ rfl hb
              exact hk
            · exact step_pick true hs (wants_on 2 rfl rfl (by kernel_rfl) (fun _ => rfl)) rfl rfl (fun L u W hG hdep => (show u 4 = .bool true from hG 4 (hdep 4 (by kernel_rfl)))) (fun L u W hG hdep => (show u 7 = .bool true from hG 7 (hdep 7 (by kernel_rfl))))
            · exact step_pick false hs (wants_none rfl) rfl rfl (fun L u W hG hdep => (show u 2 = .bool false from hG 2 (hdep 2 (by kernel_rfl)))) (fun L u W hG hdep => (show u 8 = .bool true from hG 8 (hdep 8 (by kernel_rfl))))
          intro L11 u11e W11e hall hJ hG
          have hb := hJ.all rfl
          have hbel := Below.call hbel hb
          have hm5 := hm5.later hb
          have hm7 := hm7.later hb
          have hm8 := hm8.later hb
          have hm9 := hm9.later hb
          have ht2 := there_later ht2 hb
          have ht5 := there_later ht5 hb
          have ht7 := there_later ht7 hb
          have ht8 := there_later ht8 hb
          have ht9 := there_later ht9 hb
          have HKB := Lib.hid (HKB.out.below' hb)
          have HC53 := Lib.hid (show u11e 1 = .bool false from hG 1 (by simp))
          have HC54 := Lib.hid (show u11e 2 = .bool false from hG 2 (by simp))
          have HC55 := Lib.hid (show u11e 3 = .bool true from hG 3 (by simp))
          have HC56 := Lib.hid (show u11e 4 = .bool true from hG 4 (by simp))
          have HC59 := Lib.hid (show u11e 7 = .bool true from hG 7 (by simp))
          have HC60 := Lib.hid (show u11e 8 = .bool true from hG 8 (by simp))
          have HC61 := Lib.hid (show u11e 9 = .bool true from hG 9 (by simp))
          have hbel0 := hbel
          clear hJ hG hall hb
          have hx : u11e 9 = .bool true := HC61.out
          go_wp2_with fail
          rw [hx]
          clear hx
          go_upto_region 12 with fail
          refine wp_region_turn (fun u => (.slice (some ⟨gB, 0, none⟩) 32 cB :: undef :: u0 0 :: u 2 :: u3 5 :: u6b 5 :: u10d 16 :: u9b 4 :: u9b 5 :: u10d 14 :: u1 0 :: u1 1 :: .bool false :: undef :: u3 0 :: u3 1 :: u3 2 :: u3 3 :: u3 4 :: .slice (some ⟨bb, q, none⟩) 32 cap :: .slice (some ⟨gB, 0, none⟩) 32 cB :: u5 0 :: u5 1 :: u5 2 :: u5 3 :: u5 4 :: u6b 2 :: u6b 0 :: u6b 1 :: u6b 3 :: u6b 4 :: u7b 0 :: .bool false :: undef :: u9b 0 :: u9b 1 :: u9b 2 :: u9b 3 :: u10d 11 :: u10d 0 :: u10d 1 :: u10d 2 :: u10d 3 :: u10d 4 :: u10d 5 :: u10d 6 :: u10d 7 :: u10d 8 :: u10d 9 :: u10d 10 :: u10d 12 :: u10d 13 :: u11e 0 :: u11e 1 :: u11e 2 :: u11e 3 :: u11e 4 :: u11e 5 :: u11e 6 :: u11e 7 :: u11e 8 :: .bool true :: u 0 :: undef :: undef :: undef :: undef :: undef :: undef :: undef :: []).toArray) (Holds [.val rP [Cp.zero], .sto q2 rP [Cp.zero], .oth (fun v => v = .int .i64 12)] W11e) (Keep [.val rP [Cp.zero], .sto q2 rP [Cp.zero], .oth (fun v => v = .int .i64 12)] W11e) (fun k => ((undef :: undef :: u0 1 :: []) : List Value).getD k undef) ?_ (by rfl) Keep.start (holds_soft (by kernel_rfl)) ?_ ?_
          · intro u i v h
            rcases i with _ | _ | _ | i
            all_goals first | (simp [Act.put, putV]; done) | (exfalso; simp at h; omega)
          · intro hs
            refine ⟨?_, ?_, ?_, trivial⟩
            · exact step_pure hs (wants_none rfl) rfl fun L u W hG hdep => run_build0 rfl (build_P0 W)
            · refine step_storeO q2 20 hs (wants_none rfl) rfl rfl (by kernel_rfl) (fun k hk => ?_) (fun _ => E2.out) (there_lt ht2 (by omega)) ht2 (gives_op 0 rfl (by kernel_rfl) (fun _ => rfl)) tyP rfl
              rcases k with _ | _ | _ | k
              all_goals first | (exact absurd rfl hk) | (intro e; cases e; done)
            · exact step_pureO hs (wants_none rfl) rfl fun L u W hG hdep => ⟨_, run_assign rfl, rfl⟩
          intro L12 u12e W12e hall hJ hG
          have hb : Below w.heap.size W11e W12e := hJ.below (by have := hbel.size; omega) (fun k b hf => by rcases k with _ | _ | _ | k <;> first | (cases hf; done) | (cases hf; omega))
          have hbel := hbel.trans hb
          have hm5 := hm5.blk (hJ.block _ (hm5.lt) (fun k hk => by rcases k with _ | _ | _ | k <;> first | (cases hk; done) | (cases hk; exact absurd rfl HD5_q2.out)))
          have hm7 := hm7.blk (hJ.block _ (hm7.lt) (fun k hk => by rcases k with _ | _ | _ | k <;> first | (cases hk; done) | (cases hk; exact absurd rfl HD7_q2.out)))
          have hm8 := hm8.blk (hJ.block _ (hm8.lt) (fun k hk => by rcases k with _ | _ | _ | k <;> first | (cases hk; done) | (cases hk; exact absurd rfl HD8_q2.out)))
          have hm9 := hm9.blk (hJ.block _ (hm9.lt) (fun k hk => by rcases k with _ | _ | _ | k <;> first | (cases hk; done) | (cases hk; exact absurd rfl HD9_q2.out)))
          have ht5 := there_blk ht5 (hJ.block _ (there_lt ht5 (by omega)) (fun k hk => by rcases k with _ | _ | _ | k <;> first | (cases hk; done) | (cases hk; exact absurd rfl HD5_q2.out)))
          have ht7 := there_blk ht7 (hJ.block _ (there_lt ht7 (by omega)) (fun k hk => by rcases k with _ | _ | _ | k <;> first | (cases hk; done) | (cases hk; exact absurd rfl HD7_q2.out)))
          have ht8 := there_blk ht8 (hJ.block _ (there_lt ht8 (by omega)) (fun k hk => by rcases k with _ | _ | _ | k <;> first | (cases hk; done) | (cases hk; exact absurd rfl HD8_q2.out)))
          have ht9 := there_blk ht9 (hJ.block _ (there_lt ht9 (by omega)) (fun k hk => by rcases k with _ | _ | _ | k <;> first | (cases hk; done) | (cases hk; exact absurd rfl HD9_q2.out)))
          have HKB := Lib.hid (blk_keep HKB.out (hJ.block _ (HKB.out.lt) (fun k hk => by rcases k with _ | _ | _ | k <;> first | (cases hk; done) | (cases hk; exact absurd rfl HE_q2.out))))
          obtain ⟨_, hs12_1t, hs12_1⟩ := (show _ ∧ W12e.there q2 0 20 ∧ HasFs rP W12e q2 0 [Cp.zero] from hG 1 (by simp))
          have HC3 := Lib.hid (show u12e 2 = .int .i64 12 from hG 2 (by simp))
          have hbel0 := hbel
          clear hJ hG hall hb
          go_wp2
          exact ret_cell_slot (R := rP) Try.results21 (by exact E2.out) (by exact HC3.out) hs12_1 tyP rfl (fun r hr => ⟨r, by rw [(dec_sgn HL.out HLW.out HY.out HRC.out HS.out (HX.out.trans HX0.out)).2], by rw [(dec_sgn HL.out HLW.out HY.out HRC.out HS.out (HX.out.trans HX0.out)).1]; exact hr, hbel⟩)
        · have HX0 := Lib.hid hx0; clear hx0
          go_upto_region 11 with fail
          refine wp_region_turn (fun u => (.slice (some ⟨gB, 0, none⟩) 32 cB :: undef :: u0 0 :: u0 1 :: u3 5 :: u6b 5 :: u10d 16 :: u9b 4 :: u9b 5 :: u10d 14 :: u1 0 :: u1 1 :: .bool false :: undef :: u3 0 :: u3 1 :: u3 2 :: u3 3 :: u3 4 :: .slice (some ⟨bb, q, none⟩) 32 cap :: .slice (some ⟨gB, 0, none⟩) 32 cB :: u5 0 :: u5 1 :: u5 2 :: u5 3 :: u5 4 :: u6b 2 :: u6b 0 :: u6b 1 :: u6b 3 :: u6b 4 :: u7b 0 :: .bool false :: undef :: u9b 0 :: u9b 1 :: u9b 2 :: u9b 3 :: u10d 11 :: u10d 0 :: u10d 1 :: u10d 2 :: u10d 3 :: u10d 4 :: u10d 5 :: u10d 6 :: u10d 7 :: u10d 8 :: u10d 9 :: u10d 10 :: u10d 12 :: u10d 13 :: u 0 :: u 1 :: u 2 :: u 3 :: u 4 :: u 5 :: u 6 :: u 7 :: u 8 :: u 9 :: undef :: undef :: undef :: undef :: undef :: undef :: undef :: undef :: []).toArray) (Holds [.oth (fun v => v = .int .i64 0), .oth (fun v => v = .bool false), .oth (fun v => v = .bool false), .oth (fun v => v = .bool true), .oth (fun v => v = .bool true), .val rE [X], .val rE [0], .oth (fun v => v = .bool false), .oth (fun v => v = .bool false), .oth (fun v => v = .bool false)] W10d) (Keep [.oth (fun v => v = .int .i64 0), .oth (fun v => v = .bool false), .oth (fun v => v = .bool false), .oth (fun v => v = .bool true), .oth (fun v => v = .bool true), .val rE [X], .val rE [0], .oth (fun v => v = .bool false), .oth (fun v => v = .bool false), .oth (fun v => v = .bool false)] W10d) (fun _ => undef) ?_ (by rfl) Keep.start (holds_soft (by kernel_rfl)) ?_ ?_
          · intro u i v h
            rcases i with _ | _ | _ | _ | _ | _ | _ | _ | _ | _ | i
            all_goals first | (simp [Act.put, putV]; done) | (exfalso; simp at h; omega)
          · intro hs
            refine ⟨?_, ?_, ?_, ?_, ?_, ?_, ?_, ?_, ?_, ?_, trivial⟩
            · exact step_pureO hs (wants_none rfl) rfl fun L u W hG hdep => ⟨_, run_move rfl, HC6.out⟩
            · refine step_pureO hs (wants_none rfl) rfl fun L u W hG hdep => ⟨_, ?_, rfl⟩
              have e0 := (show u 0 = .int .i64 0 from hG 0 (hdep 0 (by kernel_rfl)))
              go_simp
              try simp [bne]
            · exact step_pureO hs (wants_none rfl) rfl fun L u W hG hdep => ⟨_, run_move rfl, (show u 1 = .bool false from hG 1 (hdep 1 (by kernel_rfl)))⟩
            · exact step_pureO hs (wants_on 2 rfl rfl (by kernel_rfl) (fun _ => rfl)) rfl fun L u W hG hdep => ⟨_, run_move rfl, HC4.out⟩
            · exact step_pureO hs (wants_on 2 rfl rfl (by kernel_rfl) (fun _ => rfl)) rfl fun L u W hG hdep => ⟨_, run_move rfl, (show u 3 = .bool true from hG 3 (hdep 3 (by kernel_rfl)))⟩
            · exact step_load q9 0 hs (wants_on 4 rfl rfl (by kernel_rfl) (fun _ => rfl)) rfl rfl tyE (fun _ => E9.out) hm9.lt hm9 (noSto_apart (by kernel_rfl))
            · exact step_pure hs (wants_on 4 rfl rfl (by kernel_rfl) (fun _ => rfl)) rfl fun L u W hG hdep => run_build0 rfl (buildE0 W)
            · refine step_callO hs (wants_on 4 rfl rfl (by kernel_rfl) (fun _ => rfl)) rfl fun L u W hJ hG hL hdep K hK => ?_
              have a0 := (show IsFs rE (u 5) [X] from hG 5 (hdep 5 (by kernel_rfl)))
              have a1 := (show IsFs rE (u 6) [0] from hG 6 (hdep 6 (by kernel_rfl)))
              go_simp
              go_at_call 48
              (with_reducible refine (cSame (b := false) (decide_eq_false HX0.out) a0 a1 _).mono ?_); rintro e w1 ⟨rfl, hb⟩
              have hk := hK.out _ _ rfl hb
              exact hk
            · exact step_pick true hs (wants_on 2 rfl rfl (by kernel_rfl) (fun _ => rfl)) rfl rfl (fun L u W hG hdep => (show u 4 = .bool true from hG 4 (hdep 4 (by kernel_rfl)))) (fun L u W hG hdep => (show u 7 = .bool false from hG 7 (hdep 7 (by kernel_rfl))))
            · exact step_pick false hs (wants_none rfl) rfl rfl (fun L u W hG hdep => (show u 2 = .bool false from hG 2 (hdep 2 (by kernel_rfl)))) (fun L u W hG hdep => (show u 8 = .bool false from hG 8 (hdep 8 (by kernel_rfl))))
          intro L11 u11f W11f hall hJ hG
          have hb := hJ.all rfl
          have hbel := Below.call hbel hb
          have hm5 := hm5.later hb
          have hm7 := hm7.later hb
          have hm8 := hm8.later hb
          have hm9 := hm9.later hb
          have ht2 := there_later ht2 hb
          have ht5 := there_later ht5 hb
          have ht7 := there_later ht7 hb
          have ht8 := there_later ht8 hb
          have ht9 := there_later ht9 hb
          have HKB := Lib.hid (HKB.out.below' hb)
          have HC53 := Lib.hid (show u11f 1 = .bool false from hG 1 (by simp))
          have HC54 := Lib.hid (show u11f 2 = .bool false from hG 2 (by simp))
          have HC55 := Lib.hid (show u11f 3 = .bool true from hG 3 (by simp))
          have HC56 := Lib.hid (show u11f 4 = .bool true from hG 4 (by simp))
          have HC59 := Lib.hid (show u11f 7 = .bool false from hG 7 (by simp))
          have HC60 := Lib.hid (show u11f 8 = .bool false from hG 8 (by simp))
          have HC61 := Lib.hid (show u11f 9 = .bool false from hG 9 (by simp))
          have hbel0 := hbel
          clear hJ hG hall hb
          have hx : u11f 9 = .bool false := HC61.out
          go_wp2_with fail
          rw [hx]
          clear hx
          go_upto_region 13 with fail
          refine wp_region_mid (fun u => (.slice (some ⟨gB, 0, none⟩) 32 cB :: undef :: u0 0 :: u 8 :: u3 5 :: u6b 5 :: u10d 16 :: u9b 4 :: u9b 5 :: u10d 14 :: u1 0 :: u1 1 :: .bool false :: undef :: u3 0 :: u3 1 :: u3 2 :: u3 3 :: u3 4 :: .slice (some ⟨bb, q, none⟩) 32 cap :: .slice (some ⟨gB, 0, none⟩) 32 cB :: u5 0 :: u5 1 :: u5 2 :: u5 3 :: u5 4 :: u6b 2 :: u6b 0 :: u6b 1 :: u6b 3 :: u6b 4 :: u7b 0 :: .bool false :: undef :: u9b 0 :: u9b 1 :: u9b 2 :: u9b 3 :: u10d 11 :: u10d 0 :: u10d 1 :: u10d 2 :: u10d 3 :: u10d 4 :: u10d 5 :: u10d 6 :: u10d 7 :: u10d 8 :: u10d 9 :: u10d 10 :: u10d 12 :: u10d 13 :: u11f 0 :: u11f 1 :: u11f 2 :: u11f 3 :: u11f 4 :: u11f 5 :: u11f 6 :: u11f 7 :: u11f 8 :: .bool false :: undef :: u 0 :: u 1 :: u 2 :: u 3 :: u 4 :: u 5 :: u 6 :: []).toArray) (Holds [.oth (fun v => v = .bool true), .val rE [X], .val rE [-X], .val rE [X], .val rE [-X], .val rE [y], .val rE [-X, y, fn 1, (-X) * y], .sto q2 rE [-X, y, fn 1, (-X) * y], .oth (fun v => v = .int .i64 0)] W11f) (Keep [.oth (fun v => v = .bool true), .val rE [X], .val rE [-X], .val rE [X], .val rE [-X], .val rE [y], .val rE [-X, y, fn 1, (-X) * y], .sto q2 rE [-X, y, fn 1, (-X) * y], .oth (fun v => v = .int .i64 0)] W11f) (fun k => ((undef :: undef :: undef :: undef :: undef :: undef :: undef :: undef :: u0 1 :: []) : List Value).getD k undef) (by kernel_rfl) (by kernel_rfl) ?_ (by rfl) Keep.drew (holds_soft (by kernel_rfl)) ?_ ?_
          · intro u i v h
            rcases i with _ | _ | _ | _ | _ | _ | _ | _ | _ | i
            all_goals first | (simp [Act.put, putV]; done) | (exfalso; simp at h; omega)
          · intro hs
            refine ⟨?_, ?_, ?_, ?_, ?_, ?_, ?_, ?_, ?_, trivial⟩
            · exact step_pureO hs (wants_none rfl) rfl fun L u W hG hdep => ⟨_, run_move rfl, HC4.out⟩
            · exact step_load q9 0 hs (wants_none rfl) rfl rfl tyE (fun _ => E9.out) hm9.lt hm9 (fun k g hk => by rcases k with _ | _ | _ | _ | _ | _ | _ | _ | _ | k <;> first | (cases hk; done) | (cases hk; exact .inr HD9_q2.out))
            · refine step_call hs (wants_none rfl) rfl fun L u W hJ hG hL hdep K hK => ?_
              have a0 := (show IsFs rE (u 1) [X] from hG 1 (hdep 1 (by kernel_rfl)))
              go_simp
              go_at_call 51
              (with_reducible refine (cNeg a0 _).mono ?_); rintro e w1 ⟨r, rfl, hr, hb⟩
              have hk := hK.out _ _ hr hb
              exact hk
            · exact step_load q9 0 hs (wants_none rfl) rfl rfl tyE (fun _ => E9.out) hm9.lt hm9 (fun k g hk => by rcases k with _ | _ | _ | _ | _ | _ | _ | _ | _ | k <;> first | (cases hk; done) | (cases hk; exact .inr HD9_q2.out))
            · refine step_call hs (wants_none rfl) rfl fun L u W hJ hG hL hdep K hK => ?_
              have a0 := (show IsFs rE (u 2) [-X] from hG 2 (hdep 2 (by kernel_rfl)))
              have a1 := (show IsFs rE (u 3) [X] from hG 3 (hdep 3 (by kernel_rfl)))
              have x0 := (show u 0 = .bool true from hG 0 (hdep 0 (by kernel_rfl)))
              go_simp
              go_at_call 50
              (with_reducible refine (cPick (b := true) rfl a0 a1 _).mono ?_); rintro e w1 ⟨r, rfl, hr, hb⟩
              have hk := hK.out _ _ hr hb
              simp only [x0] at hk
              exact hk
            · exact step_load q5 0 hs (wants_none rfl) rfl rfl tyE (fun _ => E5.out) hm5.lt hm5 (fun k g hk => by rcases k with _ | _ | _ | _ | _ | _ | _ | _ | _ | k <;> first | (cases hk; done) | (cases hk; exact .inr HD5_q2.out))
            · refine step_call hs (wants_none rfl) rfl fun L u W hJ hG hL hdep K hK => ?_
              have a0 := (show IsFs rE (u 4) [-X] from hG 4 (hdep 4 (by kernel_rfl)))
              have a1 := (show IsFs rE (u 5) [y] from hG 5 (hdep 5 (by kernel_rfl)))
              go_simp
              go_at_call 49
              (with_reducible refine (cPoint a0 a1 _).mono ?_); rintro e w1 ⟨r, rfl, hr, hb⟩
              have hk := hK.out _ _ hr hb
              exact hk
            · refine step_storeO q2 20 hs (wants_none rfl) rfl rfl (by kernel_rfl) (fun k hk => ?_) (fun _ => E2.out) (there_lt ht2 (by omega)) ht2 (gives_op 6 rfl (by kernel_rfl) (fun _ => rfl)) tyP4 rfl
              rcases k with _ | _ | _ | _ | _ | _ | _ | _ | _ | k
              all_goals first | (exact absurd rfl hk) | (intro e; cases e; done)
            · exact step_pureO hs (wants_none rfl) rfl fun L u W hG hdep => ⟨_, run_assign rfl, rfl⟩
          intro L13 u13f W13f hall hJ hG
          have hb : Below w.heap.size W11f W13f := hJ.below (by have := hbel.size; omega) (fun k b hf => by rcases k with _ | _ | _ | _ | _ | _ | _ | _ | _ | k <;> first | (cases hf; done) | (cases hf; omega))
          have hbel := hbel.trans hb
          have hm5 := hm5.blk (hJ.block _ (hm5.lt) (fun k hk => by rcases k with _ | _ | _ | _ | _ | _ | _ | _ | _ | k <;> first | (cases hk; done) | (cases hk; exact absurd rfl HD5_q2.out)))
          have hm7 := hm7.blk (hJ.block _ (hm7.lt) (fun k hk => by rcases k with _ | _ | _ | _ | _ | _ | _ | _ | _ | k <;> first | (cases hk; done) | (cases hk; exact absurd rfl HD7_q2.out)))
          have hm8 := hm8.blk (hJ.block _ (hm8.lt) (fun k hk => by rcases k with _ | _ | _ | _ | _ | _ | _ | _ | _ | k <;> first | (cases hk; done) | (cases hk; exact absurd rfl HD8_q2.out)))
          have hm9 := hm9.blk (hJ.block _ (hm9.lt) (fun k hk => by rcases k with _ | _ | _ | _ | _ | _ | _ | _ | _ | k <;> first | (cases hk; done) | (cases hk; exact absurd rfl HD9_q2.out)))
          have ht5 := there_blk ht5 (hJ.block _ (there_lt ht5 (by omega)) (fun k hk => by rcases k with _ | _ | _ | _ | _ | _ | _ | _ | _ | k <;> first | (cases hk; done) | (cases hk; exact absurd rfl HD5_q2.out)))
          have ht7 := there_blk ht7 (hJ.block _ (there_lt ht7 (by omega)) (fun k hk => by rcases k with _ | _ | _ | _ | _ | _ | _ | _ | _ | k <;> first | (cases hk; done) | (cases hk; exact absurd rfl HD7_q2.out)))
          have ht8 := there_blk ht8 (hJ.block _ (there_lt ht8 (by omega)) (fun k hk => by rcases k with _ | _ | _ | _ | _ | _ | _ | _ | _ | k <;> first | (cases hk; done) | (cases hk; exact absurd rfl HD8_q2.out)))
          have ht9 := there_blk ht9 (hJ.block _ (there_lt ht9 (by omega)) (fun k hk => by rcases k with _ | _ | _ | _ | _ | _ | _ | _ | _ | k <;> first | (cases hk; done) | (cases hk; exact absurd rfl HD9_q2.out)))
          have HKB := Lib.hid (blk_keep HKB.out (hJ.block _ (HKB.out.lt) (fun k hk => by rcases k with _ | _ | _ | _ | _ | _ | _ | _ | _ | k <;> first | (cases hk; done) | (cases hk; exact absurd rfl HE_q2.out))))
          obtain ⟨_, hs13_7t, hs13_7⟩ := (show _ ∧ W13f.there q2 0 20 ∧ HasFs rE W13f q2 0 [-X, y, fn 1, (-X) * y] from hG 7 (by simp))
          have HC63 := Lib.hid (show u13f 0 = .bool true from hG 0 (by simp))
          have HC3 := Lib.hid (show u13f 8 = .int .i64 0 from hG 8 (by simp))
          have hbel0 := hbel
          clear hJ hG hall hb
          go_wp2
          exact ret_cell_slot (R := rE) Try.results21 (by exact E2.out) (by exact HC3.out) hs13_7 tyP4 rfl (fun r hr => ⟨r, by rw [(dec_yes HL.out HLW.out HY.out HRC.out HS.out (fun k => HX0.out (HX.out.symm.trans k.2))).1], toP (isPr hr (dec_pext (by rw [(dec_yes HL.out HLW.out HY.out HRC.out HS.out (fun k => HX0.out (HX.out.symm.trans k.2))).2.1, HX.out]; rfl) (dec_yes HL.out HLW.out HY.out HRC.out HS.out (fun k => HX0.out (HX.out.symm.trans k.2))).2.2)), hbel⟩)
theorem cDecode {a : Option Addr} {n cap : Nat} {l : List UInt8} {P : EP} {c : Int} {w : World} (hP : decV l = P) (hc : decC l = c) (h : RdB w a n cap l) :
    Calls Try.prog 21 #[.slice a n cap] w fun e w' => ∃ r, e = .returned (.tuple #[r, .int .i64 c]) ∧ IsFs rP r [P] ∧ Below w.heap.size w w' := by
  subst hP hc
  by_cases hn : n = 32
  · subst hn
    obtain ⟨b, q, rfl, hc0⟩ := h.get 31 (by rw [h.hlen]; omega)
    exact decode_32 w rfl h
  · obtain ⟨e1, e2⟩ := dec_len (b := l) (by rw [h.hlen]; exact hn)
    rw [e1, e2]
    exact decode_len w hn
end Go.Proofs.Ytielgpefoameiaa
namespace Go.Proofs.Ytielgpefoameiaa
open Go Go.RowKit
theorem dec_base : decV (88 :: List.replicate 31 102) = base ∧ decC (88 :: List.replicate 31 102) = 0 := by
  rw [← base_enc]
  unfold decV decC
  rw [decP_enc]
  exact ⟨rfl, rfl⟩
set_option maxRecDepth 100000 in
set_option maxHeartbeats 4000000 in
theorem cBase (w : World) : Calls Try.prog 26 #[] w fun e w' => ∃ r, e = .returned r ∧ IsFs rP r [base] ∧ Below w.heap.size w w' := by
  go_enter Try.func26, Try.ntmps26
  go_upto_region 3 with (go_at_call 55; go_must (refine (repeat_32' (k := w.heap.size + 1 + 1) (by simp) ?_).mono ?_; (focus (exact Blk.new' (cs := #[.int .u8 102]) (by simp))); rintro e w1 ⟨rfl, hB, hb⟩; have hN := hB.frozen 0; have hC : w1.cell? ⟨w.heap.size + 1 + 1, 0, none⟩ = some (.int .u8 102) := (by rw [hB.cell 0]; rfl); have HB := Lib.hid hB; have hbel : Below w.heap.size w w1 := Below.call (by repeat (first | (with_reducible refine Below.alloc' ?_ _) | (with_reducible refine Below.drew ?_) | (with_reducible refine below_drewN ?_ _) | ((with_reducible refine Below.setCell ?_ ?_ _); rotate_left; (focus (first | exact Nat.le_refl _ | (simp; done) | (simp; omega)))) | (with_reducible assumption) | (with_reducible exact Below.refl _ _))) hb; have htk : w1.there w.heap.size 0 20 := (fun j hj => (by have hO := (show Blk _ w.heap.size [.int .u64 0,.int .u64 0,.int .u64 0,.int .u64 0,.int .u64 0,.int .u64 0,.int .u64 0,.int .u64 0,.int .u64 0,.int .u64 0,.int .u64 0,.int .u64 0,.int .u64 0,.int .u64 0,.int .u64 0,.int .u64 0,.int .u64 0,.int .u64 0,.int .u64 0,.int .u64 0] 52 from (by repeat (first | (with_reducible refine Blk.drew ?_) | exact Blk.new' (by simp) | (with_reducible refine Blk.alloc ?_ _)))).below' hb; rw [Nat.zero_add, hO.cell, hO.frozen, List.getElem?_eq_getElem (by simp; omega)]; exact ⟨rfl, rfl⟩)); clear hb hB))
  have hD : Blk (w1.setCell ⟨w.heap.size + 1 + 1, 0, none⟩ (.int .u8 88)) (w.heap.size + 1 + 1) ((88 :: List.replicate 31 102).map bV ++ []) 5 := HB.out.set 0 (.int .u8 88)
  have hbel2 : Below w.heap.size w (w1.setCell ⟨w.heap.size + 1 + 1, 0, none⟩ (.int .u8 88)) := hbel.setCell (by simp; omega) _
  have htk2 : (w1.setCell ⟨w.heap.size + 1 + 1, 0, none⟩ (.int .u8 88)).there w.heap.size 0 20 := there_blk htk (set_other (by omega) _ _)
  clear hbel htk HB hN hC
  generalize w1.setCell ⟨w.heap.size + 1 + 1, 0, none⟩ (.int .u8 88) = W at *
  have hbel := hbel2
  have hbel0 := hbel
  have HD := Lib.hid hD
  clear hbel2 hD
  refine wp_region_turn (fun u => #[.pointer (some ⟨w.heap.size, 0, none⟩), .slice (some ⟨w.heap.size + 1 + 1, 0, none⟩) 32 32, u 5, u 7, .slice (some ⟨w.heap.size + 1, 0, none⟩) 1 1, .slice (some ⟨w.heap.size + 1 + 1, 0, none⟩) 32 32, .slice (some ⟨w.heap.size + 1 + 1, 0, none⟩) 32 32, .pointer (some ⟨w.heap.size + 1 + 1, 0, none⟩), u 2, u 0, u 1, u 3, u 4, undef]) (Holds [.oth (fun v => v = .slice (some ⟨w.heap.size + 1 + 1, 0, none⟩) 32 32), .oth (fun v => IsTV rP v [base] (.int .i64 0)), .oth (fun v => IsTV rP v [base] (.int .i64 0)), .val rP [base], .oth (fun v => v = .int .i64 0), .new 20, .st 5 rP [base], .oth (fun v => v = .int .i64 0)] W) (Keep [.oth (fun v => v = .slice (some ⟨w.heap.size + 1 + 1, 0, none⟩) 32 32), .oth (fun v => IsTV rP v [base] (.int .i64 0)), .oth (fun v => IsTV rP v [base] (.int .i64 0)), .val rP [base], .oth (fun v => v = .int .i64 0), .new 20, .st 5 rP [base], .oth (fun v => v = .int .i64 0)] W) (fun _ => undef) ?_ (by rfl) Keep.start (holds_soft (by kernel_rfl)) ?_ ?_
  · intro u i v h
    rcases i with _ | _ | _ | _ | _ | _ | _ | _ | i
    all_goals first | (simp [Act.put, putV]; done) | (exfalso; simp at h; omega)
  · intro hs
    refine ⟨?_, ?_, ?_, ?_, ?_, ?_, ?_, ?_, trivial⟩
    · exact step_pureO hs (wants_none rfl) rfl fun L u W hG hdep => ⟨_, run_move rfl, rfl⟩
    · refine step_callO hs (wants_none rfl) rfl fun L u W hJ hG hL hdep K hK => ?_
      have x0 := (show u 0 = .slice (some ⟨w.heap.size + 1 + 1, 0, none⟩) 32 32 from hG 0 (hdep 0 (by kernel_rfl)))
      have hRB0 := ((RdB.blk (n := 32) (cap := 32) [] HD.out (by rfl) (Nat.le_refl _) (by unfold maxLen; omega)).below (Below.refl _ _)).below (hJ.all rfl)
      go_simp
      go_at_call 21
      (with_reducible refine (cDecode dec_base.1 dec_base.2 hRB0).mono ?_); rintro e w1 ⟨r, rfl, hr, hb⟩
      have hk := hK.out _ _ ⟨r, rfl, hr⟩ hb
      simp only [x0] at hk
      exact hk
    · exact step_pureO hs (wants_none rfl) rfl fun L u W hG hdep => ⟨_, run_move rfl, (show IsTV rP (u 1) [base] (.int .i64 0) from hG 1 (hdep 1 (by kernel_rfl)))⟩
    · exact step_pure hs (wants_none rfl) rfl fun L u W hG hdep => run_extractV0 rfl (show IsTV rP (u 2) [base] (.int .i64 0) from hG 2 (hdep 2 (by kernel_rfl)))
    · exact step_pureO hs (wants_none rfl) rfl fun L u W hG hdep => run_extractV1 rfl (show IsTV rP (u 2) [base] (.int .i64 0) from hG 2 (hdep 2 (by kernel_rfl)))
    · exact step_alloc hs (wants_none rfl) rfl rfl (by omega) rfl allocP
    · exact step_store 5 hs (by kernel_rfl) (wants_none rfl) rfl rfl rfl (by kernel_rfl) (by kernel_rfl) (by kernel_rfl) (by kernel_rfl) (fun _ => rfl) (gives_op 3 rfl (by kernel_rfl) (fun _ => rfl)) tyP rfl
    · exact step_pureO hs (wants_none rfl) rfl fun L u W hG hdep => ⟨_, run_assign rfl, (show u 4 = .int .i64 0 from hG 4 (hdep 4 (by kernel_rfl)))⟩
  intro L3 u3 W3 hall hJ hG
  obtain ⟨q2, e2, hq2, _, ht2⟩ := (show ∃ g, u3 5 = .pointer (some ⟨g, 0, none⟩) ∧ W.heap.size ≤ g ∧ 0 < 20 ∧ W3.there g 0 20 from hG 5 (by simp))
  have hm2 : HasFs rP W3 q2 0 [base] := by
    obtain ⟨g, e, _, h⟩ := (show ∃ g, u3 5 = .pointer (some ⟨g, 0, none⟩) ∧ W.heap.size ≤ g ∧ HasFs rP W3 g 0 [base] from hG 6 (by simp))
    rw [e2] at e; cases e; exact h
  have HD2_wheapsize := Lib.hid (show w.heap.size ≠ q2 by have := there_lt htk2 (by omega); omega)
  have hq2 : w.heap.size ≤ q2 := by have := hbel0.size; omega
  have E2 := Lib.hid e2; clear e2
  have hb := hJ.all rfl
  have hbel := Below.call hbel hb
  have htk2 := there_later htk2 hb
  have HD := Lib.hid (HD.out.below' hb)
  have hbel0 := hbel
  clear hJ hG hall hb
  go_upto_region 4 with fail
  refine wp_region_turn (fun u => #[.pointer (some ⟨w.heap.size, 0, none⟩), .slice (some ⟨w.heap.size + 1 + 1, 0, none⟩) 32 32, u3 5, u3 7, .slice (some ⟨w.heap.size + 1, 0, none⟩) 1 1, .slice (some ⟨w.heap.size + 1 + 1, 0, none⟩) 32 32, .slice (some ⟨w.heap.size + 1 + 1, 0, none⟩) 32 32, .pointer (some ⟨w.heap.size + 1 + 1, 0, none⟩), u3 2, u3 0, u3 1, u3 3, u3 4, u 0]) (Holds [.val rP [base], .sto w.heap.size rP [base]] W3) (Keep [.val rP [base], .sto w.heap.size rP [base]] W3) (fun _ => undef) ?_ (by rfl) Keep.start (holds_soft (by kernel_rfl)) ?_ ?_
  · intro u i v h
    rcases i with _ | _ | i
    all_goals first | (simp [Act.put, putV]; done) | (exfalso; simp at h; omega)
  · intro hs
    refine ⟨?_, ?_, trivial⟩
    · exact step_load q2 0 hs (wants_none rfl) rfl rfl tyP (fun _ => E2.out) hm2.lt hm2 (fun k g hk => by rcases k with _ | _ | k <;> first | (cases hk; done) | (cases hk; exact .inr HD2_wheapsize.out))
    · refine step_storeO w.heap.size 20 hs (wants_none rfl) rfl rfl (by kernel_rfl) (fun k hk => ?_) (fun _ => rfl) (there_lt htk2 (by omega)) htk2 (gives_op 0 rfl (by kernel_rfl) (fun _ => rfl)) tyP rfl
      rcases k with _ | _ | k
      all_goals first | (exact absurd rfl hk) | (intro e; cases e; done)
  intro L4 u4 W4 hall hJ hG
  have hb : Below w.heap.size W3 W4 := hJ.below (by have := hbel.size; omega) (fun k b hf => by rcases k with _ | _ | k <;> first | (cases hf; done) | (cases hf; omega))
  have hbel := hbel.trans hb
  have hm2 := hm2.blk (hJ.block _ (hm2.lt) (fun k hk => by rcases k with _ | _ | k <;> first | (cases hk; done) | (cases hk; exact absurd rfl HD2_wheapsize.out)))
  have ht2 := there_blk ht2 (hJ.block _ (there_lt ht2 (by omega)) (fun k hk => by rcases k with _ | _ | k <;> first | (cases hk; done) | (cases hk; exact absurd rfl HD2_wheapsize.out)))
  obtain ⟨_, hs4_1t, hs4_1⟩ := (show _ ∧ W4.there w.heap.size 0 20 ∧ HasFs rP W4 w.heap.size 0 [base] from hG 1 (by simp))
  have hbel0 := hbel
  clear hJ hG hall hb
  go_wp2
  exact ret_cell1 (R := rP) Try.results26 (by exact rfl) hs4_1 tyP rfl (fun r hr => ⟨r, rfl, hr, hbel⟩)
end Go.Proofs.Ytielgpefoameiaa
namespace Go.Proofs.Ytielgpefoameiaa
open Go Go.RowKit
/-- A seed's number. -/
def edA (seed : List UInt8) : F := wS (clampB (sha512 seed))
/-- A seed's prefix. -/
def edP (seed : List UInt8) : List UInt8 := (sha512 seed).drop 32
/-- A seed's public key. -/
def edPub (seed : List UInt8) : List UInt8 := encP (Cp.mul (edA seed).val base)
/-- A signature's first half. -/
def edR (p l : List UInt8) : List UInt8 := encP (Cp.mul (wS (sha512 (p ++ l))).val base)
/-- A signature. -/
def edSign (s : F) (p q l : List UInt8) : List UInt8 := edR p l ++ leB 32 (dA (wS (sha512 (p ++ l))) (dM (wS (sha512 (edR p l ++ (q ++ l)))) s)).val
theorem edP_len (seed : List UInt8) : (edP seed).length = 32 := by unfold edP; rw [List.length_drop, sha512_len]
theorem edPub_len (seed : List UInt8) : (edPub seed).length = 32 := encP_len _
theorem edR_len (p l : List UInt8) : (edR p l).length = 32 := encP_len _
theorem edSign_len (s : F) (p q l : List UInt8) : (edSign s p q l).length = 64 := by unfold edSign; rw [List.length_append, edR_len, leB_len]
theorem NewB.mk' {w w' : World} {l : List UInt8} {e : Ending} (h : ∃ g n cap r, e = .returned (.slice (some ⟨g, 0, none⟩) n cap) ∧ w.heap.size ≤ g ∧ Blk w' g (l.map bV ++ r) 5 ∧ l.length = n ∧ n ≤ cap ∧ cap ≤ maxLen ∧ Below w.heap.size w w') : ∃ r, e = .returned r ∧ (IsB l).P r w' ∧ Below w.heap.size w w' := NewB.is h
theorem gSum512 {v : Value} {ls : List (List UInt8)} {l : List UInt8} {w : World} (h : (IsR ls).P v w) (hl : ls.flatten = l) (hs : l.length ≤ 1000000) :
    Calls Try.prog 32 #[v] w fun e w' => ∃ r, e = .returned r ∧ (IsB (sha512 l)).P r w' ∧ Below w.heap.size w w' := by
  obtain ⟨a, n, cap, rfl, hr⟩ := h
  exact (sum512_any hr hl hs).mono fun _ _ h => h.is
theorem gCat {v : Value} {ls : List (List UInt8)} {l : List UInt8} {w : World} (h : (IsR ls).P v w) (hl : ls.flatten = l) (hs : l.length ≤ 1000000) :
    Calls Try.prog 25 #[v] w fun e w' => ∃ r, e = .returned r ∧ (IsB l).P r w' ∧ Below w.heap.size w w' := by
  obtain ⟨a, n, cap, rfl, hr⟩ := h
  subst hl
  exact (cat_any w hr (by omega)).mono fun _ _ ⟨v, he, ho, hb⟩ => ⟨v, he, IsB.own ho, hb⟩
theorem gClamp {v : Value} {l : List UInt8} {w : World} (h : (IsB l).P v w) :
    Calls Try.prog 34 #[v] w fun e w' => ∃ r, e = .returned r ∧ (IsB (clampB l)).P r w' ∧ Below w.heap.size w w' := by
  obtain ⟨a, n, cap, rfl, hr⟩ := h
  exact (clamp_any w hr).mono fun _ _ ⟨he, hB, hb⟩ => ⟨_, he, IsB.mk (RdB.blk (n := 32) (cap := 32) [] (by rw [List.append_nil]; exact hB) (clampB_len _) (by omega) (by unfold maxLen; omega)), hb⟩
theorem gWide {v : Value} {l : List UInt8} {w : World} (h : (IsB l).P v w) :
    Calls Try.prog 33 #[v] w fun e w' => ∃ r, e = .returned r ∧ IsFs rS r [wS l] ∧ Below w.heap.size w w' := by
  obtain ⟨a, n, cap, rfl, hr⟩ := h
  exact cWide rfl hr
theorem gClone {v : Value} {l : List UInt8} {w : World} (h : (IsB l).P v w) (hm : l.length ≤ 1000000) :
    Calls Try.prog 39 #[v] w fun e w' => ∃ r, e = .returned r ∧ (IsB l).P r w' ∧ Below w.heap.size w w' := by
  obtain ⟨a, n, cap, rfl, hr⟩ := h
  exact (clone_own w hr (by rw [← hr.hlen]; omega)).mono fun _ _ ⟨v, he, ho, hb⟩ => ⟨v, he, IsB.own ho, hb⟩
theorem gEncode {v : Value} {P : EP} (h : IsFs rP v [P]) (w : World) :
    Calls Try.prog 35 #[v] w fun e w' => ∃ r, e = .returned r ∧ (IsB (encP P)).P r w' ∧ Below w.heap.size w w' := (cEncode h w).mono fun _ _ h => NewB.mk' h
theorem gScBytes {v : Value} {x : F} (h : IsFs rS v [x]) (w : World) :
    Calls Try.prog 38 #[v] w fun e w' => ∃ r, e = .returned r ∧ (IsB (leB 32 x.val)).P r w' ∧ Below w.heap.size w w' := (cScBytes h w).mono fun _ _ h => NewB.mk' h
theorem gDecode {v : Value} {l : List UInt8} {P : EP} {c : Int} {w : World} (hP : decV l = P) (hc : decC l = c) (h : (IsB l).P v w) :
    Calls Try.prog 21 #[v] w fun e w' => ∃ r, e = .returned (.tuple #[r, .int .i64 c]) ∧ IsFs rP r [P] ∧ Below w.heap.size w w' := by
  obtain ⟨a, n, cap, rfl, hr⟩ := h
  exact cDecode hP hc hr
theorem gStrict {v : Value} {l : List UInt8} {x : F} {c : Int} {w : World} (hx : ssV l = x) (hc : ssC l = c) (h : (IsB l).P v w) :
    Calls Try.prog 23 #[v] w fun e w' => ∃ r, e = .returned (.tuple #[r, .int .i64 c]) ∧ IsFs rS r [x] ∧ Below w.heap.size w w' := by
  obtain ⟨a, n, cap, rfl, hr⟩ := h
  exact cScStrict hx hc hr
theorem field_Signer1 (g : Nat) (w : World) : (Instr.fieldAt 68 (.pointer (some ⟨g, 0, none⟩)) 1).run Try.prog w = .ok (.pointer (some ⟨g, 4, none⟩)) w := by kernel_rfl
theorem field_Signer2 (g : Nat) (w : World) : (Instr.fieldAt 68 (.pointer (some ⟨g, 0, none⟩)) 2).run Try.prog w = .ok (.pointer (some ⟨g, 5, none⟩)) w := by kernel_rfl
theorem field_Signer0 (g : Nat) (w : World) : (Instr.fieldAt 68 (.pointer (some ⟨g, 0, none⟩)) 0).run Try.prog w = .ok (.pointer (some ⟨g, 0, none⟩)) w := by kernel_rfl
theorem buildSigner (a b c d : Int) (A B : Option Addr) (n m k j : Nat) (w : World) : (Instr.build 68 #[(0, .agg #[.int .u64 a, .int .u64 b, .int .u64 c, .int .u64 d]), (1, .slice A n k), (2, .slice B m j)]).run Try.prog w = .ok (.agg #[.int .u64 a, .int .u64 b, .int .u64 c, .int .u64 d, .slice A n k, .slice B m j]) w := by kernel_rfl
theorem run_buildSigner {ev : Operand → Value} {o : Oper} {x y z : Operand} {w : World} {s : F} {p q : List UInt8} (ho : o.op = .build 68 #[(0, x), (1, y), (2, z)]) (h0 : IsFs rS (ev x) [s]) (h1 : (IsB p).P (ev y) w) (h2 : (IsB q).P (ev z) w) :
    ∃ r w', (execOp ev o).run Try.prog w = .ok (.value r) w' ∧ Below w.heap.size w w' ∧ (StV [fNum rS [s], fB p, fB q]).P r w' := by
  have e2 := (of_isS h0).2
  obtain ⟨cs, e, hc⟩ := h0
  have h1' := h1
  have h2' := h2
  obtain ⟨A, n, k, e3, _⟩ := h1
  obtain ⟨B, m, j, e4, _⟩ := h2
  rw [e3] at h1'
  rw [e4] at h2'
  have ec : cs = [.int .u64 (lw s.val 0 : Nat), .int .u64 (lw s.val 1 : Nat), .int .u64 (lw s.val 2 : Nat), .int .u64 (lw s.val 3 : Nat)] := by
    rw [e2] at e; simpa using e.symm
  refine ⟨_, w, run_build3 ho (by rw [e2, e3, e4]; exact buildSigner _ _ _ _ A B n m k j w), Below.refl _ _, cs ++ ([.slice A n k] ++ ([.slice B m j] ++ [])), by rw [ec]; rfl, cs, [.slice A n k] ++ ([.slice B m j] ++ []), rfl, hc, _, _, rfl, ⟨_, rfl, h1'⟩, _, _, rfl, ⟨_, rfl, h2'⟩, rfl⟩
set_option maxRecDepth 100000 in
set_option maxHeartbeats 1000000 in
theorem gHash {w : World} {v : Value} {ls : List (List UInt8)} {l : List UInt8} (h : (IsR ls).P v w) (hl : ls.flatten = l) (hs : l.length ≤ 1000000) :
    Calls Try.prog 24 #[v] w fun e w' => ∃ r, e = .returned r ∧ IsFs rS r [wS (sha512 l)] ∧ Below w.heap.size w w' := by
  have HL := Lib.hid hl; have HS := Lib.hid hs
  clear hl hs
  go_enter Try.func24, Try.ntmps24
  have hbel : Below w.heap.size w w := Below.refl _ _
  have hbel0 := hbel
  go_upto_region 0 with fail
  refine wp_region_turn (fun u => #[v, undef, u 0, undef, undef, undef]) (Holds [.new 4] w) (Keep [.new 4] w) (fun _ => undef) ?_ (by rfl) Keep.start (holds_soft (by kernel_rfl)) ?_ ?_
  · intro u i v h
    rcases i with _ | i
    all_goals first | (simp [Act.put, putV]; done) | (exfalso; simp at h; omega)
  · intro hs
    refine ⟨?_, trivial⟩
    · exact step_alloc hs (wants_none rfl) rfl rfl (by omega) rfl allocS
  intro L0 u0 W0 hall hJ hG
  obtain ⟨q2, e2, hq2, _, ht2⟩ := (show ∃ g, u0 0 = .pointer (some ⟨g, 0, none⟩) ∧ w.heap.size ≤ g ∧ 0 < 4 ∧ W0.there g 0 4 from hG 0 (by simp))
  have hq2 : w.heap.size ≤ q2 := by have := hbel0.size; omega
  have E2 := Lib.hid e2; clear e2
  have hb := hJ.all rfl
  have hbel := Below.call hbel hb
  have hbel0 := hbel
  clear hJ hG hall hb
  go_upto_region 1 with fail
  refine wp_region_turn (fun u => #[v, undef, u0 0, u 0, u 1, u 2]) (Holds [.wld (IsR ls) (some 1), .wld (IsB (sha512 l)) (some 2), .val rS [wS (sha512 l)], .sto q2 rS [wS (sha512 l)]] W0) (Keep [.wld (IsR ls) (some 1), .wld (IsB (sha512 l)) (some 2), .val rS [wS (sha512 l)], .sto q2 rS [wS (sha512 l)]] W0) (fun _ => undef) ?_ (by rfl) Keep.start (holds_soft (by kernel_rfl)) ?_ ?_
  · intro u i v h
    rcases i with _ | _ | _ | _ | i
    all_goals first | (simp [Act.put, putV]; done) | (exfalso; simp at h; omega)
  · intro hs
    refine ⟨?_, ?_, ?_, ?_, trivial⟩
    · exact step_runP hs (wants_none rfl) rfl fun L u W hJ hG hL hdep => run_moveP (.inl rfl) ((IsR ls).st _ _ _ h (hbel.trans (hJ.below (by have := hbel.size; omega) (fun k b hf => by rcases k with _ | _ | _ | _ | k <;> first | (cases hf; done) | (cases hf; omega)))))
    · refine step_callP hs (wants_none rfl) rfl fun L u W hJ hG hL hdep K hK => ?_
      go_simp
      go_at_call 32
      (with_reducible refine (gSum512 (l := l) (holds_wld (φ := IsR ls) (hG 0 (hdep 0 (by kernel_rfl))) rfl (till_some hL)) (HL.out) (HS.out)).mono ?_); rintro e w1 ⟨r, rfl, hr, hb⟩
      have hk := hK.out _ _ hr hb
      exact hk
    · refine step_call hs (wants_none rfl) rfl fun L u W hJ hG hL hdep K hK => ?_
      go_simp
      go_at_call 33
      (with_reducible refine (gWide (holds_wld (φ := IsB (sha512 l)) (hG 1 (hdep 1 (by kernel_rfl))) rfl (till_some hL))).mono ?_); rintro e w1 ⟨r, rfl, hr, hb⟩
      have hk := hK.out _ _ hr hb
      exact hk
    · refine step_storeO q2 4 hs (wants_none rfl) rfl rfl (by kernel_rfl) (fun k hk => ?_) (fun _ => E2.out) (there_lt ht2 (by omega)) ht2 (gives_op 2 rfl (by kernel_rfl) (fun _ => rfl)) tyS rfl
      rcases k with _ | _ | _ | _ | k
      all_goals first | (exact absurd rfl hk) | (intro e; cases e; done)
  intro L1 u1 W1 hall hJ hG
  have hb : Below w.heap.size W0 W1 := hJ.below (by have := hbel.size; omega) (fun k b hf => by rcases k with _ | _ | _ | _ | k <;> first | (cases hf; done) | (cases hf; omega))
  have hbel := hbel.trans hb
  obtain ⟨_, hs1_3t, hs1_3⟩ := (show _ ∧ W1.there q2 0 4 ∧ HasFs rS W1 q2 0 [wS (sha512 l)] from hG 3 (by simp))
  have hbel0 := hbel
  clear hJ hG hall hb
  go_wp2
  exact ret_cell1 (R := rS) Try.results24 (by exact E2.out) hs1_3 tyS rfl (fun r hr => ⟨r, rfl, hr, hbel⟩)
set_option maxRecDepth 100000 in
set_option maxHeartbeats 1000000 in
theorem gNewSigner {w : World} {v : Value} {seed : List UInt8} (h : (IsB seed).P v w) (hl : seed.length = 32) :
    Calls Try.prog 16 #[v] w fun e w' => ∃ r, e = .returned (.tuple #[r, .int .i64 0]) ∧ (StP [fNum rS [edA seed], fB (edP seed), fB (edPub seed)]).P r w' ∧ Below w.heap.size w w' := by
  have HL := Lib.hid hl
  clear hl
  go_enter Try.func16, Try.ntmps16
  have hbel : Below w.heap.size w w := Below.refl _ _
  have hbel0 := hbel
  go_upto_region 0 with fail
  refine wp_region_turn (fun u => #[v, undef, u 0, u 1, undef, undef, undef, undef, undef, undef, undef, undef, undef, undef, undef, undef, undef, undef, undef, undef, undef, undef, undef, undef]) (Holds [.oth (fun v => v = .pointer none), .oth (fun v => v = .int .i64 0)] w) (Keep [.oth (fun v => v = .pointer none), .oth (fun v => v = .int .i64 0)] w) (fun _ => undef) ?_ (by rfl) Keep.start (holds_soft (by kernel_rfl)) ?_ ?_
  · intro u i v h
    rcases i with _ | _ | i
    all_goals first | (simp [Act.put, putV]; done) | (exfalso; simp at h; omega)
  · intro hs
    refine ⟨?_, ?_, trivial⟩
    · exact step_pureO hs (wants_none rfl) rfl fun L u W hG hdep => ⟨_, run_assign rfl, rfl⟩
    · exact step_pureO hs (wants_none rfl) rfl fun L u W hG hdep => ⟨_, run_assign rfl, rfl⟩
  intro L0 u0 W0 hall hJ hG
  have hb := hJ.all rfl
  have hbel := Below.call hbel hb
  have HC2 := Lib.hid (show u0 0 = .pointer none from hG 0 (by simp))
  have HC3 := Lib.hid (show u0 1 = .int .i64 0 from hG 1 (by simp))
  have hbel0 := hbel
  clear hJ hG hall hb
  go_upto_region 1 with fail
  refine wp_region_turn (fun u => #[v, undef, u0 0, u0 1, undef, undef, u 0, u 1, u 2, undef, undef, undef, undef, undef, undef, undef, undef, undef, undef, undef, undef, undef, undef, undef]) (Holds [.wld (IsB seed) none, .oth (fun v => v = .int .i64 32), .oth (fun v => v = .bool false)] W0) (Keep [.wld (IsB seed) none, .oth (fun v => v = .int .i64 32), .oth (fun v => v = .bool false)] W0) (fun _ => undef) ?_ (by rfl) Keep.start (holds_soft (by kernel_rfl)) ?_ ?_
  · intro u i v h
    rcases i with _ | _ | _ | i
    all_goals first | (simp [Act.put, putV]; done) | (exfalso; simp at h; omega)
  · intro hs
    refine ⟨?_, ?_, ?_, trivial⟩
    · exact step_runP hs (wants_none rfl) rfl fun L u W hJ hG hL hdep => run_moveP (.inl rfl) ((IsB seed).st _ _ _ h (Below.call hbel (hJ.all rfl)))
    · exact step_runO hs (wants_none rfl) rfl fun L u W hJ hG hL hdep => run_lenP rfl (holds_wld (φ := IsB seed) (hG 0 (hdep 0 (by kernel_rfl))) rfl till_none) (by rw [HL.out]; rfl)
    · refine step_pureO hs (wants_none rfl) rfl fun L u W hG hdep => ⟨_, ?_, rfl⟩
      have e0 := (show u 1 = .int .i64 32 from hG 1 (hdep 1 (by kernel_rfl)))
      go_simp
      try simp [bne]
  intro L1 u1 W1 hall hJ hG
  have hb := hJ.all rfl
  have hbel := Below.call hbel hb
  have HC8 := Lib.hid (show u1 2 = .bool false from hG 2 (by simp))
  have hbel0 := hbel
  clear hJ hG hall hb
  have hx : u1 2 = .bool false := HC8.out
  go_wp2_with fail
  rw [hx]
  clear hx
  go_upto_region 3 with fail
  refine wp_region_turn (fun u => #[v, undef, u0 0, u0 1, u 3, undef, u1 0, u1 1, .bool false, u 0, u 1, u 2, undef, undef, undef, undef, undef, undef, undef, undef, undef, undef, undef, undef]) (Holds [.wld (IsB seed) none, .wld (IsR [seed]) none, .wld (IsB (sha512 seed)) none, .wld (IsB (sha512 seed)) none] W1) (Keep [.wld (IsB seed) none, .wld (IsR [seed]) none, .wld (IsB (sha512 seed)) none, .wld (IsB (sha512 seed)) none] W1) (fun _ => undef) ?_ (by rfl) Keep.start (holds_soft (by kernel_rfl)) ?_ ?_
  · intro u i v h
    rcases i with _ | _ | _ | _ | i
    all_goals first | (simp [Act.put, putV]; done) | (exfalso; simp at h; omega)
  · intro hs
    refine ⟨?_, ?_, ?_, ?_, trivial⟩
    · exact step_runP hs (wants_none rfl) rfl fun L u W hJ hG hL hdep => run_moveP (.inl rfl) ((IsB seed).st _ _ _ h (Below.call hbel (hJ.all rfl)))
    · exact step_runP hs (wants_none rfl) rfl fun L u W hJ hG hL hdep => run_rows1 rfl (holds_wld (φ := IsB seed) (hG 0 (hdep 0 (by kernel_rfl))) rfl till_none)
    · refine step_callP hs (wants_none rfl) rfl fun L u W hJ hG hL hdep K hK => ?_
      go_simp
      go_at_call 32
      (with_reducible refine (gSum512 (l := seed) (holds_wld (φ := IsR [seed]) (hG 1 (hdep 1 (by kernel_rfl))) rfl till_none) (by simp) (by rw [HL.out]; omega)).mono ?_); rintro e w1 ⟨r, rfl, hr, hb⟩
      have hk := hK.out _ _ hr hb
      exact hk
    · exact step_runP hs (wants_none rfl) rfl fun L u W hJ hG hL hdep => run_moveP (.inr rfl) (holds_wld (φ := IsB (sha512 seed)) (hG 2 (hdep 2 (by kernel_rfl))) rfl till_none)
  intro L3 u3 W3 hall hJ hG
  have hb := hJ.all rfl
  have hbel := Below.call hbel hb
  have hw4 := holds_wld (φ := IsB (sha512 seed)) (hG 3 (by simp)) rfl till_none
  have hbel0 := hbel
  clear hJ hG hall hb
  go_upto_region 4 with fail
  refine wp_region_turn (fun u => #[v, undef, u0 0, u0 1, u3 3, u 3, u1 0, u1 1, .bool false, u3 0, u3 1, u3 2, u 0, u 1, u 2, undef, undef, undef, undef, undef, undef, undef, undef, undef]) (Holds [.wld (IsB (sha512 seed)) (some 1), .wld (IsB (clampB (sha512 seed))) (some 2), .val rS [wS (clampB (sha512 seed))], .new 4, .st 3 rS [wS (clampB (sha512 seed))]] W3) (Keep [.wld (IsB (sha512 seed)) (some 1), .wld (IsB (clampB (sha512 seed))) (some 2), .val rS [wS (clampB (sha512 seed))], .new 4, .st 3 rS [wS (clampB (sha512 seed))]] W3) (fun _ => undef) ?_ (by rfl) Keep.start (holds_soft (by kernel_rfl)) ?_ ?_
  · intro u i v h
    rcases i with _ | _ | _ | _ | _ | i
    all_goals first | (simp [Act.put, putV]; done) | (exfalso; simp at h; omega)
  · intro hs
    refine ⟨?_, ?_, ?_, ?_, ?_, trivial⟩
    · exact step_runP hs (wants_none rfl) rfl fun L u W hJ hG hL hdep => run_moveP (.inl rfl) ((IsB (sha512 seed)).st _ _ _ hw4 (hJ.all rfl))
    · refine step_callP hs (wants_none rfl) rfl fun L u W hJ hG hL hdep K hK => ?_
      go_simp
      go_at_call 34
      (with_reducible refine (gClamp (holds_wld (φ := IsB (sha512 seed)) (hG 0 (hdep 0 (by kernel_rfl))) rfl (till_some hL))).mono ?_); rintro e w1 ⟨r, rfl, hr, hb⟩
      have hk := hK.out _ _ hr hb
      exact hk
    · refine step_call hs (wants_none rfl) rfl fun L u W hJ hG hL hdep K hK => ?_
      go_simp
      go_at_call 33
      (with_reducible refine (gWide (holds_wld (φ := IsB (clampB (sha512 seed))) (hG 1 (hdep 1 (by kernel_rfl))) rfl (till_some hL))).mono ?_); rintro e w1 ⟨r, rfl, hr, hb⟩
      have hk := hK.out _ _ hr hb
      exact hk
    · exact step_alloc hs (wants_none rfl) rfl rfl (by omega) rfl allocS
    · exact step_store 3 hs (by kernel_rfl) (wants_none rfl) rfl rfl rfl (by kernel_rfl) (by kernel_rfl) (by kernel_rfl) (by kernel_rfl) (fun _ => rfl) (gives_op 2 rfl (by kernel_rfl) (fun _ => rfl)) tyS rfl
  intro L4 u4 W4 hall hJ hG
  obtain ⟨q5, e5, hq5, _, ht5⟩ := (show ∃ g, u4 3 = .pointer (some ⟨g, 0, none⟩) ∧ W3.heap.size ≤ g ∧ 0 < 4 ∧ W4.there g 0 4 from hG 3 (by simp))
  have hm5 : HasFs rS W4 q5 0 [wS (clampB (sha512 seed))] := by
    obtain ⟨g, e, _, h⟩ := (show ∃ g, u4 3 = .pointer (some ⟨g, 0, none⟩) ∧ W3.heap.size ≤ g ∧ HasFs rS W4 g 0 [wS (clampB (sha512 seed))] from hG 4 (by simp))
    rw [e5] at e; cases e; exact h
  have hq5 : w.heap.size ≤ q5 := by have := hbel0.size; omega
  have E5 := Lib.hid e5; clear e5
  have hb := hJ.all rfl
  have hbel := Below.call hbel hb
  have hw4 := (IsB (sha512 seed)).st _ _ _ hw4 hb
  have hbel0 := hbel
  clear hJ hG hall hb
  go_upto_region 5 with fail
  refine wp_region_mid (fun u => #[v, undef, u 9, u 10, u3 3, u4 3, u1 0, u1 1, .bool false, u3 0, u3 1, u3 2, u4 0, u4 1, u4 2, u 0, u 1, u 2, u 3, u 4, u 5, u 6, u 7, u 8]) (Holds [.val rS [wS (clampB (sha512 seed))], .wld (IsB (sha512 seed)) none, .wld (IsB ((sha512 seed).drop 32)) none, .val rP [base], .val rS [wS (clampB (sha512 seed))], .val rP [Cp.mul (wS (clampB (sha512 seed))).val base], .wld (IsB (encP (Cp.mul (wS (clampB (sha512 seed))).val base))) none, .wld (StV [fNum rS [wS (clampB (sha512 seed))], fB ((sha512 seed).drop 32), fB (encP (Cp.mul (wS (clampB (sha512 seed))).val base))]) none, .wld (StP [fNum rS [wS (clampB (sha512 seed))], fB ((sha512 seed).drop 32), fB (encP (Cp.mul (wS (clampB (sha512 seed))).val base))]) none, .wld (StP [fNum rS [wS (clampB (sha512 seed))], fB ((sha512 seed).drop 32), fB (encP (Cp.mul (wS (clampB (sha512 seed))).val base))]) none, .oth (fun v => v = .int .i64 0)] W4) (Keep [.val rS [wS (clampB (sha512 seed))], .wld (IsB (sha512 seed)) none, .wld (IsB ((sha512 seed).drop 32)) none, .val rP [base], .val rS [wS (clampB (sha512 seed))], .val rP [Cp.mul (wS (clampB (sha512 seed))).val base], .wld (IsB (encP (Cp.mul (wS (clampB (sha512 seed))).val base))) none, .wld (StV [fNum rS [wS (clampB (sha512 seed))], fB ((sha512 seed).drop 32), fB (encP (Cp.mul (wS (clampB (sha512 seed))).val base))]) none, .wld (StP [fNum rS [wS (clampB (sha512 seed))], fB ((sha512 seed).drop 32), fB (encP (Cp.mul (wS (clampB (sha512 seed))).val base))]) none, .wld (StP [fNum rS [wS (clampB (sha512 seed))], fB ((sha512 seed).drop 32), fB (encP (Cp.mul (wS (clampB (sha512 seed))).val base))]) none, .oth (fun v => v = .int .i64 0)] W4) (fun k => ((undef :: undef :: undef :: undef :: undef :: undef :: undef :: undef :: undef :: u0 0 :: u0 1 :: []) : List Value).getD k undef) (by kernel_rfl) (by kernel_rfl) ?_ (by rfl) Keep.drew (holds_soft (by kernel_rfl)) ?_ ?_
  · intro u i v h
    rcases i with _ | _ | _ | _ | _ | _ | _ | _ | _ | _ | _ | i
    all_goals first | (simp [Act.put, putV]; done) | (exfalso; simp at h; omega)
  · intro hs
    refine ⟨?_, ?_, ?_, ?_, ?_, ?_, ?_, ?_, ?_, ?_, ?_, trivial⟩
    · exact step_load q5 0 hs (wants_none rfl) rfl rfl tyS (fun _ => E5.out) hm5.lt hm5 (noSto_apart (by kernel_rfl))
    · exact step_runP hs (wants_none rfl) rfl fun L u W hJ hG hL hdep => run_moveP (.inl rfl) ((IsB (sha512 seed)).st _ _ _ hw4 (hJ.all rfl))
    · exact step_runP hs (wants_none rfl) rfl fun L u W hJ hG hL hdep => run_fromP (k := 32) rfl rfl (holds_wld (φ := IsB (sha512 seed)) (hG 1 (hdep 1 (by kernel_rfl))) rfl till_none) (by rw [sha512_len]; omega)
    · refine step_call hs (wants_none rfl) rfl fun L u W hJ hG hL hdep K hK => ?_
      go_simp
      go_at_call 26
      (with_reducible refine (cBase _).mono ?_); rintro e w1 ⟨r, rfl, hr, hb⟩
      have hk := hK.out _ _ hr hb
      exact hk
    · exact step_load q5 0 hs (wants_none rfl) rfl rfl tyS (fun _ => E5.out) hm5.lt hm5 (noSto_apart (by kernel_rfl))
    · refine step_call hs (wants_none rfl) rfl fun L u W hJ hG hL hdep K hK => ?_
      have a0 := (show IsFs rP (u 3) [base] from hG 3 (hdep 3 (by kernel_rfl)))
      have a1 := (show IsFs rS (u 4) [wS (clampB (sha512 seed))] from hG 4 (hdep 4 (by kernel_rfl)))
      go_simp
      go_at_call 27
      (with_reducible refine (cMult rfl a0 a1 _).mono ?_); rintro e w1 ⟨r, rfl, hr, hb⟩
      have hk := hK.out _ _ hr hb
      exact hk
    · refine step_callP hs (wants_none rfl) rfl fun L u W hJ hG hL hdep K hK => ?_
      have a0 := (show IsFs rP (u 5) [Cp.mul (wS (clampB (sha512 seed))).val base] from hG 5 (hdep 5 (by kernel_rfl)))
      go_simp
      go_at_call 35
      (with_reducible refine (gEncode a0 _).mono ?_); rintro e w1 ⟨r, rfl, hr, hb⟩
      have hk := hK.out _ _ hr hb
      exact hk
    · exact step_runP hs (wants_none rfl) rfl fun L u W hJ hG hL hdep => run_buildSigner rfl (show IsFs rS (u 0) [wS (clampB (sha512 seed))] from hG 0 (hdep 0 (by kernel_rfl))) (holds_wld (φ := IsB ((sha512 seed).drop 32)) (hG 2 (hdep 2 (by kernel_rfl))) rfl till_none) (holds_wld (φ := IsB (encP (Cp.mul (wS (clampB (sha512 seed))).val base))) (hG 6 (hdep 6 (by kernel_rfl))) rfl till_none)
    · exact step_runP hs (wants_none rfl) rfl fun L u W hJ hG hL hdep => run_boxSt rfl (holds_wld (φ := StV [fNum rS [wS (clampB (sha512 seed))], fB ((sha512 seed).drop 32), fB (encP (Cp.mul (wS (clampB (sha512 seed))).val base))]) (hG 7 (hdep 7 (by kernel_rfl))) rfl till_none)
    · exact step_runP hs (wants_none rfl) rfl fun L u W hJ hG hL hdep => run_moveP (.inr rfl) (holds_wld (φ := StP [fNum rS [wS (clampB (sha512 seed))], fB ((sha512 seed).drop 32), fB (encP (Cp.mul (wS (clampB (sha512 seed))).val base))]) (hG 8 (hdep 8 (by kernel_rfl))) rfl till_none)
    · exact step_pureO hs (wants_none rfl) rfl fun L u W hG hdep => ⟨_, run_assign rfl, rfl⟩
  intro L5 u5 W5 hall hJ hG
  have hb := hJ.all rfl
  have hbel := Below.call hbel hb
  have hm5 := hm5.later hb
  have ht5 := there_later ht5 hb
  have hw4 := (IsB (sha512 seed)).st _ _ _ hw4 hb
  have hw2 := holds_wld (φ := StP [fNum rS [wS (clampB (sha512 seed))], fB ((sha512 seed).drop 32), fB (encP (Cp.mul (wS (clampB (sha512 seed))).val base))]) (hG 9 (by simp)) rfl till_none
  have HC3 := Lib.hid (show u5 10 = .int .i64 0 from hG 10 (by simp))
  have hbel0 := hbel
  clear hJ hG hall hb
  go_wp2
  go_ret2
  exact ⟨_, by rw [HC3.out]; rfl, hw2, hbel⟩
set_option maxRecDepth 100000 in
set_option maxHeartbeats 400000 in
theorem newSigner_no {w : World} {v : Value} {seed : List UInt8} {N : Nat} (h : (IsB seed).P v w) (hl : seed.length = N) (hn : N ≠ 32) :
    Calls Try.prog 16 #[v] w fun e w' => e = .returned (.tuple #[.pointer none, .int .i64 1]) ∧ Below w.heap.size w w' := by
  have HL := Lib.hid hl
  have HN : Hid ((!((N : Int) == 32)) = true) := Lib.hid (by simp; omega)
  clear hl hn
  go_enter Try.func16, Try.ntmps16
  have hbel : Below w.heap.size w w := Below.refl _ _
  have hbel0 := hbel
  go_upto_region 0 with fail
  refine wp_region_turn (fun u => #[v, undef, u 0, u 1, undef, undef, undef, undef, undef, undef, undef, undef, undef, undef, undef, undef, undef, undef, undef, undef, undef, undef, undef, undef]) (Holds [.oth (fun v => v = .pointer none), .oth (fun v => v = .int .i64 0)] w) (Keep [.oth (fun v => v = .pointer none), .oth (fun v => v = .int .i64 0)] w) (fun _ => undef) ?_ (by rfl) Keep.start (holds_soft (by kernel_rfl)) ?_ ?_
  · intro u i v h
    rcases i with _ | _ | i
    all_goals first | (simp [Act.put, putV]; done) | (exfalso; simp at h; omega)
  · intro hs
    refine ⟨?_, ?_, trivial⟩
    · exact step_pureO hs (wants_none rfl) rfl fun L u W hG hdep => ⟨_, run_assign rfl, rfl⟩
    · exact step_pureO hs (wants_none rfl) rfl fun L u W hG hdep => ⟨_, run_assign rfl, rfl⟩
  intro L0 u0 W0 hall hJ hG
  have hb := hJ.all rfl
  have hbel := Below.call hbel hb
  have HC2 := Lib.hid (show u0 0 = .pointer none from hG 0 (by simp))
  have HC3 := Lib.hid (show u0 1 = .int .i64 0 from hG 1 (by simp))
  have hbel0 := hbel
  clear hJ hG hall hb
  go_upto_region 1 with fail
  refine wp_region_turn (fun u => #[v, undef, u0 0, u0 1, undef, undef, u 0, u 1, u 2, undef, undef, undef, undef, undef, undef, undef, undef, undef, undef, undef, undef, undef, undef, undef]) (Holds [.wld (IsB seed) none, .oth (fun v => v = .int .i64 (N : Int)), .oth (fun v => v = .bool true)] W0) (Keep [.wld (IsB seed) none, .oth (fun v => v = .int .i64 (N : Int)), .oth (fun v => v = .bool true)] W0) (fun _ => undef) ?_ (by rfl) Keep.start (holds_soft (by kernel_rfl)) ?_ ?_
  · intro u i v h
    rcases i with _ | _ | _ | i
    all_goals first | (simp [Act.put, putV]; done) | (exfalso; simp at h; omega)
  · intro hs
    refine ⟨?_, ?_, ?_, trivial⟩
    · exact step_runP hs (wants_none rfl) rfl fun L u W hJ hG hL hdep => run_moveP (.inl rfl) ((IsB seed).st _ _ _ h (Below.call hbel (hJ.all rfl)))
    · exact step_runO hs (wants_none rfl) rfl fun L u W hJ hG hL hdep => run_lenP rfl (holds_wld (φ := IsB seed) (hG 0 (hdep 0 (by kernel_rfl))) rfl till_none) (by rw [HL.out])
    · refine step_pureO hs (wants_none rfl) rfl fun L u W hG hdep => ⟨_, ?_, rfl⟩
      have e0 := (show u 1 = .int .i64 (N : Int) from hG 1 (hdep 1 (by kernel_rfl)))
      have e9 := HN.out
      go_simp
      try exact e9
      try simpa using e9
  intro L1 u1 W1 hall hJ hG
  have hb := hJ.all rfl
  have hbel := Below.call hbel hb
  have HC8 := Lib.hid (show u1 2 = .bool true from hG 2 (by simp))
  have hbel0 := hbel
  clear hJ hG hall hb
  have hx : u1 2 = .bool true := HC8.out
  go_wp2_with fail
  rw [hx]
  clear hx
  go_upto_region 2 with fail
  refine wp_region_turn (fun u => #[v, undef, u 0, u 1, undef, undef, u1 0, u1 1, .bool true, undef, undef, undef, undef, undef, undef, undef, undef, undef, undef, undef, undef, undef, undef, undef]) (Holds [.oth (fun v => v = .pointer none), .oth (fun v => v = .int .i64 1)] W1) (Keep [.oth (fun v => v = .pointer none), .oth (fun v => v = .int .i64 1)] W1) (fun k => ((u0 0 :: u0 1 :: []) : List Value).getD k undef) ?_ (by rfl) Keep.start (holds_soft (by kernel_rfl)) ?_ ?_
  · intro u i v h
    rcases i with _ | _ | i
    all_goals first | (simp [Act.put, putV]; done) | (exfalso; simp at h; omega)
  · intro hs
    refine ⟨?_, ?_, trivial⟩
    · exact step_pureO hs (wants_none rfl) rfl fun L u W hG hdep => ⟨_, run_assign rfl, rfl⟩
    · exact step_pureO hs (wants_none rfl) rfl fun L u W hG hdep => ⟨_, run_assign rfl, rfl⟩
  intro L2 u2 W2 hall hJ hG
  have hb := hJ.all rfl
  have hbel := Below.call hbel hb
  have HC2 := Lib.hid (show u2 0 = .pointer none from hG 0 (by simp))
  have HC3 := Lib.hid (show u2 1 = .int .i64 1 from hG 1 (by simp))
  have hbel0 := hbel
  clear hJ hG hall hb
  go_wp2
  go_ret2
  exact ⟨by rw [HC2.out, HC3.out]; rfl, hbel⟩
set_option maxRecDepth 100000 in
set_option maxHeartbeats 1000000 in
theorem gSPublic {w : World} {v : Value} {s : F} {p q : List UInt8} (h : (StP [fNum rS [s], fB p, fB q]).P v w) (hq : q.length ≤ 1000000) :
    Calls Try.prog 18 #[v] w fun e w' => ∃ r, e = .returned r ∧ (IsB q).P r w' ∧ Below w.heap.size w w' := by
  have HQ := Lib.hid hq
  clear hq
  go_enter Try.func18, Try.ntmps18
  have hbel : Below w.heap.size w w := Below.refl _ _
  have hbel0 := hbel
  go_upto_region 0 with fail
  refine wp_region_turn (fun u => #[v, undef, u 0, undef, undef, undef, undef, undef, undef, undef]) (Holds [.wld (IsB []) none] w) (Keep [.wld (IsB []) none] w) (fun _ => undef) ?_ (by rfl) Keep.start (holds_soft (by kernel_rfl)) ?_ ?_
  · intro u i v h
    rcases i with _ | i
    all_goals first | (simp [Act.put, putV]; done) | (exfalso; simp at h; omega)
  · intro hs
    refine ⟨?_, trivial⟩
    · exact step_runP hs (wants_none rfl) rfl fun L u W hJ hG hL hdep => run_moveP (.inr rfl) (IsB.nil W)
  intro L0 u0 W0 hall hJ hG
  have hb := hJ.all rfl
  have hbel := Below.call hbel hb
  have hw2 := holds_wld (φ := IsB []) (hG 0 (by simp)) rfl till_none
  have hbel0 := hbel
  clear hJ hG hall hb
  go_upto_region 1 with fail
  refine wp_region_turn (fun u => #[v, undef, u0 0, u 0, u 1, undef, undef, undef, undef, undef]) (Holds [.wld (StP [fNum rS [s], fB p, fB q]) none, .oth (fun v => v = .bool false)] W0) (Keep [.wld (StP [fNum rS [s], fB p, fB q]) none, .oth (fun v => v = .bool false)] W0) (fun _ => undef) ?_ (by rfl) Keep.start (holds_soft (by kernel_rfl)) ?_ ?_
  · intro u i v h
    rcases i with _ | _ | i
    all_goals first | (simp [Act.put, putV]; done) | (exfalso; simp at h; omega)
  · intro hs
    refine ⟨?_, ?_, trivial⟩
    · exact step_runP hs (wants_none rfl) rfl fun L u W hJ hG hL hdep => run_moveP (.inl rfl) ((StP [fNum rS [s], fB p, fB q]).st _ _ _ h (Below.call hbel (hJ.all rfl)))
    · exact step_runO hs (wants_none rfl) rfl fun L u W hJ hG hL hdep => run_eqlNil Try.underlying39 rfl rfl (holds_wld (φ := StP [fNum rS [s], fB p, fB q]) (hG 0 (hdep 0 (by kernel_rfl))) rfl till_none)
  intro L1 u1 W1 hall hJ hG
  have hb := hJ.all rfl
  have hbel := Below.call hbel hb
  have hw2 := (IsB []).st _ _ _ hw2 hb
  have HC4 := Lib.hid (show u1 1 = .bool false from hG 1 (by simp))
  have hbel0 := hbel
  clear hJ hG hall hb
  have hx : u1 1 = .bool false := HC4.out
  go_wp2_with fail
  rw [hx]
  clear hx
  go_upto_region 3 with fail
  refine wp_region_turn (fun u => #[v, undef, u 5, u1 0, .bool false, u 0, u 1, u 2, u 3, u 4]) (Holds [.wld (StP [fNum rS [s], fB p, fB q]) none, .wld (StP [fNum rS [s], fB p, fB q]) none, .wld (StA [fNum rS [s], fB p, fB q] 5) none, .wld (IsB q) none, .wld (IsB q) none, .wld (IsB q) none] W1) (Keep [.wld (StP [fNum rS [s], fB p, fB q]) none, .wld (StP [fNum rS [s], fB p, fB q]) none, .wld (StA [fNum rS [s], fB p, fB q] 5) none, .wld (IsB q) none, .wld (IsB q) none, .wld (IsB q) none] W1) (fun k => ((undef :: undef :: undef :: undef :: undef :: u0 0 :: []) : List Value).getD k undef) ?_ (by rfl) Keep.start (holds_soft (by kernel_rfl)) ?_ ?_
  · intro u i v h
    rcases i with _ | _ | _ | _ | _ | _ | i
    all_goals first | (simp [Act.put, putV]; done) | (exfalso; simp at h; omega)
  · intro hs
    refine ⟨?_, ?_, ?_, ?_, ?_, ?_, trivial⟩
    · exact step_runP hs (wants_none rfl) rfl fun L u W hJ hG hL hdep => run_moveP (.inl rfl) ((StP [fNum rS [s], fB p, fB q]).st _ _ _ h (Below.call hbel (hJ.all rfl)))
    · exact step_runP hs (wants_none rfl) rfl fun L u W hJ hG hL hdep => run_nilchk rfl (holds_wld (φ := StP [fNum rS [s], fB p, fB q]) (hG 0 (hdep 0 (by kernel_rfl))) rfl till_none)
    · exact step_runP hs (wants_none rfl) rfl fun L u W hJ hG hL hdep => run_fieldSt rfl (holds_wld (φ := StP [fNum rS [s], fB p, fB q]) (hG 1 (hdep 1 (by kernel_rfl))) rfl till_none) field_Signer2
    · exact step_runP hs (wants_none rfl) rfl fun L u W hJ hG hL hdep => run_loadWp 2 rfl (holds_wld (φ := StA [fNum rS [s], fB p, fB q] 5) (hG 2 (hdep 2 (by kernel_rfl))) rfl till_none) rfl rfl load_bytes
    · refine step_callP hs (wants_none rfl) rfl fun L u W hJ hG hL hdep K hK => ?_
      go_simp
      go_at_call 39
      (with_reducible refine (gClone (holds_wld (φ := IsB q) (hG 3 (hdep 3 (by kernel_rfl))) rfl till_none) (HQ.out)).mono ?_); rintro e w1 ⟨r, rfl, hr, hb⟩
      have hk := hK.out _ _ hr hb
      exact hk
    · exact step_runP hs (wants_none rfl) rfl fun L u W hJ hG hL hdep => run_moveP (.inr rfl) (holds_wld (φ := IsB q) (hG 4 (hdep 4 (by kernel_rfl))) rfl till_none)
  intro L3 u3 W3 hall hJ hG
  have hb := hJ.all rfl
  have hbel := Below.call hbel hb
  have hw2 := (IsB []).st _ _ _ hw2 hb
  have hw2 := holds_wld (φ := IsB q) (hG 5 (by simp)) rfl till_none
  have hbel0 := hbel
  clear hJ hG hall hb
  go_wp2
  go_ret
  exact ⟨_, rfl, hw2, hbel⟩
set_option maxRecDepth 100000 in
set_option maxHeartbeats 1000000 in
theorem gSSign {w : World} {v0 v1 : Value} {s : F} {p q l : List UInt8} {ls : List (List UInt8)} (h0 : (StP [fNum rS [s], fB p, fB q]).P v0 w) (h1 : (IsR ls).P v1 w) (hl : ls.flatten = l) (hs : l.length ≤ 100000) (hp : p.length = 32) (hq : q.length = 32) :
    Calls Try.prog 17 #[v0, v1] w fun e w' => ∃ r, e = .returned r ∧ (IsB (edSign s p q l)).P r w' ∧ Below w.heap.size w w' := by
  have HL := Lib.hid hl; have HS := Lib.hid hs; have HP := Lib.hid hp; have HQ := Lib.hid hq
  clear hl hs hp hq
  go_enter Try.func17, Try.ntmps17
  have hbel : Below w.heap.size w w := Below.refl _ _
  have hbel0 := hbel
  go_upto_region 0 with fail
  refine wp_region_turn (fun u => #[v0, v1, undef, undef, u 0, undef, undef, undef, undef, undef, undef, undef, undef, undef, undef, undef, undef, undef, undef, undef, undef, undef, undef, undef, undef, undef, undef, undef, undef, undef, undef, undef, undef, undef, undef, undef, undef, undef, undef, undef, undef, undef, undef, undef, undef, undef, undef, undef, undef, undef]) (Holds [.wld (IsB []) none] w) (Keep [.wld (IsB []) none] w) (fun _ => undef) ?_ (by rfl) Keep.start (holds_soft (by kernel_rfl)) ?_ ?_
  · intro u i v h
    rcases i with _ | i
    all_goals first | (simp [Act.put, putV]; done) | (exfalso; simp at h; omega)
  · intro hs
    refine ⟨?_, trivial⟩
    · exact step_runP hs (wants_none rfl) rfl fun L u W hJ hG hL hdep => run_moveP (.inr rfl) (IsB.nil W)
  intro L0 u0 W0 hall hJ hG
  have hb := hJ.all rfl
  have hbel := Below.call hbel hb
  have hw4 := holds_wld (φ := IsB []) (hG 0 (by simp)) rfl till_none
  have hbel0 := hbel
  clear hJ hG hall hb
  go_upto_region 1 with fail
  refine wp_region_turn (fun u => #[v0, v1, undef, undef, u0 0, undef, undef, undef, u 0, u 1, u 2, u 3, u 4, u 5, u 6, u 7, u 8, u 9, undef, undef, undef, undef, undef, undef, undef, undef, undef, undef, undef, undef, undef, undef, undef, undef, undef, undef, undef, undef, undef, undef, undef, undef, undef, undef, undef, undef, undef, undef, undef, undef]) (Holds [.wld (StP [fNum rS [s], fB p, fB q]) none, .oth (fun v => v = .bool false), .oth (fun v => v = .bool false), .wld (StP [fNum rS [s], fB p, fB q]) none, .wld (StP [fNum rS [s], fB p, fB q]) none, .wld (StA [fNum rS [s], fB p, fB q] 5) none, .wld (IsB q) none, .oth (fun v => v = .int .i64 32), .oth (fun v => v = .bool false), .oth (fun v => v = .bool false)] W0) (Keep [.wld (StP [fNum rS [s], fB p, fB q]) none, .oth (fun v => v = .bool false), .oth (fun v => v = .bool false), .wld (StP [fNum rS [s], fB p, fB q]) none, .wld (StP [fNum rS [s], fB p, fB q]) none, .wld (StA [fNum rS [s], fB p, fB q] 5) none, .wld (IsB q) none, .oth (fun v => v = .int .i64 32), .oth (fun v => v = .bool false), .oth (fun v => v = .bool false)] W0) (fun _ => undef) ?_ (by rfl) Keep.start (holds_soft (by kernel_rfl)) ?_ ?_
  · intro u i v h
    rcases i with _ | _ | _ | _ | _ | _ | _ | _ | _ | _ | i
    all_goals first | (simp [Act.put, putV]; done) | (exfalso; simp at h; omega)
  · intro hs
    refine ⟨?_, ?_, ?_, ?_, ?_, ?_, ?_, ?_, ?_, ?_, trivial⟩
    · exact step_runP hs (wants_none rfl) rfl fun L u W hJ hG hL hdep => run_moveP (.inl rfl) ((StP [fNum rS [s], fB p, fB q]).st _ _ _ h0 (Below.call hbel (hJ.all rfl)))
    · exact step_runO hs (wants_none rfl) rfl fun L u W hJ hG hL hdep => run_eqlNil Try.underlying39 rfl rfl (holds_wld (φ := StP [fNum rS [s], fB p, fB q]) (hG 0 (hdep 0 (by kernel_rfl))) rfl till_none)
    · exact step_pureO hs (wants_none rfl) rfl fun L u W hG hdep => ⟨_, run_move rfl, (show u 1 = .bool false from hG 1 (hdep 1 (by kernel_rfl)))⟩
    · exact step_runP hs (wants_on 2 rfl rfl (by kernel_rfl) (fun _ => rfl)) rfl fun L u W hJ hG hL hdep => run_moveP (.inl rfl) ((StP [fNum rS [s], fB p, fB q]).st _ _ _ h0 (Below.call hbel (hJ.all rfl)))
    · exact step_runP hs (wants_on 2 rfl rfl (by kernel_rfl) (fun _ => rfl)) rfl fun L u W hJ hG hL hdep => run_nilchk rfl (holds_wld (φ := StP [fNum rS [s], fB p, fB q]) (hG 3 (hdep 3 (by kernel_rfl))) rfl till_none)
    · exact step_runP hs (wants_on 2 rfl rfl (by kernel_rfl) (fun _ => rfl)) rfl fun L u W hJ hG hL hdep => run_fieldSt rfl (holds_wld (φ := StP [fNum rS [s], fB p, fB q]) (hG 4 (hdep 4 (by kernel_rfl))) rfl till_none) field_Signer2
    · exact step_runP hs (wants_on 2 rfl rfl (by kernel_rfl) (fun _ => rfl)) rfl fun L u W hJ hG hL hdep => run_loadWp 2 rfl (holds_wld (φ := StA [fNum rS [s], fB p, fB q] 5) (hG 5 (hdep 5 (by kernel_rfl))) rfl till_none) rfl rfl load_bytes
    · exact step_runO hs (wants_on 2 rfl rfl (by kernel_rfl) (fun _ => rfl)) rfl fun L u W hJ hG hL hdep => run_lenP rfl (holds_wld (φ := IsB q) (hG 6 (hdep 6 (by kernel_rfl))) rfl till_none) (by rw [HQ.out]; rfl)
    · refine step_pureO hs (wants_on 2 rfl rfl (by kernel_rfl) (fun _ => rfl)) rfl fun L u W hG hdep => ⟨_, ?_, rfl⟩
      have e0 := (show u 7 = .int .i64 32 from hG 7 (hdep 7 (by kernel_rfl)))
      go_simp
      try simp [bne]
    · exact step_pick false hs (wants_none rfl) rfl rfl (fun L u W hG hdep => (show u 2 = .bool false from hG 2 (hdep 2 (by kernel_rfl)))) (fun L u W hG hdep => (show u 8 = .bool false from hG 8 (hdep 8 (by kernel_rfl))))
  intro L1 u1 W1 hall hJ hG
  have hb := hJ.all rfl
  have hbel := Below.call hbel hb
  have hw4 := (IsB []).st _ _ _ hw4 hb
  have HC9 := Lib.hid (show u1 1 = .bool false from hG 1 (by simp))
  have HC10 := Lib.hid (show u1 2 = .bool false from hG 2 (by simp))
  have HC16 := Lib.hid (show u1 8 = .bool false from hG 8 (by simp))
  have HC17 := Lib.hid (show u1 9 = .bool false from hG 9 (by simp))
  have hbel0 := hbel
  clear hJ hG hall hb
  have hx : u1 9 = .bool false := HC17.out
  go_wp2_with fail
  rw [hx]
  clear hx
  go_upto_region 3 with fail
  refine wp_region_turn (fun u => #[v0, v1, undef, undef, u0 0, u 2, undef, undef, u1 0, u1 1, u1 2, u1 3, u1 4, u1 5, u1 6, u1 7, u1 8, .bool false, u 0, u 1, undef, undef, undef, undef, undef, undef, undef, undef, undef, undef, undef, undef, undef, undef, undef, undef, undef, undef, undef, undef, undef, undef, undef, undef, undef, undef, undef, undef, undef, undef]) (Holds [.wld (IsR ls) none, .wld (IsB l) none, .wld (IsB l) none] W1) (Keep [.wld (IsR ls) none, .wld (IsB l) none, .wld (IsB l) none] W1) (fun _ => undef) ?_ (by rfl) Keep.start (holds_soft (by kernel_rfl)) ?_ ?_
  · intro u i v h
    rcases i with _ | _ | _ | i
    all_goals first | (simp [Act.put, putV]; done) | (exfalso; simp at h; omega)
  · intro hs
    refine ⟨?_, ?_, ?_, trivial⟩
    · exact step_runP hs (wants_none rfl) rfl fun L u W hJ hG hL hdep => run_moveP (.inl rfl) ((IsR ls).st _ _ _ h1 (Below.call hbel (hJ.all rfl)))
    · refine step_callP hs (wants_none rfl) rfl fun L u W hJ hG hL hdep K hK => ?_
      go_simp
      go_at_call 25
      (with_reducible refine (gCat (l := l) (holds_wld (φ := IsR ls) (hG 0 (hdep 0 (by kernel_rfl))) rfl till_none) (HL.out) (by have := HS.out; omega)).mono ?_); rintro e w1 ⟨r, rfl, hr, hb⟩
      have hk := hK.out _ _ hr hb
      exact hk
    · exact step_runP hs (wants_none rfl) rfl fun L u W hJ hG hL hdep => run_moveP (.inr rfl) (holds_wld (φ := IsB l) (hG 1 (hdep 1 (by kernel_rfl))) rfl till_none)
  intro L3 u3 W3 hall hJ hG
  have hb := hJ.all rfl
  have hbel := Below.call hbel hb
  have hw4 := (IsB []).st _ _ _ hw4 hb
  have hw5 := holds_wld (φ := IsB l) (hG 2 (by simp)) rfl till_none
  have hbel0 := hbel
  clear hJ hG hall hb
  go_upto_region 4 with fail
  refine wp_region_turn (fun u => #[v0, v1, undef, undef, u0 0, u3 2, u 7, undef, u1 0, u1 1, u1 2, u1 3, u1 4, u1 5, u1 6, u1 7, u1 8, .bool false, u3 0, u3 1, u 0, u 1, u 2, u 3, u 4, u 5, u 6, undef, undef, undef, undef, undef, undef, undef, undef, undef, undef, undef, undef, undef, undef, undef, undef, undef, undef, undef, undef, undef, undef, undef]) (Holds [.wld (StP [fNum rS [s], fB p, fB q]) (some 1), .wld (StP [fNum rS [s], fB p, fB q]) (some 2), .wld (StA [fNum rS [s], fB p, fB q] 4) (some 3), .wld (IsB p) (some 5), .wld (IsB l) (some 5), .wld (IsR [p, l]) (some 6), .val rS [wS (sha512 (p ++ l))], .new 4, .st 7 rS [wS (sha512 (p ++ l))]] W3) (Keep [.wld (StP [fNum rS [s], fB p, fB q]) (some 1), .wld (StP [fNum rS [s], fB p, fB q]) (some 2), .wld (StA [fNum rS [s], fB p, fB q] 4) (some 3), .wld (IsB p) (some 5), .wld (IsB l) (some 5), .wld (IsR [p, l]) (some 6), .val rS [wS (sha512 (p ++ l))], .new 4, .st 7 rS [wS (sha512 (p ++ l))]] W3) (fun _ => undef) ?_ (by rfl) Keep.start (holds_soft (by kernel_rfl)) ?_ ?_
  · intro u i v h
    rcases i with _ | _ | _ | _ | _ | _ | _ | _ | _ | i
    all_goals first | (simp [Act.put, putV]; done) | (exfalso; simp at h; omega)
  · intro hs
    refine ⟨?_, ?_, ?_, ?_, ?_, ?_, ?_, ?_, ?_, trivial⟩
    · exact step_runP hs (wants_none rfl) rfl fun L u W hJ hG hL hdep => run_moveP (.inl rfl) ((StP [fNum rS [s], fB p, fB q]).st _ _ _ h0 (Below.call hbel (hJ.all rfl)))
    · exact step_runP hs (wants_none rfl) rfl fun L u W hJ hG hL hdep => run_nilchk rfl (holds_wld (φ := StP [fNum rS [s], fB p, fB q]) (hG 0 (hdep 0 (by kernel_rfl))) rfl (till_some hL))
    · exact step_runP hs (wants_none rfl) rfl fun L u W hJ hG hL hdep => run_fieldSt rfl (holds_wld (φ := StP [fNum rS [s], fB p, fB q]) (hG 1 (hdep 1 (by kernel_rfl))) rfl (till_some hL)) field_Signer1
    · exact step_runP hs (wants_none rfl) rfl fun L u W hJ hG hL hdep => run_loadWp 1 rfl (holds_wld (φ := StA [fNum rS [s], fB p, fB q] 4) (hG 2 (hdep 2 (by kernel_rfl))) rfl (till_some hL)) rfl rfl load_bytes
    · exact step_runP hs (wants_none rfl) rfl fun L u W hJ hG hL hdep => run_moveP (.inl rfl) ((IsB l).st _ _ _ hw5 (hJ.all rfl))
    · exact step_runP hs (wants_none rfl) rfl fun L u W hJ hG hL hdep => run_rows2 rfl (holds_wld (φ := IsB p) (hG 3 (hdep 3 (by kernel_rfl))) rfl (till_some hL)) (holds_wld (φ := IsB l) (hG 4 (hdep 4 (by kernel_rfl))) rfl (till_some hL))
    · refine step_call hs (wants_none rfl) rfl fun L u W hJ hG hL hdep K hK => ?_
      go_simp
      go_at_call 24
      (with_reducible refine (gHash (l := (p ++ l)) (holds_wld (φ := IsR [p, l]) (hG 5 (hdep 5 (by kernel_rfl))) rfl (till_some hL)) (by simp) (by have := HS.out; (repeat rw [List.length_append]); (try rw [encP_len]); (try rw [leB_len]); (try rw [HP.out]); (try rw [HQ.out]); omega)).mono ?_); rintro e w1 ⟨r, rfl, hr, hb⟩
      have hk := hK.out _ _ hr hb
      exact hk
    · exact step_alloc hs (wants_none rfl) rfl rfl (by omega) rfl allocS
    · exact step_store 7 hs (by kernel_rfl) (wants_none rfl) rfl rfl rfl (by kernel_rfl) (by kernel_rfl) (by kernel_rfl) (by kernel_rfl) (fun _ => rfl) (gives_op 6 rfl (by kernel_rfl) (fun _ => rfl)) tyS rfl
  intro L4 u4 W4 hall hJ hG
  obtain ⟨q6, e6, hq6, _, ht6⟩ := (show ∃ g, u4 7 = .pointer (some ⟨g, 0, none⟩) ∧ W3.heap.size ≤ g ∧ 0 < 4 ∧ W4.there g 0 4 from hG 7 (by simp))
  have hm6 : HasFs rS W4 q6 0 [wS (sha512 (p ++ l))] := by
    obtain ⟨g, e, _, h⟩ := (show ∃ g, u4 7 = .pointer (some ⟨g, 0, none⟩) ∧ W3.heap.size ≤ g ∧ HasFs rS W4 g 0 [wS (sha512 (p ++ l))] from hG 8 (by simp))
    rw [e6] at e; cases e; exact h
  have hq6 : w.heap.size ≤ q6 := by have := hbel0.size; omega
  have E6 := Lib.hid e6; clear e6
  have hb := hJ.all rfl
  have hbel := Below.call hbel hb
  have hw4 := (IsB []).st _ _ _ hw4 hb
  have hw5 := (IsB l).st _ _ _ hw5 hb
  have hbel0 := hbel
  clear hJ hG hall hb
  go_upto_region 5 with fail
  refine wp_region_mid (fun u => #[v0, v1, undef, undef, u0 0, u3 2, u4 7, u 4, u1 0, u1 1, u1 2, u1 3, u1 4, u1 5, u1 6, u1 7, u1 8, .bool false, u3 0, u3 1, u4 0, u4 1, u4 2, u4 3, u4 4, u4 5, u4 6, u 0, u 1, u 2, u 3, undef, undef, undef, undef, undef, undef, undef, undef, undef, undef, undef, undef, undef, undef, undef, undef, undef, undef, undef]) (Holds [.val rP [base], .val rS [wS (sha512 (p ++ l))], .val rP [Cp.mul (wS (sha512 (p ++ l))).val base], .wld (IsB (encP (Cp.mul (wS (sha512 (p ++ l))).val base))) none, .wld (IsB (encP (Cp.mul (wS (sha512 (p ++ l))).val base))) none] W4) (Keep [.val rP [base], .val rS [wS (sha512 (p ++ l))], .val rP [Cp.mul (wS (sha512 (p ++ l))).val base], .wld (IsB (encP (Cp.mul (wS (sha512 (p ++ l))).val base))) none, .wld (IsB (encP (Cp.mul (wS (sha512 (p ++ l))).val base))) none] W4) (fun _ => undef) (by kernel_rfl) (by kernel_rfl) ?_ (by rfl) Keep.drew (holds_soft (by kernel_rfl)) ?_ ?_
  · intro u i v h
    rcases i with _ | _ | _ | _ | _ | i
    all_goals first | (simp [Act.put, putV]; done) | (exfalso; simp at h; omega)
  · intro hs
    refine ⟨?_, ?_, ?_, ?_, ?_, trivial⟩
    · refine step_call hs (wants_none rfl) rfl fun L u W hJ hG hL hdep K hK => ?_
      go_simp
      go_at_call 26
      (with_reducible refine (cBase _).mono ?_); rintro e w1 ⟨r, rfl, hr, hb⟩
      have hk := hK.out _ _ hr hb
      exact hk
    · exact step_load q6 0 hs (wants_none rfl) rfl rfl tyS (fun _ => E6.out) hm6.lt hm6 (noSto_apart (by kernel_rfl))
    · refine step_call hs (wants_none rfl) rfl fun L u W hJ hG hL hdep K hK => ?_
      have a0 := (show IsFs rP (u 0) [base] from hG 0 (hdep 0 (by kernel_rfl)))
      have a1 := (show IsFs rS (u 1) [wS (sha512 (p ++ l))] from hG 1 (hdep 1 (by kernel_rfl)))
      go_simp
      go_at_call 27
      (with_reducible refine (cMult rfl a0 a1 _).mono ?_); rintro e w1 ⟨r, rfl, hr, hb⟩
      have hk := hK.out _ _ hr hb
      exact hk
    · refine step_callP hs (wants_none rfl) rfl fun L u W hJ hG hL hdep K hK => ?_
      have a0 := (show IsFs rP (u 2) [Cp.mul (wS (sha512 (p ++ l))).val base] from hG 2 (hdep 2 (by kernel_rfl)))
      go_simp
      go_at_call 35
      (with_reducible refine (gEncode a0 _).mono ?_); rintro e w1 ⟨r, rfl, hr, hb⟩
      have hk := hK.out _ _ hr hb
      exact hk
    · exact step_runP hs (wants_none rfl) rfl fun L u W hJ hG hL hdep => run_moveP (.inr rfl) (holds_wld (φ := IsB (encP (Cp.mul (wS (sha512 (p ++ l))).val base))) (hG 3 (hdep 3 (by kernel_rfl))) rfl till_none)
  intro L5 u5 W5 hall hJ hG
  have hb := hJ.all rfl
  have hbel := Below.call hbel hb
  have hm6 := hm6.later hb
  have ht6 := there_later ht6 hb
  have hw4 := (IsB []).st _ _ _ hw4 hb
  have hw5 := (IsB l).st _ _ _ hw5 hb
  have hw7 := holds_wld (φ := IsB (encP (Cp.mul (wS (sha512 (p ++ l))).val base))) (hG 4 (by simp)) rfl till_none
  have hbel0 := hbel
  clear hJ hG hall hb
  go_upto_region 6 with fail
  refine wp_region_mid (fun u => #[v0, v1, undef, undef, u 19, u3 2, u4 7, u5 4, u1 0, u1 1, u1 2, u1 3, u1 4, u1 5, u1 6, u1 7, u1 8, .bool false, u3 0, u3 1, u4 0, u4 1, u4 2, u4 3, u4 4, u4 5, u4 6, u5 0, u5 1, u5 2, u5 3, u 0, u 1, u 2, u 3, u 4, u 5, u 6, u 7, u 8, u 9, u 10, u 11, u 12, u 13, u 14, u 15, u 16, u 17, u 18]) (Holds [.wld (IsB (encP (Cp.mul (wS (sha512 (p ++ l))).val base))) none, .val rS [wS (sha512 (p ++ l))], .wld (IsB (encP (Cp.mul (wS (sha512 (p ++ l))).val base))) none, .wld (StP [fNum rS [s], fB p, fB q]) none, .wld (StP [fNum rS [s], fB p, fB q]) none, .wld (StA [fNum rS [s], fB p, fB q] 5) none, .wld (IsB q) none, .wld (IsB l) none, .wld (IsR [encP (Cp.mul (wS (sha512 (p ++ l))).val base), q, l]) none, .val rS [wS (sha512 ((encP (Cp.mul (wS (sha512 (p ++ l))).val base)) ++ (q ++ l)))], .wld (StP [fNum rS [s], fB p, fB q]) none, .wld (StP [fNum rS [s], fB p, fB q]) none, .wld (StA [fNum rS [s], fB p, fB q] 0) none, .val rS [s], .val rS [dM (wS (sha512 ((encP (Cp.mul (wS (sha512 (p ++ l))).val base)) ++ (q ++ l)))) s], .val rS [dA (wS (sha512 (p ++ l))) (dM (wS (sha512 ((encP (Cp.mul (wS (sha512 (p ++ l))).val base)) ++ (q ++ l)))) s)], .wld (IsB (leB 32 (dA (wS (sha512 (p ++ l))) (dM (wS (sha512 ((encP (Cp.mul (wS (sha512 (p ++ l))).val base)) ++ (q ++ l)))) s)).val)) none, .wld (IsR [encP (Cp.mul (wS (sha512 (p ++ l))).val base), leB 32 (dA (wS (sha512 (p ++ l))) (dM (wS (sha512 ((encP (Cp.mul (wS (sha512 (p ++ l))).val base)) ++ (q ++ l)))) s)).val]) none, .wld (IsB ((encP (Cp.mul (wS (sha512 (p ++ l))).val base)) ++ (leB 32 (dA (wS (sha512 (p ++ l))) (dM (wS (sha512 ((encP (Cp.mul (wS (sha512 (p ++ l))).val base)) ++ (q ++ l)))) s)).val))) none, .wld (IsB ((encP (Cp.mul (wS (sha512 (p ++ l))).val base)) ++ (leB 32 (dA (wS (sha512 (p ++ l))) (dM (wS (sha512 ((encP (Cp.mul (wS (sha512 (p ++ l))).val base)) ++ (q ++ l)))) s)).val))) none] W5) (Keep [.wld (IsB (encP (Cp.mul (wS (sha512 (p ++ l))).val base))) none, .val rS [wS (sha512 (p ++ l))], .wld (IsB (encP (Cp.mul (wS (sha512 (p ++ l))).val base))) none, .wld (StP [fNum rS [s], fB p, fB q]) none, .wld (StP [fNum rS [s], fB p, fB q]) none, .wld (StA [fNum rS [s], fB p, fB q] 5) none, .wld (IsB q) none, .wld (IsB l) none, .wld (IsR [encP (Cp.mul (wS (sha512 (p ++ l))).val base), q, l]) none, .val rS [wS (sha512 ((encP (Cp.mul (wS (sha512 (p ++ l))).val base)) ++ (q ++ l)))], .wld (StP [fNum rS [s], fB p, fB q]) none, .wld (StP [fNum rS [s], fB p, fB q]) none, .wld (StA [fNum rS [s], fB p, fB q] 0) none, .val rS [s], .val rS [dM (wS (sha512 ((encP (Cp.mul (wS (sha512 (p ++ l))).val base)) ++ (q ++ l)))) s], .val rS [dA (wS (sha512 (p ++ l))) (dM (wS (sha512 ((encP (Cp.mul (wS (sha512 (p ++ l))).val base)) ++ (q ++ l)))) s)], .wld (IsB (leB 32 (dA (wS (sha512 (p ++ l))) (dM (wS (sha512 ((encP (Cp.mul (wS (sha512 (p ++ l))).val base)) ++ (q ++ l)))) s)).val)) none, .wld (IsR [encP (Cp.mul (wS (sha512 (p ++ l))).val base), leB 32 (dA (wS (sha512 (p ++ l))) (dM (wS (sha512 ((encP (Cp.mul (wS (sha512 (p ++ l))).val base)) ++ (q ++ l)))) s)).val]) none, .wld (IsB ((encP (Cp.mul (wS (sha512 (p ++ l))).val base)) ++ (leB 32 (dA (wS (sha512 (p ++ l))) (dM (wS (sha512 ((encP (Cp.mul (wS (sha512 (p ++ l))).val base)) ++ (q ++ l)))) s)).val))) none, .wld (IsB ((encP (Cp.mul (wS (sha512 (p ++ l))).val base)) ++ (leB 32 (dA (wS (sha512 (p ++ l))) (dM (wS (sha512 ((encP (Cp.mul (wS (sha512 (p ++ l))).val base)) ++ (q ++ l)))) s)).val))) none] W5) (fun k => ((undef :: undef :: undef :: undef :: undef :: undef :: undef :: undef :: undef :: undef :: undef :: undef :: undef :: undef :: undef :: undef :: undef :: undef :: undef :: u0 0 :: []) : List Value).getD k undef) (by kernel_rfl) (by kernel_rfl) ?_ (by rfl) Keep.drew (holds_soft (by kernel_rfl)) ?_ ?_
  · intro u i v h
    rcases i with _ | _ | _ | _ | _ | _ | _ | _ | _ | _ | _ | _ | _ | _ | _ | _ | _ | _ | _ | _ | i
    all_goals first | (simp [Act.put, putV]; done) | (exfalso; simp at h; omega)
  · intro hs
    refine ⟨?_, ?_, ?_, ?_, ?_, ?_, ?_, ?_, ?_, ?_, ?_, ?_, ?_, ?_, ?_, ?_, ?_, ?_, ?_, ?_, trivial⟩
    · exact step_runP hs (wants_none rfl) rfl fun L u W hJ hG hL hdep => run_moveP (.inl rfl) ((IsB (encP (Cp.mul (wS (sha512 (p ++ l))).val base))).st _ _ _ hw7 (hJ.all rfl))
    · exact step_load q6 0 hs (wants_none rfl) rfl rfl tyS (fun _ => E6.out) hm6.lt hm6 (noSto_apart (by kernel_rfl))
    · exact step_runP hs (wants_none rfl) rfl fun L u W hJ hG hL hdep => run_moveP (.inl rfl) ((IsB (encP (Cp.mul (wS (sha512 (p ++ l))).val base))).st _ _ _ hw7 (hJ.all rfl))
    · exact step_runP hs (wants_none rfl) rfl fun L u W hJ hG hL hdep => run_moveP (.inl rfl) ((StP [fNum rS [s], fB p, fB q]).st _ _ _ h0 (Below.call hbel (hJ.all rfl)))
    · exact step_runP hs (wants_none rfl) rfl fun L u W hJ hG hL hdep => run_nilchk rfl (holds_wld (φ := StP [fNum rS [s], fB p, fB q]) (hG 3 (hdep 3 (by kernel_rfl))) rfl till_none)
    · exact step_runP hs (wants_none rfl) rfl fun L u W hJ hG hL hdep => run_fieldSt rfl (holds_wld (φ := StP [fNum rS [s], fB p, fB q]) (hG 4 (hdep 4 (by kernel_rfl))) rfl till_none) field_Signer2
    · exact step_runP hs (wants_none rfl) rfl fun L u W hJ hG hL hdep => run_loadWp 2 rfl (holds_wld (φ := StA [fNum rS [s], fB p, fB q] 5) (hG 5 (hdep 5 (by kernel_rfl))) rfl till_none) rfl rfl load_bytes
    · exact step_runP hs (wants_none rfl) rfl fun L u W hJ hG hL hdep => run_moveP (.inl rfl) ((IsB l).st _ _ _ hw5 (hJ.all rfl))
    · exact step_runP hs (wants_none rfl) rfl fun L u W hJ hG hL hdep => run_rows3 rfl (holds_wld (φ := IsB (encP (Cp.mul (wS (sha512 (p ++ l))).val base))) (hG 2 (hdep 2 (by kernel_rfl))) rfl till_none) (holds_wld (φ := IsB q) (hG 6 (hdep 6 (by kernel_rfl))) rfl till_none) (holds_wld (φ := IsB l) (hG 7 (hdep 7 (by kernel_rfl))) rfl till_none)
    · refine step_call hs (wants_none rfl) rfl fun L u W hJ hG hL hdep K hK => ?_
      go_simp
      go_at_call 24
      (with_reducible refine (gHash (l := ((encP (Cp.mul (wS (sha512 (p ++ l))).val base)) ++ (q ++ l))) (holds_wld (φ := IsR [encP (Cp.mul (wS (sha512 (p ++ l))).val base), q, l]) (hG 8 (hdep 8 (by kernel_rfl))) rfl till_none) (by simp) (by have := HS.out; (repeat rw [List.length_append]); (try rw [encP_len]); (try rw [leB_len]); (try rw [HP.out]); (try rw [HQ.out]); omega)).mono ?_); rintro e w1 ⟨r, rfl, hr, hb⟩
      have hk := hK.out _ _ hr hb
      exact hk
    · exact step_runP hs (wants_none rfl) rfl fun L u W hJ hG hL hdep => run_moveP (.inl rfl) ((StP [fNum rS [s], fB p, fB q]).st _ _ _ h0 (Below.call hbel (hJ.all rfl)))
    · exact step_runP hs (wants_none rfl) rfl fun L u W hJ hG hL hdep => run_nilchk rfl (holds_wld (φ := StP [fNum rS [s], fB p, fB q]) (hG 10 (hdep 10 (by kernel_rfl))) rfl till_none)
    · exact step_runP hs (wants_none rfl) rfl fun L u W hJ hG hL hdep => run_fieldSt rfl (holds_wld (φ := StP [fNum rS [s], fB p, fB q]) (hG 11 (hdep 11 (by kernel_rfl))) rfl till_none) field_Signer0
    · exact step_pure hs (wants_none rfl) rfl fun L u W hG hdep => run_loadNum 0 rfl (holds_wld (φ := StA [fNum rS [s], fB p, fB q] 0) (hG 12 (hdep 12 (by kernel_rfl))) rfl till_none) rfl rfl tyS
    · refine step_call hs (wants_none rfl) rfl fun L u W hJ hG hL hdep K hK => ?_
      have a0 := (show IsFs rS (u 9) [wS (sha512 ((encP (Cp.mul (wS (sha512 (p ++ l))).val base)) ++ (q ++ l)))] from hG 9 (hdep 9 (by kernel_rfl)))
      have a1 := (show IsFs rS (u 13) [s] from hG 13 (hdep 13 (by kernel_rfl)))
      go_simp
      go_at_call 37
      (with_reducible refine (cScMul a0 a1 _).mono ?_); rintro e w1 ⟨r, rfl, hr, hb⟩
      have hk := hK.out _ _ hr hb
      exact hk
    · refine step_call hs (wants_none rfl) rfl fun L u W hJ hG hL hdep K hK => ?_
      have a0 := (show IsFs rS (u 1) [wS (sha512 (p ++ l))] from hG 1 (hdep 1 (by kernel_rfl)))
      have a1 := (show IsFs rS (u 14) [dM (wS (sha512 ((encP (Cp.mul (wS (sha512 (p ++ l))).val base)) ++ (q ++ l)))) s] from hG 14 (hdep 14 (by kernel_rfl)))
      go_simp
      go_at_call 36
      (with_reducible refine (cScAdd a0 a1 _).mono ?_); rintro e w1 ⟨r, rfl, hr, hb⟩
      have hk := hK.out _ _ hr hb
      exact hk
    · refine step_callP hs (wants_none rfl) rfl fun L u W hJ hG hL hdep K hK => ?_
      have a0 := (show IsFs rS (u 15) [dA (wS (sha512 (p ++ l))) (dM (wS (sha512 ((encP (Cp.mul (wS (sha512 (p ++ l))).val base)) ++ (q ++ l)))) s)] from hG 15 (hdep 15 (by kernel_rfl)))
      go_simp
      go_at_call 38
      (with_reducible refine (gScBytes a0 _).mono ?_); rintro e w1 ⟨r, rfl, hr, hb⟩
      have hk := hK.out _ _ hr hb
      exact hk
    · exact step_runP hs (wants_none rfl) rfl fun L u W hJ hG hL hdep => run_rows2 rfl (holds_wld (φ := IsB (encP (Cp.mul (wS (sha512 (p ++ l))).val base))) (hG 0 (hdep 0 (by kernel_rfl))) rfl till_none) (holds_wld (φ := IsB (leB 32 (dA (wS (sha512 (p ++ l))) (dM (wS (sha512 ((encP (Cp.mul (wS (sha512 (p ++ l))).val base)) ++ (q ++ l)))) s)).val)) (hG 16 (hdep 16 (by kernel_rfl))) rfl till_none)
    · refine step_callP hs (wants_none rfl) rfl fun L u W hJ hG hL hdep K hK => ?_
      go_simp
      go_at_call 25
      (with_reducible refine (gCat (l := ((encP (Cp.mul (wS (sha512 (p ++ l))).val base)) ++ (leB 32 (dA (wS (sha512 (p ++ l))) (dM (wS (sha512 ((encP (Cp.mul (wS (sha512 (p ++ l))).val base)) ++ (q ++ l)))) s)).val))) (holds_wld (φ := IsR [encP (Cp.mul (wS (sha512 (p ++ l))).val base), leB 32 (dA (wS (sha512 (p ++ l))) (dM (wS (sha512 ((encP (Cp.mul (wS (sha512 (p ++ l))).val base)) ++ (q ++ l)))) s)).val]) (hG 17 (hdep 17 (by kernel_rfl))) rfl till_none) (by simp) (by have := HS.out; (repeat rw [List.length_append]); (try rw [encP_len]); (try rw [leB_len]); (try rw [HP.out]); (try rw [HQ.out]); omega)).mono ?_); rintro e w1 ⟨r, rfl, hr, hb⟩
      have hk := hK.out _ _ hr hb
      exact hk
    · exact step_runP hs (wants_none rfl) rfl fun L u W hJ hG hL hdep => run_moveP (.inr rfl) (holds_wld (φ := IsB ((encP (Cp.mul (wS (sha512 (p ++ l))).val base)) ++ (leB 32 (dA (wS (sha512 (p ++ l))) (dM (wS (sha512 ((encP (Cp.mul (wS (sha512 (p ++ l))).val base)) ++ (q ++ l)))) s)).val))) (hG 18 (hdep 18 (by kernel_rfl))) rfl till_none)
  intro L6 u6 W6 hall hJ hG
  have hb := hJ.all rfl
  have hbel := Below.call hbel hb
  have hm6 := hm6.later hb
  have ht6 := there_later ht6 hb
  have hw4 := (IsB []).st _ _ _ hw4 hb
  have hw5 := (IsB l).st _ _ _ hw5 hb
  have hw7 := (IsB (encP (Cp.mul (wS (sha512 (p ++ l))).val base))).st _ _ _ hw7 hb
  have hw4 := holds_wld (φ := IsB ((encP (Cp.mul (wS (sha512 (p ++ l))).val base)) ++ (leB 32 (dA (wS (sha512 (p ++ l))) (dM (wS (sha512 ((encP (Cp.mul (wS (sha512 (p ++ l))).val base)) ++ (q ++ l)))) s)).val))) (hG 19 (by simp)) rfl till_none
  have hbel0 := hbel
  clear hJ hG hall hb
  go_wp2
  go_ret
  exact ⟨_, rfl, hw4, hbel⟩
theorem gCatN {B : Nat} {v : Value} {ls : List (List UInt8)} {l : List UInt8} {w : World} (hB : B ≤ w.heap.size) (h : (IsR ls).P v w) (hl : ls.flatten = l) (hs : l.length ≤ 1000000) (h0 : 0 < l.length) :
    Calls Try.prog 25 #[v] w fun e w' => ∃ r, e = .returned r ∧ (NwB B l).P r w' ∧ Below w.heap.size w w' := by
  obtain ⟨a, n, cap, rfl, hr⟩ := h
  subst hl
  refine (cat_any w hr (by omega)).mono ?_
  rintro e w' ⟨v, rfl, ho, hb⟩
  obtain ⟨g, c, r, rfl, hg, hB2, h1, h2, h3⟩ := own_rdb ho h0
  exact ⟨_, rfl, ⟨g, _, c, r, rfl, Nat.le_trans hB hg, hB2, h1, h2, h3⟩, hb⟩
theorem edRL (p l : List UInt8) : (encP (Cp.mul (wS (sha512 (p ++ l))).val base)).length = 32 := encP_len _
set_option maxRecDepth 100000 in
set_option maxHeartbeats 1000000 in
theorem gSSignN {w : World} {v0 v1 : Value} {s : F} {p q l : List UInt8} {ls : List (List UInt8)} (h0 : (StP [fNum rS [s], fB p, fB q]).P v0 w) (h1 : (IsR ls).P v1 w) (hl : ls.flatten = l) (hs : l.length ≤ 100000) (hp : p.length = 32) (hq : q.length = 32) :
    Calls Try.prog 17 #[v0, v1] w fun e w' => ∃ r, e = .returned r ∧ (NwB w.heap.size (edSign s p q l)).P r w' ∧ Below w.heap.size w w' := by
  have HL := Lib.hid hl; have HS := Lib.hid hs; have HP := Lib.hid hp; have HQ := Lib.hid hq
  clear hl hs hp hq
  go_enter Try.func17, Try.ntmps17
  have hbel : Below w.heap.size w w := Below.refl _ _
  have hbel0 := hbel
  go_upto_region 0 with fail
  refine wp_region_turn (fun u => #[v0, v1, undef, undef, u 0, undef, undef, undef, undef, undef, undef, undef, undef, undef, undef, undef, undef, undef, undef, undef, undef, undef, undef, undef, undef, undef, undef, undef, undef, undef, undef, undef, undef, undef, undef, undef, undef, undef, undef, undef, undef, undef, undef, undef, undef, undef, undef, undef, undef, undef]) (Holds [.wld (IsB []) none] w) (Keep [.wld (IsB []) none] w) (fun _ => undef) ?_ (by rfl) Keep.start (holds_soft (by kernel_rfl)) ?_ ?_
  · intro u i v h
    rcases i with _ | i
    all_goals first | (simp [Act.put, putV]; done) | (exfalso; simp at h; omega)
  · intro hs
    refine ⟨?_, trivial⟩
    · exact step_runP hs (wants_none rfl) rfl fun L u W hJ hG hL hdep => run_moveP (.inr rfl) (IsB.nil W)
  intro L0 u0 W0 hall hJ hG
  have hb := hJ.all rfl
  have hbel := Below.call hbel hb
  have hw4 := holds_wld (φ := IsB []) (hG 0 (by simp)) rfl till_none
  have hbel0 := hbel
  clear hJ hG hall hb
  go_upto_region 1 with fail
  refine wp_region_turn (fun u => #[v0, v1, undef, undef, u0 0, undef, undef, undef, u 0, u 1, u 2, u 3, u 4, u 5, u 6, u 7, u 8, u 9, undef, undef, undef, undef, undef, undef, undef, undef, undef, undef, undef, undef, undef, undef, undef, undef, undef, undef, undef, undef, undef, undef, undef, undef, undef, undef, undef, undef, undef, undef, undef, undef]) (Holds [.wld (StP [fNum rS [s], fB p, fB q]) none, .oth (fun v => v = .bool false), .oth (fun v => v = .bool false), .wld (StP [fNum rS [s], fB p, fB q]) none, .wld (StP [fNum rS [s], fB p, fB q]) none, .wld (StA [fNum rS [s], fB p, fB q] 5) none, .wld (IsB q) none, .oth (fun v => v = .int .i64 32), .oth (fun v => v = .bool false), .oth (fun v => v = .bool false)] W0) (Keep [.wld (StP [fNum rS [s], fB p, fB q]) none, .oth (fun v => v = .bool false), .oth (fun v => v = .bool false), .wld (StP [fNum rS [s], fB p, fB q]) none, .wld (StP [fNum rS [s], fB p, fB q]) none, .wld (StA [fNum rS [s], fB p, fB q] 5) none, .wld (IsB q) none, .oth (fun v => v = .int .i64 32), .oth (fun v => v = .bool false), .oth (fun v => v = .bool false)] W0) (fun _ => undef) ?_ (by rfl) Keep.start (holds_soft (by kernel_rfl)) ?_ ?_
  · intro u i v h
    rcases i with _ | _ | _ | _ | _ | _ | _ | _ | _ | _ | i
    all_goals first | (simp [Act.put, putV]; done) | (exfalso; simp at h; omega)
  · intro hs
    refine ⟨?_, ?_, ?_, ?_, ?_, ?_, ?_, ?_, ?_, ?_, trivial⟩
    · exact step_runP hs (wants_none rfl) rfl fun L u W hJ hG hL hdep => run_moveP (.inl rfl) ((StP [fNum rS [s], fB p, fB q]).st _ _ _ h0 (Below.call hbel (hJ.all rfl)))
    · exact step_runO hs (wants_none rfl) rfl fun L u W hJ hG hL hdep => run_eqlNil Try.underlying39 rfl rfl (holds_wld (φ := StP [fNum rS [s], fB p, fB q]) (hG 0 (hdep 0 (by kernel_rfl))) rfl till_none)
    · exact step_pureO hs (wants_none rfl) rfl fun L u W hG hdep => ⟨_, run_move rfl, (show u 1 = .bool false from hG 1 (hdep 1 (by kernel_rfl)))⟩
    · exact step_runP hs (wants_on 2 rfl rfl (by kernel_rfl) (fun _ => rfl)) rfl fun L u W hJ hG hL hdep => run_moveP (.inl rfl) ((StP [fNum rS [s], fB p, fB q]).st _ _ _ h0 (Below.call hbel (hJ.all rfl)))
    · exact step_runP hs (wants_on 2 rfl rfl (by kernel_rfl) (fun _ => rfl)) rfl fun L u W hJ hG hL hdep => run_nilchk rfl (holds_wld (φ := StP [fNum rS [s], fB p, fB q]) (hG 3 (hdep 3 (by kernel_rfl))) rfl till_none)
    · exact step_runP hs (wants_on 2 rfl rfl (by kernel_rfl) (fun _ => rfl)) rfl fun L u W hJ hG hL hdep => run_fieldSt rfl (holds_wld (φ := StP [fNum rS [s], fB p, fB q]) (hG 4 (hdep 4 (by kernel_rfl))) rfl till_none) field_Signer2
    · exact step_runP hs (wants_on 2 rfl rfl (by kernel_rfl) (fun _ => rfl)) rfl fun L u W hJ hG hL hdep => run_loadWp 2 rfl (holds_wld (φ := StA [fNum rS [s], fB p, fB q] 5) (hG 5 (hdep 5 (by kernel_rfl))) rfl till_none) rfl rfl load_bytes
    · exact step_runO hs (wants_on 2 rfl rfl (by kernel_rfl) (fun _ => rfl)) rfl fun L u W hJ hG hL hdep => run_lenP rfl (holds_wld (φ := IsB q) (hG 6 (hdep 6 (by kernel_rfl))) rfl till_none) (by rw [HQ.out]; rfl)
    · refine step_pureO hs (wants_on 2 rfl rfl (by kernel_rfl) (fun _ => rfl)) rfl fun L u W hG hdep => ⟨_, ?_, rfl⟩
      have e0 := (show u 7 = .int .i64 32 from hG 7 (hdep 7 (by kernel_rfl)))
      go_simp
      try simp [bne]
    · exact step_pick false hs (wants_none rfl) rfl rfl (fun L u W hG hdep => (show u 2 = .bool false from hG 2 (hdep 2 (by kernel_rfl)))) (fun L u W hG hdep => (show u 8 = .bool false from hG 8 (hdep 8 (by kernel_rfl))))
  intro L1 u1 W1 hall hJ hG
  have hb := hJ.all rfl
  have hbel := Below.call hbel hb
  have hw4 := (IsB []).st _ _ _ hw4 hb
  have HC9 := Lib.hid (show u1 1 = .bool false from hG 1 (by simp))
  have HC10 := Lib.hid (show u1 2 = .bool false from hG 2 (by simp))
  have HC16 := Lib.hid (show u1 8 = .bool false from hG 8 (by simp))
  have HC17 := Lib.hid (show u1 9 = .bool false from hG 9 (by simp))
  have hbel0 := hbel
  clear hJ hG hall hb
  have hx : u1 9 = .bool false := HC17.out
  go_wp2_with fail
  rw [hx]
  clear hx
  go_upto_region 3 with fail
  refine wp_region_turn (fun u => #[v0, v1, undef, undef, u0 0, u 2, undef, undef, u1 0, u1 1, u1 2, u1 3, u1 4, u1 5, u1 6, u1 7, u1 8, .bool false, u 0, u 1, undef, undef, undef, undef, undef, undef, undef, undef, undef, undef, undef, undef, undef, undef, undef, undef, undef, undef, undef, undef, undef, undef, undef, undef, undef, undef, undef, undef, undef, undef]) (Holds [.wld (IsR ls) none, .wld (IsB l) none, .wld (IsB l) none] W1) (Keep [.wld (IsR ls) none, .wld (IsB l) none, .wld (IsB l) none] W1) (fun _ => undef) ?_ (by rfl) Keep.start (holds_soft (by kernel_rfl)) ?_ ?_
  · intro u i v h
    rcases i with _ | _ | _ | i
    all_goals first | (simp [Act.put, putV]; done) | (exfalso; simp at h; omega)
  · intro hs
    refine ⟨?_, ?_, ?_, trivial⟩
    · exact step_runP hs (wants_none rfl) rfl fun L u W hJ hG hL hdep => run_moveP (.inl rfl) ((IsR ls).st _ _ _ h1 (Below.call hbel (hJ.all rfl)))
    · refine step_callP hs (wants_none rfl) rfl fun L u W hJ hG hL hdep K hK => ?_
      go_simp
      go_at_call 25
      (with_reducible refine (gCat (l := l) (holds_wld (φ := IsR ls) (hG 0 (hdep 0 (by kernel_rfl))) rfl till_none) (HL.out) (by have := HS.out; omega)).mono ?_); rintro e w1 ⟨r, rfl, hr, hb⟩
      have hk := hK.out _ _ hr hb
      exact hk
    · exact step_runP hs (wants_none rfl) rfl fun L u W hJ hG hL hdep => run_moveP (.inr rfl) (holds_wld (φ := IsB l) (hG 1 (hdep 1 (by kernel_rfl))) rfl till_none)
  intro L3 u3 W3 hall hJ hG
  have hb := hJ.all rfl
  have hbel := Below.call hbel hb
  have hw4 := (IsB []).st _ _ _ hw4 hb
  have hw5 := holds_wld (φ := IsB l) (hG 2 (by simp)) rfl till_none
  have hbel0 := hbel
  clear hJ hG hall hb
  go_upto_region 4 with fail
  refine wp_region_turn (fun u => #[v0, v1, undef, undef, u0 0, u3 2, u 7, undef, u1 0, u1 1, u1 2, u1 3, u1 4, u1 5, u1 6, u1 7, u1 8, .bool false, u3 0, u3 1, u 0, u 1, u 2, u 3, u 4, u 5, u 6, undef, undef, undef, undef, undef, undef, undef, undef, undef, undef, undef, undef, undef, undef, undef, undef, undef, undef, undef, undef, undef, undef, undef]) (Holds [.wld (StP [fNum rS [s], fB p, fB q]) (some 1), .wld (StP [fNum rS [s], fB p, fB q]) (some 2), .wld (StA [fNum rS [s], fB p, fB q] 4) (some 3), .wld (IsB p) (some 5), .wld (IsB l) (some 5), .wld (IsR [p, l]) (some 6), .val rS [wS (sha512 (p ++ l))], .new 4, .st 7 rS [wS (sha512 (p ++ l))]] W3) (Keep [.wld (StP [fNum rS [s], fB p, fB q]) (some 1), .wld (StP [fNum rS [s], fB p, fB q]) (some 2), .wld (StA [fNum rS [s], fB p, fB q] 4) (some 3), .wld (IsB p) (some 5), .wld (IsB l) (some 5), .wld (IsR [p, l]) (some 6), .val rS [wS (sha512 (p ++ l))], .new 4, .st 7 rS [wS (sha512 (p ++ l))]] W3) (fun _ => undef) ?_ (by rfl) Keep.start (holds_soft (by kernel_rfl)) ?_ ?_
  · intro u i v h
    rcases i with _ | _ | _ | _ | _ | _ | _ | _ | _ | i
    all_goals first | (simp [Act.put, putV]; done) | (exfalso; simp at h; omega)
  · intro hs
    refine ⟨?_, ?_, ?_, ?_, ?_, ?_, ?_, ?_, ?_, trivial⟩
    · exact step_runP hs (wants_none rfl) rfl fun L u W hJ hG hL hdep => run_moveP (.inl rfl) ((StP [fNum rS [s], fB p, fB q]).st _ _ _ h0 (Below.call hbel (hJ.all rfl)))
    · exact step_runP hs (wants_none rfl) rfl fun L u W hJ hG hL hdep => run_nilchk rfl (holds_wld (φ := StP [fNum rS [s], fB p, fB q]) (hG 0 (hdep 0 (by kernel_rfl))) rfl (till_some hL))
    · exact step_runP hs (wants_none rfl) rfl fun L u W hJ hG hL hdep => run_fieldSt rfl (holds_wld (φ := StP [fNum rS [s], fB p, fB q]) (hG 1 (hdep 1 (by kernel_rfl))) rfl (till_some hL)) field_Signer1
    · exact step_runP hs (wants_none rfl) rfl fun L u W hJ hG hL hdep => run_loadWp 1 rfl (holds_wld (φ := StA [fNum rS [s], fB p, fB q] 4) (hG 2 (hdep 2 (by kernel_rfl))) rfl (till_some hL)) rfl rfl load_bytes
    · exact step_runP hs (wants_none rfl) rfl fun L u W hJ hG hL hdep => run_moveP (.inl rfl) ((IsB l).st _ _ _ hw5 (hJ.all rfl))
    · exact step_runP hs (wants_none rfl) rfl fun L u W hJ hG hL hdep => run_rows2 rfl (holds_wld (φ := IsB p) (hG 3 (hdep 3 (by kernel_rfl))) rfl (till_some hL)) (holds_wld (φ := IsB l) (hG 4 (hdep 4 (by kernel_rfl))) rfl (till_some hL))
    · refine step_call hs (wants_none rfl) rfl fun L u W hJ hG hL hdep K hK => ?_
      go_simp
      go_at_call 24
      (with_reducible refine (gHash (l := (p ++ l)) (holds_wld (φ := IsR [p, l]) (hG 5 (hdep 5 (by kernel_rfl))) rfl (till_some hL)) (by simp) (by have := HS.out; (repeat rw [List.length_append]); (try rw [encP_len]); (try rw [leB_len]); (try rw [HP.out]); (try rw [HQ.out]); omega)).mono ?_); rintro e w1 ⟨r, rfl, hr, hb⟩
      have hk := hK.out _ _ hr hb
      exact hk
    · exact step_alloc hs (wants_none rfl) rfl rfl (by omega) rfl allocS
    · exact step_store 7 hs (by kernel_rfl) (wants_none rfl) rfl rfl rfl (by kernel_rfl) (by kernel_rfl) (by kernel_rfl) (by kernel_rfl) (fun _ => rfl) (gives_op 6 rfl (by kernel_rfl) (fun _ => rfl)) tyS rfl
  intro L4 u4 W4 hall hJ hG
  obtain ⟨q6, e6, hq6, _, ht6⟩ := (show ∃ g, u4 7 = .pointer (some ⟨g, 0, none⟩) ∧ W3.heap.size ≤ g ∧ 0 < 4 ∧ W4.there g 0 4 from hG 7 (by simp))
  have hm6 : HasFs rS W4 q6 0 [wS (sha512 (p ++ l))] := by
    obtain ⟨g, e, _, h⟩ := (show ∃ g, u4 7 = .pointer (some ⟨g, 0, none⟩) ∧ W3.heap.size ≤ g ∧ HasFs rS W4 g 0 [wS (sha512 (p ++ l))] from hG 8 (by simp))
    rw [e6] at e; cases e; exact h
  have hq6 : w.heap.size ≤ q6 := by have := hbel0.size; omega
  have E6 := Lib.hid e6; clear e6
  have hb := hJ.all rfl
  have hbel := Below.call hbel hb
  have hw4 := (IsB []).st _ _ _ hw4 hb
  have hw5 := (IsB l).st _ _ _ hw5 hb
  have hbel0 := hbel
  clear hJ hG hall hb
  go_upto_region 5 with fail
  refine wp_region_mid (fun u => #[v0, v1, undef, undef, u0 0, u3 2, u4 7, u 4, u1 0, u1 1, u1 2, u1 3, u1 4, u1 5, u1 6, u1 7, u1 8, .bool false, u3 0, u3 1, u4 0, u4 1, u4 2, u4 3, u4 4, u4 5, u4 6, u 0, u 1, u 2, u 3, undef, undef, undef, undef, undef, undef, undef, undef, undef, undef, undef, undef, undef, undef, undef, undef, undef, undef, undef]) (Holds [.val rP [base], .val rS [wS (sha512 (p ++ l))], .val rP [Cp.mul (wS (sha512 (p ++ l))).val base], .wld (IsB (encP (Cp.mul (wS (sha512 (p ++ l))).val base))) none, .wld (IsB (encP (Cp.mul (wS (sha512 (p ++ l))).val base))) none] W4) (Keep [.val rP [base], .val rS [wS (sha512 (p ++ l))], .val rP [Cp.mul (wS (sha512 (p ++ l))).val base], .wld (IsB (encP (Cp.mul (wS (sha512 (p ++ l))).val base))) none, .wld (IsB (encP (Cp.mul (wS (sha512 (p ++ l))).val base))) none] W4) (fun _ => undef) (by kernel_rfl) (by kernel_rfl) ?_ (by rfl) Keep.drew (holds_soft (by kernel_rfl)) ?_ ?_
  · intro u i v h
    rcases i with _ | _ | _ | _ | _ | i
    all_goals first | (simp [Act.put, putV]; done) | (exfalso; simp at h; omega)
  · intro hs
    refine ⟨?_, ?_, ?_, ?_, ?_, trivial⟩
    · refine step_call hs (wants_none rfl) rfl fun L u W hJ hG hL hdep K hK => ?_
      go_simp
      go_at_call 26
      (with_reducible refine (cBase _).mono ?_); rintro e w1 ⟨r, rfl, hr, hb⟩
      have hk := hK.out _ _ hr hb
      exact hk
    · exact step_load q6 0 hs (wants_none rfl) rfl rfl tyS (fun _ => E6.out) hm6.lt hm6 (noSto_apart (by kernel_rfl))
    · refine step_call hs (wants_none rfl) rfl fun L u W hJ hG hL hdep K hK => ?_
      have a0 := (show IsFs rP (u 0) [base] from hG 0 (hdep 0 (by kernel_rfl)))
      have a1 := (show IsFs rS (u 1) [wS (sha512 (p ++ l))] from hG 1 (hdep 1 (by kernel_rfl)))
      go_simp
      go_at_call 27
      (with_reducible refine (cMult rfl a0 a1 _).mono ?_); rintro e w1 ⟨r, rfl, hr, hb⟩
      have hk := hK.out _ _ hr hb
      exact hk
    · refine step_callP hs (wants_none rfl) rfl fun L u W hJ hG hL hdep K hK => ?_
      have a0 := (show IsFs rP (u 2) [Cp.mul (wS (sha512 (p ++ l))).val base] from hG 2 (hdep 2 (by kernel_rfl)))
      go_simp
      go_at_call 35
      (with_reducible refine (gEncode a0 _).mono ?_); rintro e w1 ⟨r, rfl, hr, hb⟩
      have hk := hK.out _ _ hr hb
      exact hk
    · exact step_runP hs (wants_none rfl) rfl fun L u W hJ hG hL hdep => run_moveP (.inr rfl) (holds_wld (φ := IsB (encP (Cp.mul (wS (sha512 (p ++ l))).val base))) (hG 3 (hdep 3 (by kernel_rfl))) rfl till_none)
  intro L5 u5 W5 hall hJ hG
  have hb := hJ.all rfl
  have hbel := Below.call hbel hb
  have hm6 := hm6.later hb
  have ht6 := there_later ht6 hb
  have hw4 := (IsB []).st _ _ _ hw4 hb
  have hw5 := (IsB l).st _ _ _ hw5 hb
  have hw7 := holds_wld (φ := IsB (encP (Cp.mul (wS (sha512 (p ++ l))).val base))) (hG 4 (by simp)) rfl till_none
  have hbel0 := hbel
  clear hJ hG hall hb
  go_upto_region 6 with fail
  refine wp_region_mid (fun u => #[v0, v1, undef, undef, u 19, u3 2, u4 7, u5 4, u1 0, u1 1, u1 2, u1 3, u1 4, u1 5, u1 6, u1 7, u1 8, .bool false, u3 0, u3 1, u4 0, u4 1, u4 2, u4 3, u4 4, u4 5, u4 6, u5 0, u5 1, u5 2, u5 3, u 0, u 1, u 2, u 3, u 4, u 5, u 6, u 7, u 8, u 9, u 10, u 11, u 12, u 13, u 14, u 15, u 16, u 17, u 18]) (Holds [.wld (IsB (encP (Cp.mul (wS (sha512 (p ++ l))).val base))) none, .val rS [wS (sha512 (p ++ l))], .wld (IsB (encP (Cp.mul (wS (sha512 (p ++ l))).val base))) none, .wld (StP [fNum rS [s], fB p, fB q]) none, .wld (StP [fNum rS [s], fB p, fB q]) none, .wld (StA [fNum rS [s], fB p, fB q] 5) none, .wld (IsB q) none, .wld (IsB l) none, .wld (IsR [encP (Cp.mul (wS (sha512 (p ++ l))).val base), q, l]) none, .val rS [wS (sha512 ((encP (Cp.mul (wS (sha512 (p ++ l))).val base)) ++ (q ++ l)))], .wld (StP [fNum rS [s], fB p, fB q]) none, .wld (StP [fNum rS [s], fB p, fB q]) none, .wld (StA [fNum rS [s], fB p, fB q] 0) none, .val rS [s], .val rS [dM (wS (sha512 ((encP (Cp.mul (wS (sha512 (p ++ l))).val base)) ++ (q ++ l)))) s], .val rS [dA (wS (sha512 (p ++ l))) (dM (wS (sha512 ((encP (Cp.mul (wS (sha512 (p ++ l))).val base)) ++ (q ++ l)))) s)], .wld (IsB (leB 32 (dA (wS (sha512 (p ++ l))) (dM (wS (sha512 ((encP (Cp.mul (wS (sha512 (p ++ l))).val base)) ++ (q ++ l)))) s)).val)) none, .wld (IsR [encP (Cp.mul (wS (sha512 (p ++ l))).val base), leB 32 (dA (wS (sha512 (p ++ l))) (dM (wS (sha512 ((encP (Cp.mul (wS (sha512 (p ++ l))).val base)) ++ (q ++ l)))) s)).val]) none, .wld (NwB w.heap.size ((encP (Cp.mul (wS (sha512 (p ++ l))).val base)) ++ (leB 32 (dA (wS (sha512 (p ++ l))) (dM (wS (sha512 ((encP (Cp.mul (wS (sha512 (p ++ l))).val base)) ++ (q ++ l)))) s)).val))) none, .wld (NwB w.heap.size ((encP (Cp.mul (wS (sha512 (p ++ l))).val base)) ++ (leB 32 (dA (wS (sha512 (p ++ l))) (dM (wS (sha512 ((encP (Cp.mul (wS (sha512 (p ++ l))).val base)) ++ (q ++ l)))) s)).val))) none] W5) (Keep [.wld (IsB (encP (Cp.mul (wS (sha512 (p ++ l))).val base))) none, .val rS [wS (sha512 (p ++ l))], .wld (IsB (encP (Cp.mul (wS (sha512 (p ++ l))).val base))) none, .wld (StP [fNum rS [s], fB p, fB q]) none, .wld (StP [fNum rS [s], fB p, fB q]) none, .wld (StA [fNum rS [s], fB p, fB q] 5) none, .wld (IsB q) none, .wld (IsB l) none, .wld (IsR [encP (Cp.mul (wS (sha512 (p ++ l))).val base), q, l]) none, .val rS [wS (sha512 ((encP (Cp.mul (wS (sha512 (p ++ l))).val base)) ++ (q ++ l)))], .wld (StP [fNum rS [s], fB p, fB q]) none, .wld (StP [fNum rS [s], fB p, fB q]) none, .wld (StA [fNum rS [s], fB p, fB q] 0) none, .val rS [s], .val rS [dM (wS (sha512 ((encP (Cp.mul (wS (sha512 (p ++ l))).val base)) ++ (q ++ l)))) s], .val rS [dA (wS (sha512 (p ++ l))) (dM (wS (sha512 ((encP (Cp.mul (wS (sha512 (p ++ l))).val base)) ++ (q ++ l)))) s)], .wld (IsB (leB 32 (dA (wS (sha512 (p ++ l))) (dM (wS (sha512 ((encP (Cp.mul (wS (sha512 (p ++ l))).val base)) ++ (q ++ l)))) s)).val)) none, .wld (IsR [encP (Cp.mul (wS (sha512 (p ++ l))).val base), leB 32 (dA (wS (sha512 (p ++ l))) (dM (wS (sha512 ((encP (Cp.mul (wS (sha512 (p ++ l))).val base)) ++ (q ++ l)))) s)).val]) none, .wld (NwB w.heap.size ((encP (Cp.mul (wS (sha512 (p ++ l))).val base)) ++ (leB 32 (dA (wS (sha512 (p ++ l))) (dM (wS (sha512 ((encP (Cp.mul (wS (sha512 (p ++ l))).val base)) ++ (q ++ l)))) s)).val))) none, .wld (NwB w.heap.size ((encP (Cp.mul (wS (sha512 (p ++ l))).val base)) ++ (leB 32 (dA (wS (sha512 (p ++ l))) (dM (wS (sha512 ((encP (Cp.mul (wS (sha512 (p ++ l))).val base)) ++ (q ++ l)))) s)).val))) none] W5) (fun k => ((undef :: undef :: undef :: undef :: undef :: undef :: undef :: undef :: undef :: undef :: undef :: undef :: undef :: undef :: undef :: undef :: undef :: undef :: undef :: u0 0 :: []) : List Value).getD k undef) (by kernel_rfl) (by kernel_rfl) ?_ (by rfl) Keep.drew (holds_soft (by kernel_rfl)) ?_ ?_
  · intro u i v h
    rcases i with _ | _ | _ | _ | _ | _ | _ | _ | _ | _ | _ | _ | _ | _ | _ | _ | _ | _ | _ | _ | i
    all_goals first | (simp [Act.put, putV]; done) | (exfalso; simp at h; omega)
  · intro hs
    refine ⟨?_, ?_, ?_, ?_, ?_, ?_, ?_, ?_, ?_, ?_, ?_, ?_, ?_, ?_, ?_, ?_, ?_, ?_, ?_, ?_, trivial⟩
    · exact step_runP hs (wants_none rfl) rfl fun L u W hJ hG hL hdep => run_moveP (.inl rfl) ((IsB (encP (Cp.mul (wS (sha512 (p ++ l))).val base))).st _ _ _ hw7 (hJ.all rfl))
    · exact step_load q6 0 hs (wants_none rfl) rfl rfl tyS (fun _ => E6.out) hm6.lt hm6 (noSto_apart (by kernel_rfl))
    · exact step_runP hs (wants_none rfl) rfl fun L u W hJ hG hL hdep => run_moveP (.inl rfl) ((IsB (encP (Cp.mul (wS (sha512 (p ++ l))).val base))).st _ _ _ hw7 (hJ.all rfl))
    · exact step_runP hs (wants_none rfl) rfl fun L u W hJ hG hL hdep => run_moveP (.inl rfl) ((StP [fNum rS [s], fB p, fB q]).st _ _ _ h0 (Below.call hbel (hJ.all rfl)))
    · exact step_runP hs (wants_none rfl) rfl fun L u W hJ hG hL hdep => run_nilchk rfl (holds_wld (φ := StP [fNum rS [s], fB p, fB q]) (hG 3 (hdep 3 (by kernel_rfl))) rfl till_none)
    · exact step_runP hs (wants_none rfl) rfl fun L u W hJ hG hL hdep => run_fieldSt rfl (holds_wld (φ := StP [fNum rS [s], fB p, fB q]) (hG 4 (hdep 4 (by kernel_rfl))) rfl till_none) field_Signer2
    · exact step_runP hs (wants_none rfl) rfl fun L u W hJ hG hL hdep => run_loadWp 2 rfl (holds_wld (φ := StA [fNum rS [s], fB p, fB q] 5) (hG 5 (hdep 5 (by kernel_rfl))) rfl till_none) rfl rfl load_bytes
    · exact step_runP hs (wants_none rfl) rfl fun L u W hJ hG hL hdep => run_moveP (.inl rfl) ((IsB l).st _ _ _ hw5 (hJ.all rfl))
    · exact step_runP hs (wants_none rfl) rfl fun L u W hJ hG hL hdep => run_rows3 rfl (holds_wld (φ := IsB (encP (Cp.mul (wS (sha512 (p ++ l))).val base))) (hG 2 (hdep 2 (by kernel_rfl))) rfl till_none) (holds_wld (φ := IsB q) (hG 6 (hdep 6 (by kernel_rfl))) rfl till_none) (holds_wld (φ := IsB l) (hG 7 (hdep 7 (by kernel_rfl))) rfl till_none)
    · refine step_call hs (wants_none rfl) rfl fun L u W hJ hG hL hdep K hK => ?_
      go_simp
      go_at_call 24
      (with_reducible refine (gHash (l := ((encP (Cp.mul (wS (sha512 (p ++ l))).val base)) ++ (q ++ l))) (holds_wld (φ := IsR [encP (Cp.mul (wS (sha512 (p ++ l))).val base), q, l]) (hG 8 (hdep 8 (by kernel_rfl))) rfl till_none) (by simp) (by have := HS.out; (repeat rw [List.length_append]); (try rw [encP_len]); (try rw [leB_len]); (try rw [HP.out]); (try rw [HQ.out]); omega)).mono ?_); rintro e w1 ⟨r, rfl, hr, hb⟩
      have hk := hK.out _ _ hr hb
      exact hk
    · exact step_runP hs (wants_none rfl) rfl fun L u W hJ hG hL hdep => run_moveP (.inl rfl) ((StP [fNum rS [s], fB p, fB q]).st _ _ _ h0 (Below.call hbel (hJ.all rfl)))
    · exact step_runP hs (wants_none rfl) rfl fun L u W hJ hG hL hdep => run_nilchk rfl (holds_wld (φ := StP [fNum rS [s], fB p, fB q]) (hG 10 (hdep 10 (by kernel_rfl))) rfl till_none)
    · exact step_runP hs (wants_none rfl) rfl fun L u W hJ hG hL hdep => run_fieldSt rfl (holds_wld (φ := StP [fNum rS [s], fB p, fB q]) (hG 11 (hdep 11 (by kernel_rfl))) rfl till_none) field_Signer0
    · exact step_pure hs (wants_none rfl) rfl fun L u W hG hdep => run_loadNum 0 rfl (holds_wld (φ := StA [fNum rS [s], fB p, fB q] 0) (hG 12 (hdep 12 (by kernel_rfl))) rfl till_none) rfl rfl tyS
    · refine step_call hs (wants_none rfl) rfl fun L u W hJ hG hL hdep K hK => ?_
      have a0 := (show IsFs rS (u 9) [wS (sha512 ((encP (Cp.mul (wS (sha512 (p ++ l))).val base)) ++ (q ++ l)))] from hG 9 (hdep 9 (by kernel_rfl)))
      have a1 := (show IsFs rS (u 13) [s] from hG 13 (hdep 13 (by kernel_rfl)))
      go_simp
      go_at_call 37
      (with_reducible refine (cScMul a0 a1 _).mono ?_); rintro e w1 ⟨r, rfl, hr, hb⟩
      have hk := hK.out _ _ hr hb
      exact hk
    · refine step_call hs (wants_none rfl) rfl fun L u W hJ hG hL hdep K hK => ?_
      have a0 := (show IsFs rS (u 1) [wS (sha512 (p ++ l))] from hG 1 (hdep 1 (by kernel_rfl)))
      have a1 := (show IsFs rS (u 14) [dM (wS (sha512 ((encP (Cp.mul (wS (sha512 (p ++ l))).val base)) ++ (q ++ l)))) s] from hG 14 (hdep 14 (by kernel_rfl)))
      go_simp
      go_at_call 36
      (with_reducible refine (cScAdd a0 a1 _).mono ?_); rintro e w1 ⟨r, rfl, hr, hb⟩
      have hk := hK.out _ _ hr hb
      exact hk
    · refine step_callP hs (wants_none rfl) rfl fun L u W hJ hG hL hdep K hK => ?_
      have a0 := (show IsFs rS (u 15) [dA (wS (sha512 (p ++ l))) (dM (wS (sha512 ((encP (Cp.mul (wS (sha512 (p ++ l))).val base)) ++ (q ++ l)))) s)] from hG 15 (hdep 15 (by kernel_rfl)))
      go_simp
      go_at_call 38
      (with_reducible refine (gScBytes a0 _).mono ?_); rintro e w1 ⟨r, rfl, hr, hb⟩
      have hk := hK.out _ _ hr hb
      exact hk
    · exact step_runP hs (wants_none rfl) rfl fun L u W hJ hG hL hdep => run_rows2 rfl (holds_wld (φ := IsB (encP (Cp.mul (wS (sha512 (p ++ l))).val base))) (hG 0 (hdep 0 (by kernel_rfl))) rfl till_none) (holds_wld (φ := IsB (leB 32 (dA (wS (sha512 (p ++ l))) (dM (wS (sha512 ((encP (Cp.mul (wS (sha512 (p ++ l))).val base)) ++ (q ++ l)))) s)).val)) (hG 16 (hdep 16 (by kernel_rfl))) rfl till_none)
    · refine step_callP hs (wants_none rfl) rfl fun L u W hJ hG hL hdep K hK => ?_
      go_simp
      go_at_call 25
      (with_reducible refine (gCatN (B := w.heap.size) (l := ((encP (Cp.mul (wS (sha512 (p ++ l))).val base)) ++ (leB 32 (dA (wS (sha512 (p ++ l))) (dM (wS (sha512 ((encP (Cp.mul (wS (sha512 (p ++ l))).val base)) ++ (q ++ l)))) s)).val))) (Nat.le_trans hbel.size hJ.size) (holds_wld (φ := IsR [encP (Cp.mul (wS (sha512 (p ++ l))).val base), leB 32 (dA (wS (sha512 (p ++ l))) (dM (wS (sha512 ((encP (Cp.mul (wS (sha512 (p ++ l))).val base)) ++ (q ++ l)))) s)).val]) (hG 17 (hdep 17 (by kernel_rfl))) rfl till_none) (by simp) (by have := HS.out; (repeat rw [List.length_append]); (try rw [encP_len]); (try rw [leB_len]); (try rw [HP.out]); (try rw [HQ.out]); omega) (by rw [List.length_append, edRL, leB_len]; omega)).mono ?_); rintro e w1 ⟨r, rfl, hr, hb⟩
      have hk := hK.out _ _ hr hb
      exact hk
    · exact step_runP hs (wants_none rfl) rfl fun L u W hJ hG hL hdep => run_moveP (.inr rfl) (holds_wld (φ := NwB w.heap.size ((encP (Cp.mul (wS (sha512 (p ++ l))).val base)) ++ (leB 32 (dA (wS (sha512 (p ++ l))) (dM (wS (sha512 ((encP (Cp.mul (wS (sha512 (p ++ l))).val base)) ++ (q ++ l)))) s)).val))) (hG 18 (hdep 18 (by kernel_rfl))) rfl till_none)
  intro L6 u6 W6 hall hJ hG
  have hb := hJ.all rfl
  have hbel := Below.call hbel hb
  have hm6 := hm6.later hb
  have ht6 := there_later ht6 hb
  have hw4 := (IsB []).st _ _ _ hw4 hb
  have hw5 := (IsB l).st _ _ _ hw5 hb
  have hw7 := (IsB (encP (Cp.mul (wS (sha512 (p ++ l))).val base))).st _ _ _ hw7 hb
  have hw4 := holds_wld (φ := NwB w.heap.size ((encP (Cp.mul (wS (sha512 (p ++ l))).val base)) ++ (leB 32 (dA (wS (sha512 (p ++ l))) (dM (wS (sha512 ((encP (Cp.mul (wS (sha512 (p ++ l))).val base)) ++ (q ++ l)))) s)).val))) (hG 19 (by simp)) rfl till_none
  have hbel0 := hbel
  clear hJ hG hall hb
  go_wp2
  go_ret
  exact ⟨_, rfl, hw4, hbel⟩
theorem gSSignNW {B : Nat} {v v1 : Value} {w : World} {seed l : List UInt8} {ls : List (List UInt8)} (hB : B ≤ w.heap.size) (h : (StP [fNum rS [edA seed], fB (edP seed), fB (edPub seed)]).P v w) (h1 : (IsR ls).P v1 w) (hl : ls.flatten = l) (hs : l.length ≤ 100000) :
    Calls Try.prog 17 #[v, v1] w fun e w' => ∃ r, e = .returned r ∧ (NwB B (edSign (edA seed) (edP seed) (edPub seed) l)).P r w' ∧ Below w.heap.size w w' :=
  (gSSignN h h1 hl hs (edP_len _) (edPub_len _)).mono fun _ _ ⟨r, he, hr, hb⟩ => ⟨r, he, NwB.less hr hB, hb⟩
set_option maxRecDepth 100000 in
set_option maxHeartbeats 400000 in
theorem sSign_nil {v : Value} (w : World) : Calls Try.prog 17 #[.pointer none, v] w fun e w' => e = .returned (.slice none 0 0) ∧ Below w.heap.size w w' := by
  go_enter Try.func17, Try.ntmps17
  go_wp2
  go_ret
  exact ⟨rfl, (by repeat (first | (with_reducible refine Below.alloc' ?_ _) | (with_reducible refine Below.drew ?_) | (with_reducible refine below_drewN ?_ _) | ((with_reducible refine Below.setCell ?_ ?_ _); rotate_left; (focus (first | exact Nat.le_refl _ | (simp; done) | (simp; omega)))) | (with_reducible assumption) | (with_reducible exact Below.refl _ _)))⟩
theorem gNewSigner' {v : Value} {seed : List UInt8} {w : World} (h : (IsB seed).P v w) (hl : seed.length = 32) :
    Calls Try.prog 16 #[v] w fun e w' => ∃ r, e = .returned r ∧ (TwV (StP [fNum rS [edA seed], fB (edP seed), fB (edPub seed)]) (.int .i64 0)).P r w' ∧ Below w.heap.size w w' :=
  (gNewSigner h hl).mono fun _ _ ⟨r, he, hr, hb⟩ => ⟨_, he, ⟨r, rfl, hr⟩, hb⟩
set_option maxRecDepth 100000 in
set_option maxHeartbeats 1000000 in
theorem gPublic {w : World} {v : Value} {seed : List UInt8} (h : (IsB seed).P v w) (hl : seed.length = 32) :
    Calls Try.prog 9 #[v] w fun e w' => ∃ r, e = .returned (.tuple #[r, .int .i64 0]) ∧ (IsB (edPub seed)).P r w' ∧ Below w.heap.size w w' := by
  have HL := Lib.hid hl
  clear hl
  go_enter Try.func9, Try.ntmps9
  have hbel : Below w.heap.size w w := Below.refl _ _
  have hbel0 := hbel
  go_upto_region 0 with fail
  refine wp_region_turn (fun u => #[v, undef, u 0, u 1, undef, undef, undef, undef, undef, undef, undef, undef, undef, undef]) (Holds [.wld (IsB []) none, .oth (fun v => v = .int .i64 0)] w) (Keep [.wld (IsB []) none, .oth (fun v => v = .int .i64 0)] w) (fun _ => undef) ?_ (by rfl) Keep.start (holds_soft (by kernel_rfl)) ?_ ?_
  · intro u i v h
    rcases i with _ | _ | i
    all_goals first | (simp [Act.put, putV]; done) | (exfalso; simp at h; omega)
  · intro hs
    refine ⟨?_, ?_, trivial⟩
    · exact step_runP hs (wants_none rfl) rfl fun L u W hJ hG hL hdep => run_moveP (.inr rfl) (IsB.nil W)
    · exact step_pureO hs (wants_none rfl) rfl fun L u W hG hdep => ⟨_, run_assign rfl, rfl⟩
  intro L0 u0 W0 hall hJ hG
  have hb := hJ.all rfl
  have hbel := Below.call hbel hb
  have hw2 := holds_wld (φ := IsB []) (hG 0 (by simp)) rfl till_none
  have HC3 := Lib.hid (show u0 1 = .int .i64 0 from hG 1 (by simp))
  have hbel0 := hbel
  clear hJ hG hall hb
  go_upto_region 1 with fail
  refine wp_region_turn (fun u => #[v, undef, u0 0, u0 1, u 5, u 6, u 2, u 0, u 1, u 3, u 4, undef, undef, undef]) (Holds [.wld (IsB seed) none, .wld (TwV (StP [fNum rS [edA seed], fB (edP seed), fB (edPub seed)]) (.int .i64 0)) none, .wld (TwV (StP [fNum rS [edA seed], fB (edP seed), fB (edPub seed)]) (.int .i64 0)) none, .wld (StP [fNum rS [edA seed], fB (edP seed), fB (edPub seed)]) none, .oth (fun v => v = .int .i64 0), .wld (StP [fNum rS [edA seed], fB (edP seed), fB (edPub seed)]) none, .oth (fun v => v = .int .i64 0)] W0) (Keep [.wld (IsB seed) none, .wld (TwV (StP [fNum rS [edA seed], fB (edP seed), fB (edPub seed)]) (.int .i64 0)) none, .wld (TwV (StP [fNum rS [edA seed], fB (edP seed), fB (edPub seed)]) (.int .i64 0)) none, .wld (StP [fNum rS [edA seed], fB (edP seed), fB (edPub seed)]) none, .oth (fun v => v = .int .i64 0), .wld (StP [fNum rS [edA seed], fB (edP seed), fB (edPub seed)]) none, .oth (fun v => v = .int .i64 0)] W0) (fun _ => undef) ?_ (by rfl) Keep.start (holds_soft (by kernel_rfl)) ?_ ?_
  · intro u i v h
    rcases i with _ | _ | _ | _ | _ | _ | _ | i
    all_goals first | (simp [Act.put, putV]; done) | (exfalso; simp at h; omega)
  · intro hs
    refine ⟨?_, ?_, ?_, ?_, ?_, ?_, ?_, trivial⟩
    · exact step_runP hs (wants_none rfl) rfl fun L u W hJ hG hL hdep => run_moveP (.inl rfl) ((IsB seed).st _ _ _ h (Below.call hbel (hJ.all rfl)))
    · refine step_callP hs (wants_none rfl) rfl fun L u W hJ hG hL hdep K hK => ?_
      go_simp
      go_at_call 16
      (with_reducible refine (gNewSigner' (holds_wld (φ := IsB seed) (hG 0 (hdep 0 (by kernel_rfl))) rfl till_none) HL.out).mono ?_); rintro e w1 ⟨r, rfl, hr, hb⟩
      have hk := hK.out _ _ hr hb
      exact hk
    · exact step_runP hs (wants_none rfl) rfl fun L u W hJ hG hL hdep => run_moveP (.inl rfl) (holds_wld (φ := TwV (StP [fNum rS [edA seed], fB (edP seed), fB (edPub seed)]) (.int .i64 0)) (hG 1 (hdep 1 (by kernel_rfl))) rfl till_none)
    · exact step_runP hs (wants_none rfl) rfl fun L u W hJ hG hL hdep => run_tw0 rfl (holds_wld (φ := TwV (StP [fNum rS [edA seed], fB (edP seed), fB (edPub seed)]) (.int .i64 0)) (hG 2 (hdep 2 (by kernel_rfl))) rfl till_none)
    · exact step_runO hs (wants_none rfl) rfl fun L u W hJ hG hL hdep => run_tw1 rfl (holds_wld (φ := TwV (StP [fNum rS [edA seed], fB (edP seed), fB (edPub seed)]) (.int .i64 0)) (hG 2 (hdep 2 (by kernel_rfl))) rfl till_none)
    · exact step_runP hs (wants_none rfl) rfl fun L u W hJ hG hL hdep => run_moveP (.inr rfl) (holds_wld (φ := StP [fNum rS [edA seed], fB (edP seed), fB (edPub seed)]) (hG 3 (hdep 3 (by kernel_rfl))) rfl till_none)
    · exact step_pureO hs (wants_none rfl) rfl fun L u W hG hdep => ⟨_, run_assign rfl, (show u 4 = .int .i64 0 from hG 4 (hdep 4 (by kernel_rfl)))⟩
  intro L1 u1 W1 hall hJ hG
  have hb := hJ.all rfl
  have hbel := Below.call hbel hb
  have hw2 := (IsB []).st _ _ _ hw2 hb
  have hw4 := holds_wld (φ := StP [fNum rS [edA seed], fB (edP seed), fB (edPub seed)]) (hG 5 (by simp)) rfl till_none
  have HC5 := Lib.hid (show u1 6 = .int .i64 0 from hG 6 (by simp))
  have hbel0 := hbel
  clear hJ hG hall hb
  go_upto_region 2 with fail
  refine wp_region_turn (fun u => #[v, undef, u 3, u 4, u1 5, u1 6, u1 2, u1 0, u1 1, u1 3, u1 4, u 0, u 1, u 2]) (Holds [.wld (StP [fNum rS [edA seed], fB (edP seed), fB (edPub seed)]) none, .wld (IsB (edPub seed)) none, .oth (fun v => v = .int .i64 0), .wld (IsB (edPub seed)) none, .oth (fun v => v = .int .i64 0)] W1) (Keep [.wld (StP [fNum rS [edA seed], fB (edP seed), fB (edPub seed)]) none, .wld (IsB (edPub seed)) none, .oth (fun v => v = .int .i64 0), .wld (IsB (edPub seed)) none, .oth (fun v => v = .int .i64 0)] W1) (fun k => ((undef :: undef :: undef :: u0 0 :: u0 1 :: []) : List Value).getD k undef) ?_ (by rfl) Keep.start (holds_soft (by kernel_rfl)) ?_ ?_
  · intro u i v h
    rcases i with _ | _ | _ | _ | _ | i
    all_goals first | (simp [Act.put, putV]; done) | (exfalso; simp at h; omega)
  · intro hs
    refine ⟨?_, ?_, ?_, ?_, ?_, trivial⟩
    · exact step_runP hs (wants_none rfl) rfl fun L u W hJ hG hL hdep => run_moveP (.inl rfl) ((StP [fNum rS [edA seed], fB (edP seed), fB (edPub seed)]).st _ _ _ hw4 (hJ.all rfl))
    · refine step_callP hs (wants_none rfl) rfl fun L u W hJ hG hL hdep K hK => ?_
      go_simp
      go_at_call 18
      (with_reducible refine (gSPublic (s := edA seed) (p := edP seed) (q := edPub seed) (holds_wld (φ := StP [fNum rS [edA seed], fB (edP seed), fB (edPub seed)]) (hG 0 (hdep 0 (by kernel_rfl))) rfl till_none) (by rw [edPub_len]; omega)).mono ?_); rintro e w1 ⟨r, rfl, hr, hb⟩
      have hk := hK.out _ _ hr hb
      exact hk
    · exact step_pureO hs (wants_none rfl) rfl fun L u W hG hdep => ⟨_, run_move rfl, HC5.out⟩
    · exact step_runP hs (wants_none rfl) rfl fun L u W hJ hG hL hdep => run_moveP (.inr rfl) (holds_wld (φ := IsB (edPub seed)) (hG 1 (hdep 1 (by kernel_rfl))) rfl till_none)
    · exact step_pureO hs (wants_none rfl) rfl fun L u W hG hdep => ⟨_, run_assign rfl, (show u 2 = .int .i64 0 from hG 2 (hdep 2 (by kernel_rfl)))⟩
  intro L2 u2 W2 hall hJ hG
  have hb := hJ.all rfl
  have hbel := Below.call hbel hb
  have hw2 := (IsB []).st _ _ _ hw2 hb
  have hw4 := (StP [fNum rS [edA seed], fB (edP seed), fB (edPub seed)]).st _ _ _ hw4 hb
  have hw2 := holds_wld (φ := IsB (edPub seed)) (hG 3 (by simp)) rfl till_none
  have HC3 := Lib.hid (show u2 4 = .int .i64 0 from hG 4 (by simp))
  have hbel0 := hbel
  clear hJ hG hall hb
  go_wp2
  go_ret2
  exact ⟨_, by rw [HC3.out]; rfl, hw2, hbel⟩
set_option maxRecDepth 100000 in
set_option maxHeartbeats 1000000 in
theorem gSign {w : World} {v v1 : Value} {ls : List (List UInt8)} {l : List UInt8} {seed : List UInt8} (h : (IsB seed).P v w) (h1 : (IsR ls).P v1 w) (hls : ls.flatten = l) (hs : l.length ≤ 100000) (hl : seed.length = 32) :
    Calls Try.prog 10 #[v, v1] w fun e w' => ∃ r, e = .returned (.tuple #[r, .int .i64 0]) ∧ (IsB (edSign (edA seed) (edP seed) (edPub seed) l)).P r w' ∧ Below w.heap.size w w' := by
  have HL := Lib.hid hl
  have HLS := Lib.hid hls; have HS := Lib.hid hs
  clear hls hs
  clear hl
  go_enter Try.func10, Try.ntmps10
  have hbel : Below w.heap.size w w := Below.refl _ _
  have hbel0 := hbel
  go_upto_region 0 with fail
  refine wp_region_turn (fun u => #[v, v1, undef, undef, u 0, u 1, undef, undef, undef, undef, undef, undef, undef, undef, undef, undef, undef]) (Holds [.wld (IsB []) none, .oth (fun v => v = .int .i64 0)] w) (Keep [.wld (IsB []) none, .oth (fun v => v = .int .i64 0)] w) (fun _ => undef) ?_ (by rfl) Keep.start (holds_soft (by kernel_rfl)) ?_ ?_
  · intro u i v h
    rcases i with _ | _ | i
    all_goals first | (simp [Act.put, putV]; done) | (exfalso; simp at h; omega)
  · intro hs
    refine ⟨?_, ?_, trivial⟩
    · exact step_runP hs (wants_none rfl) rfl fun L u W hJ hG hL hdep => run_moveP (.inr rfl) (IsB.nil W)
    · exact step_pureO hs (wants_none rfl) rfl fun L u W hG hdep => ⟨_, run_assign rfl, rfl⟩
  intro L0 u0 W0 hall hJ hG
  have hb := hJ.all rfl
  have hbel := Below.call hbel hb
  have hw4 := holds_wld (φ := IsB []) (hG 0 (by simp)) rfl till_none
  have HC5 := Lib.hid (show u0 1 = .int .i64 0 from hG 1 (by simp))
  have hbel0 := hbel
  clear hJ hG hall hb
  go_upto_region 1 with fail
  refine wp_region_turn (fun u => #[v, v1, undef, undef, u0 0, u0 1, u 5, u 6, u 2, u 0, u 1, u 3, u 4, undef, undef, undef, undef]) (Holds [.wld (IsB seed) none, .wld (TwV (StP [fNum rS [edA seed], fB (edP seed), fB (edPub seed)]) (.int .i64 0)) none, .wld (TwV (StP [fNum rS [edA seed], fB (edP seed), fB (edPub seed)]) (.int .i64 0)) none, .wld (StP [fNum rS [edA seed], fB (edP seed), fB (edPub seed)]) none, .oth (fun v => v = .int .i64 0), .wld (StP [fNum rS [edA seed], fB (edP seed), fB (edPub seed)]) none, .oth (fun v => v = .int .i64 0)] W0) (Keep [.wld (IsB seed) none, .wld (TwV (StP [fNum rS [edA seed], fB (edP seed), fB (edPub seed)]) (.int .i64 0)) none, .wld (TwV (StP [fNum rS [edA seed], fB (edP seed), fB (edPub seed)]) (.int .i64 0)) none, .wld (StP [fNum rS [edA seed], fB (edP seed), fB (edPub seed)]) none, .oth (fun v => v = .int .i64 0), .wld (StP [fNum rS [edA seed], fB (edP seed), fB (edPub seed)]) none, .oth (fun v => v = .int .i64 0)] W0) (fun _ => undef) ?_ (by rfl) Keep.start (holds_soft (by kernel_rfl)) ?_ ?_
  · intro u i v h
    rcases i with _ | _ | _ | _ | _ | _ | _ | i
    all_goals first | (simp [Act.put, putV]; done) | (exfalso; simp at h; omega)
  · intro hs
    refine ⟨?_, ?_, ?_, ?_, ?_, ?_, ?_, trivial⟩
    · exact step_runP hs (wants_none rfl) rfl fun L u W hJ hG hL hdep => run_moveP (.inl rfl) ((IsB seed).st _ _ _ h (Below.call hbel (hJ.all rfl)))
    · refine step_callP hs (wants_none rfl) rfl fun L u W hJ hG hL hdep K hK => ?_
      go_simp
      go_at_call 16
      (with_reducible refine (gNewSigner' (holds_wld (φ := IsB seed) (hG 0 (hdep 0 (by kernel_rfl))) rfl till_none) HL.out).mono ?_); rintro e w1 ⟨r, rfl, hr, hb⟩
      have hk := hK.out _ _ hr hb
      exact hk
    · exact step_runP hs (wants_none rfl) rfl fun L u W hJ hG hL hdep => run_moveP (.inl rfl) (holds_wld (φ := TwV (StP [fNum rS [edA seed], fB (edP seed), fB (edPub seed)]) (.int .i64 0)) (hG 1 (hdep 1 (by kernel_rfl))) rfl till_none)
    · exact step_runP hs (wants_none rfl) rfl fun L u W hJ hG hL hdep => run_tw0 rfl (holds_wld (φ := TwV (StP [fNum rS [edA seed], fB (edP seed), fB (edPub seed)]) (.int .i64 0)) (hG 2 (hdep 2 (by kernel_rfl))) rfl till_none)
    · exact step_runO hs (wants_none rfl) rfl fun L u W hJ hG hL hdep => run_tw1 rfl (holds_wld (φ := TwV (StP [fNum rS [edA seed], fB (edP seed), fB (edPub seed)]) (.int .i64 0)) (hG 2 (hdep 2 (by kernel_rfl))) rfl till_none)
    · exact step_runP hs (wants_none rfl) rfl fun L u W hJ hG hL hdep => run_moveP (.inr rfl) (holds_wld (φ := StP [fNum rS [edA seed], fB (edP seed), fB (edPub seed)]) (hG 3 (hdep 3 (by kernel_rfl))) rfl till_none)
    · exact step_pureO hs (wants_none rfl) rfl fun L u W hG hdep => ⟨_, run_assign rfl, (show u 4 = .int .i64 0 from hG 4 (hdep 4 (by kernel_rfl)))⟩
  intro L1 u1 W1 hall hJ hG
  have hb := hJ.all rfl
  have hbel := Below.call hbel hb
  have hw4 := (IsB []).st _ _ _ hw4 hb
  have hw6 := holds_wld (φ := StP [fNum rS [edA seed], fB (edP seed), fB (edPub seed)]) (hG 5 (by simp)) rfl till_none
  have HC7 := Lib.hid (show u1 6 = .int .i64 0 from hG 6 (by simp))
  have hbel0 := hbel
  clear hJ hG hall hb
  go_upto_region 2 with fail
  refine wp_region_turn (fun u => #[v, v1, undef, undef, u 4, u 5, u1 5, u1 6, u1 2, u1 0, u1 1, u1 3, u1 4, u 0, u 1, u 2, u 3]) (Holds [.wld (StP [fNum rS [edA seed], fB (edP seed), fB (edPub seed)]) none, .wld (IsR ls) none, .wld (IsB (edSign (edA seed) (edP seed) (edPub seed) l)) none, .oth (fun v => v = .int .i64 0), .wld (IsB (edSign (edA seed) (edP seed) (edPub seed) l)) none, .oth (fun v => v = .int .i64 0)] W1) (Keep [.wld (StP [fNum rS [edA seed], fB (edP seed), fB (edPub seed)]) none, .wld (IsR ls) none, .wld (IsB (edSign (edA seed) (edP seed) (edPub seed) l)) none, .oth (fun v => v = .int .i64 0), .wld (IsB (edSign (edA seed) (edP seed) (edPub seed) l)) none, .oth (fun v => v = .int .i64 0)] W1) (fun k => ((undef :: undef :: undef :: undef :: u0 0 :: u0 1 :: []) : List Value).getD k undef) ?_ (by rfl) Keep.start (holds_soft (by kernel_rfl)) ?_ ?_
  · intro u i v h
    rcases i with _ | _ | _ | _ | _ | _ | i
    all_goals first | (simp [Act.put, putV]; done) | (exfalso; simp at h; omega)
  · intro hs
    refine ⟨?_, ?_, ?_, ?_, ?_, ?_, trivial⟩
    · exact step_runP hs (wants_none rfl) rfl fun L u W hJ hG hL hdep => run_moveP (.inl rfl) ((StP [fNum rS [edA seed], fB (edP seed), fB (edPub seed)]).st _ _ _ hw6 (hJ.all rfl))
    · exact step_runP hs (wants_none rfl) rfl fun L u W hJ hG hL hdep => run_moveP (.inl rfl) ((IsR ls).st _ _ _ h1 (Below.call hbel (hJ.all rfl)))
    · refine step_callP hs (wants_none rfl) rfl fun L u W hJ hG hL hdep K hK => ?_
      go_simp
      go_at_call 17
      (with_reducible refine (gSSign (s := edA seed) (p := edP seed) (q := edPub seed) (l := l) (holds_wld (φ := StP [fNum rS [edA seed], fB (edP seed), fB (edPub seed)]) (hG 0 (hdep 0 (by kernel_rfl))) rfl till_none) (holds_wld (φ := IsR ls) (hG 1 (hdep 1 (by kernel_rfl))) rfl till_none) HLS.out HS.out (edP_len _) (edPub_len _)).mono ?_); rintro e w1 ⟨r, rfl, hr, hb⟩
      have hk := hK.out _ _ hr hb
      exact hk
    · exact step_pureO hs (wants_none rfl) rfl fun L u W hG hdep => ⟨_, run_move rfl, HC7.out⟩
    · exact step_runP hs (wants_none rfl) rfl fun L u W hJ hG hL hdep => run_moveP (.inr rfl) (holds_wld (φ := IsB (edSign (edA seed) (edP seed) (edPub seed) l)) (hG 2 (hdep 2 (by kernel_rfl))) rfl till_none)
    · exact step_pureO hs (wants_none rfl) rfl fun L u W hG hdep => ⟨_, run_assign rfl, (show u 3 = .int .i64 0 from hG 3 (hdep 3 (by kernel_rfl)))⟩
  intro L2 u2 W2 hall hJ hG
  have hb := hJ.all rfl
  have hbel := Below.call hbel hb
  have hw4 := (IsB []).st _ _ _ hw4 hb
  have hw6 := (StP [fNum rS [edA seed], fB (edP seed), fB (edPub seed)]).st _ _ _ hw6 hb
  have hw4 := holds_wld (φ := IsB (edSign (edA seed) (edP seed) (edPub seed) l)) (hG 4 (by simp)) rfl till_none
  have HC5 := Lib.hid (show u2 5 = .int .i64 0 from hG 5 (by simp))
  have hbel0 := hbel
  clear hJ hG hall hb
  go_wp2
  go_ret2
  exact ⟨_, by rw [HC5.out]; rfl, hw4, hbel⟩
set_option maxRecDepth 100000 in
set_option maxHeartbeats 1000000 in
theorem gSign_no {w : World} {v v1 : Value} {ls : List (List UInt8)} {l : List UInt8} {seed : List UInt8} {N : Nat} (h : (IsB seed).P v w) (h1 : (IsR ls).P v1 w) (hls : ls.flatten = l) (hs : l.length ≤ 100000) (hl : seed.length = N) (hn : N ≠ 32) :
    Calls Try.prog 10 #[v, v1] w fun e w' => e = .returned (.tuple #[.slice none 0 0, .int .i64 1]) ∧ Below w.heap.size w w' := by
  have HL := Lib.hid hl
  have HN := Lib.hid hn
  clear hn
  have HLS := Lib.hid hls; have HS := Lib.hid hs
  clear hls hs
  clear hl
  go_enter Try.func10, Try.ntmps10
  have hbel : Below w.heap.size w w := Below.refl _ _
  have hbel0 := hbel
  go_upto_region 0 with fail
  refine wp_region_turn (fun u => #[v, v1, undef, undef, u 0, u 1, undef, undef, undef, undef, undef, undef, undef, undef, undef, undef, undef]) (Holds [.wld (IsB []) none, .oth (fun v => v = .int .i64 0)] w) (Keep [.wld (IsB []) none, .oth (fun v => v = .int .i64 0)] w) (fun _ => undef) ?_ (by rfl) Keep.start (holds_soft (by kernel_rfl)) ?_ ?_
  · intro u i v h
    rcases i with _ | _ | i
    all_goals first | (simp [Act.put, putV]; done) | (exfalso; simp at h; omega)
  · intro hs
    refine ⟨?_, ?_, trivial⟩
    · exact step_runP hs (wants_none rfl) rfl fun L u W hJ hG hL hdep => run_moveP (.inr rfl) (IsB.nil W)
    · exact step_pureO hs (wants_none rfl) rfl fun L u W hG hdep => ⟨_, run_assign rfl, rfl⟩
  intro L0 u0 W0 hall hJ hG
  have hb := hJ.all rfl
  have hbel := Below.call hbel hb
  have hw4 := holds_wld (φ := IsB []) (hG 0 (by simp)) rfl till_none
  have HC5 := Lib.hid (show u0 1 = .int .i64 0 from hG 1 (by simp))
  have hbel0 := hbel
  clear hJ hG hall hb
  go_upto_region 1 with fail
  refine wp_region_turn (fun u => #[v, v1, undef, undef, u0 0, u0 1, u 5, u 6, u 2, u 0, u 1, u 3, u 4, undef, undef, undef, undef]) (Holds [.wld (IsB seed) none, .oth (fun v => v = .tuple #[.pointer none, .int .i64 1]), .oth (fun v => v = .tuple #[.pointer none, .int .i64 1]), .oth (fun v => v = .pointer none), .oth (fun v => v = .int .i64 1), .oth (fun v => v = .pointer none), .oth (fun v => v = .int .i64 1)] W0) (Keep [.wld (IsB seed) none, .oth (fun v => v = .tuple #[.pointer none, .int .i64 1]), .oth (fun v => v = .tuple #[.pointer none, .int .i64 1]), .oth (fun v => v = .pointer none), .oth (fun v => v = .int .i64 1), .oth (fun v => v = .pointer none), .oth (fun v => v = .int .i64 1)] W0) (fun _ => undef) ?_ (by rfl) Keep.start (holds_soft (by kernel_rfl)) ?_ ?_
  · intro u i v h
    rcases i with _ | _ | _ | _ | _ | _ | _ | i
    all_goals first | (simp [Act.put, putV]; done) | (exfalso; simp at h; omega)
  · intro hs
    refine ⟨?_, ?_, ?_, ?_, ?_, ?_, ?_, trivial⟩
    · exact step_runP hs (wants_none rfl) rfl fun L u W hJ hG hL hdep => run_moveP (.inl rfl) ((IsB seed).st _ _ _ h (Below.call hbel (hJ.all rfl)))
    · refine step_callO hs (wants_none rfl) rfl fun L u W hJ hG hL hdep K hK => ?_
      go_simp
      go_at_call 16
      (with_reducible refine (newSigner_no (holds_wld (φ := IsB seed) (hG 0 (hdep 0 (by kernel_rfl))) rfl till_none) HL.out HN.out).mono ?_); rintro e w1 ⟨rfl, hb⟩
      have hk := hK.out _ _ rfl hb
      exact hk
    · exact step_pureO hs (wants_none rfl) rfl fun L u W hG hdep => ⟨_, run_move rfl, (show u 1 = .tuple #[.pointer none, .int .i64 1] from hG 1 (hdep 1 (by kernel_rfl)))⟩
    · refine step_pureO hs (wants_none rfl) rfl fun L u W hG hdep => ⟨_, ?_, rfl⟩
      have e0 := (show u 2 = .tuple #[.pointer none, .int .i64 1] from hG 2 (hdep 2 (by kernel_rfl)))
      unfold execOp
      go_simp
    · refine step_pureO hs (wants_none rfl) rfl fun L u W hG hdep => ⟨_, ?_, rfl⟩
      have e0 := (show u 2 = .tuple #[.pointer none, .int .i64 1] from hG 2 (hdep 2 (by kernel_rfl)))
      unfold execOp
      go_simp
    · exact step_pureO hs (wants_none rfl) rfl fun L u W hG hdep => ⟨_, run_assign rfl, (show u 3 = .pointer none from hG 3 (hdep 3 (by kernel_rfl)))⟩
    · exact step_pureO hs (wants_none rfl) rfl fun L u W hG hdep => ⟨_, run_assign rfl, (show u 4 = .int .i64 1 from hG 4 (hdep 4 (by kernel_rfl)))⟩
  intro L1 u1 W1 hall hJ hG
  have hb := hJ.all rfl
  have hbel := Below.call hbel hb
  have hw4 := (IsB []).st _ _ _ hw4 hb
  have HC6 := Lib.hid (show u1 5 = .pointer none from hG 5 (by simp))
  have HC7 := Lib.hid (show u1 6 = .int .i64 1 from hG 6 (by simp))
  have hbel0 := hbel
  clear hJ hG hall hb
  go_upto_region 2 with fail
  refine wp_region_turn (fun u => #[v, v1, undef, undef, u 4, u 5, u1 5, u1 6, u1 2, u1 0, u1 1, u1 3, u1 4, u 0, u 1, u 2, u 3]) (Holds [.oth (fun v => v = .pointer none), .wld (IsR ls) none, .oth (fun v => v = .slice none 0 0), .oth (fun v => v = .int .i64 1), .oth (fun v => v = .slice none 0 0), .oth (fun v => v = .int .i64 1)] W1) (Keep [.oth (fun v => v = .pointer none), .wld (IsR ls) none, .oth (fun v => v = .slice none 0 0), .oth (fun v => v = .int .i64 1), .oth (fun v => v = .slice none 0 0), .oth (fun v => v = .int .i64 1)] W1) (fun k => ((undef :: undef :: undef :: undef :: u0 0 :: u0 1 :: []) : List Value).getD k undef) ?_ (by rfl) Keep.start (holds_soft (by kernel_rfl)) ?_ ?_
  · intro u i v h
    rcases i with _ | _ | _ | _ | _ | _ | i
    all_goals first | (simp [Act.put, putV]; done) | (exfalso; simp at h; omega)
  · intro hs
    refine ⟨?_, ?_, ?_, ?_, ?_, ?_, trivial⟩
    · exact step_pureO hs (wants_none rfl) rfl fun L u W hG hdep => ⟨_, run_move rfl, HC6.out⟩
    · exact step_runP hs (wants_none rfl) rfl fun L u W hJ hG hL hdep => run_moveP (.inl rfl) ((IsR ls).st _ _ _ h1 (Below.call hbel (hJ.all rfl)))
    · refine step_callO hs (wants_none rfl) rfl fun L u W hJ hG hL hdep K hK => ?_
      have x0 := (show u 0 = .pointer none from hG 0 (hdep 0 (by kernel_rfl)))
      go_simp
      go_at_call 17
      (with_reducible refine (sSign_nil _).mono ?_); rintro e w1 ⟨rfl, hb⟩
      have hk := hK.out _ _ rfl hb
      simp only [x0] at hk
      exact hk
    · exact step_pureO hs (wants_none rfl) rfl fun L u W hG hdep => ⟨_, run_move rfl, HC7.out⟩
    · exact step_pureO hs (wants_none rfl) rfl fun L u W hG hdep => ⟨_, run_assign rfl, (show u 2 = .slice none 0 0 from hG 2 (hdep 2 (by kernel_rfl)))⟩
    · exact step_pureO hs (wants_none rfl) rfl fun L u W hG hdep => ⟨_, run_assign rfl, (show u 3 = .int .i64 1 from hG 3 (hdep 3 (by kernel_rfl)))⟩
  intro L2 u2 W2 hall hJ hG
  have hb := hJ.all rfl
  have hbel := Below.call hbel hb
  have hw4 := (IsB []).st _ _ _ hw4 hb
  have HC4 := Lib.hid (show u2 4 = .slice none 0 0 from hG 4 (by simp))
  have HC5 := Lib.hid (show u2 5 = .int .i64 1 from hG 5 (by simp))
  have hbel0 := hbel
  clear hJ hG hall hb
  go_wp2
  go_ret2
  exact ⟨by rw [HC4.out, HC5.out]; rfl, hbel⟩
set_option maxRecDepth 100000 in
set_option maxHeartbeats 1000000 in
theorem gSignN {w : World} {v v1 : Value} {ls : List (List UInt8)} {l : List UInt8} {seed : List UInt8} (h : (IsB seed).P v w) (h1 : (IsR ls).P v1 w) (hls : ls.flatten = l) (hs : l.length ≤ 100000) (hl : seed.length = 32) :
    Calls Try.prog 10 #[v, v1] w fun e w' => ∃ r, e = .returned (.tuple #[r, .int .i64 0]) ∧ (NwB w.heap.size (edSign (edA seed) (edP seed) (edPub seed) l)).P r w' ∧ Below w.heap.size w w' := by
  have HL := Lib.hid hl
  have HLS := Lib.hid hls; have HS := Lib.hid hs
  clear hls hs hl
  go_enter Try.func10, Try.ntmps10
  have hbel : Below w.heap.size w w := Below.refl _ _
  have hbel0 := hbel
  go_upto_region 0 with fail
  refine wp_region_turn (fun u => #[v, v1, undef, undef, u 0, u 1, undef, undef, undef, undef, undef, undef, undef, undef, undef, undef, undef]) (Holds [.wld (IsB []) none, .oth (fun v => v = .int .i64 0)] w) (Keep [.wld (IsB []) none, .oth (fun v => v = .int .i64 0)] w) (fun _ => undef) ?_ (by rfl) Keep.start (holds_soft (by kernel_rfl)) ?_ ?_
  · intro u i v h
    rcases i with _ | _ | i
    all_goals first | (simp [Act.put, putV]; done) | (exfalso; simp at h; omega)
  · intro hs
    refine ⟨?_, ?_, trivial⟩
    · exact step_runP hs (wants_none rfl) rfl fun L u W hJ hG hL hdep => run_moveP (.inr rfl) (IsB.nil W)
    · exact step_pureO hs (wants_none rfl) rfl fun L u W hG hdep => ⟨_, run_assign rfl, rfl⟩
  intro L0 u0 W0 hall hJ hG
  have hb := hJ.all rfl
  have hbel := Below.call hbel hb
  have hw4 := holds_wld (φ := IsB []) (hG 0 (by simp)) rfl till_none
  have HC5 := Lib.hid (show u0 1 = .int .i64 0 from hG 1 (by simp))
  have hbel0 := hbel
  clear hJ hG hall hb
  go_upto_region 1 with fail
  refine wp_region_turn (fun u => #[v, v1, undef, undef, u0 0, u0 1, u 5, u 6, u 2, u 0, u 1, u 3, u 4, undef, undef, undef, undef]) (Holds [.wld (IsB seed) none, .wld (TwV (StP [fNum rS [edA seed], fB (edP seed), fB (edPub seed)]) (.int .i64 0)) none, .wld (TwV (StP [fNum rS [edA seed], fB (edP seed), fB (edPub seed)]) (.int .i64 0)) none, .wld (StP [fNum rS [edA seed], fB (edP seed), fB (edPub seed)]) none, .oth (fun v => v = .int .i64 0), .wld (StP [fNum rS [edA seed], fB (edP seed), fB (edPub seed)]) none, .oth (fun v => v = .int .i64 0)] W0) (Keep [.wld (IsB seed) none, .wld (TwV (StP [fNum rS [edA seed], fB (edP seed), fB (edPub seed)]) (.int .i64 0)) none, .wld (TwV (StP [fNum rS [edA seed], fB (edP seed), fB (edPub seed)]) (.int .i64 0)) none, .wld (StP [fNum rS [edA seed], fB (edP seed), fB (edPub seed)]) none, .oth (fun v => v = .int .i64 0), .wld (StP [fNum rS [edA seed], fB (edP seed), fB (edPub seed)]) none, .oth (fun v => v = .int .i64 0)] W0) (fun _ => undef) ?_ (by rfl) Keep.start (holds_soft (by kernel_rfl)) ?_ ?_
  · intro u i v h
    rcases i with _ | _ | _ | _ | _ | _ | _ | i
    all_goals first | (simp [Act.put, putV]; done) | (exfalso; simp at h; omega)
  · intro hs
    refine ⟨?_, ?_, ?_, ?_, ?_, ?_, ?_, trivial⟩
    · exact step_runP hs (wants_none rfl) rfl fun L u W hJ hG hL hdep => run_moveP (.inl rfl) ((IsB seed).st _ _ _ h (Below.call hbel (hJ.all rfl)))
    · refine step_callP hs (wants_none rfl) rfl fun L u W hJ hG hL hdep K hK => ?_
      go_simp
      go_at_call 16
      (with_reducible refine (gNewSigner' (holds_wld (φ := IsB seed) (hG 0 (hdep 0 (by kernel_rfl))) rfl till_none) (HL.out)).mono ?_); rintro e w1 ⟨r, rfl, hr, hb⟩
      have hk := hK.out _ _ hr hb
      exact hk
    · exact step_runP hs (wants_none rfl) rfl fun L u W hJ hG hL hdep => run_moveP (.inl rfl) (holds_wld (φ := TwV (StP [fNum rS [edA seed], fB (edP seed), fB (edPub seed)]) (.int .i64 0)) (hG 1 (hdep 1 (by kernel_rfl))) rfl till_none)
    · exact step_runP hs (wants_none rfl) rfl fun L u W hJ hG hL hdep => run_tw0 rfl (holds_wld (φ := TwV (StP [fNum rS [edA seed], fB (edP seed), fB (edPub seed)]) (.int .i64 0)) (hG 2 (hdep 2 (by kernel_rfl))) rfl till_none)
    · exact step_runO hs (wants_none rfl) rfl fun L u W hJ hG hL hdep => run_tw1 rfl (holds_wld (φ := TwV (StP [fNum rS [edA seed], fB (edP seed), fB (edPub seed)]) (.int .i64 0)) (hG 2 (hdep 2 (by kernel_rfl))) rfl till_none)
    · exact step_runP hs (wants_none rfl) rfl fun L u W hJ hG hL hdep => run_moveP (.inr rfl) (holds_wld (φ := StP [fNum rS [edA seed], fB (edP seed), fB (edPub seed)]) (hG 3 (hdep 3 (by kernel_rfl))) rfl till_none)
    · exact step_pureO hs (wants_none rfl) rfl fun L u W hG hdep => ⟨_, run_assign rfl, (show u 4 = .int .i64 0 from hG 4 (hdep 4 (by kernel_rfl)))⟩
  intro L1 u1 W1 hall hJ hG
  have hb := hJ.all rfl
  have hbel := Below.call hbel hb
  have hw4 := (IsB []).st _ _ _ hw4 hb
  have hw6 := holds_wld (φ := StP [fNum rS [edA seed], fB (edP seed), fB (edPub seed)]) (hG 5 (by simp)) rfl till_none
  have HC7 := Lib.hid (show u1 6 = .int .i64 0 from hG 6 (by simp))
  have hbel0 := hbel
  clear hJ hG hall hb
  go_upto_region 2 with fail
  refine wp_region_turn (fun u => #[v, v1, undef, undef, u 4, u 5, u1 5, u1 6, u1 2, u1 0, u1 1, u1 3, u1 4, u 0, u 1, u 2, u 3]) (Holds [.wld (StP [fNum rS [edA seed], fB (edP seed), fB (edPub seed)]) none, .wld (IsR ls) none, .wld (NwB w.heap.size (edSign (edA seed) (edP seed) (edPub seed) l)) none, .oth (fun v => v = .int .i64 0), .wld (NwB w.heap.size (edSign (edA seed) (edP seed) (edPub seed) l)) none, .oth (fun v => v = .int .i64 0)] W1) (Keep [.wld (StP [fNum rS [edA seed], fB (edP seed), fB (edPub seed)]) none, .wld (IsR ls) none, .wld (NwB w.heap.size (edSign (edA seed) (edP seed) (edPub seed) l)) none, .oth (fun v => v = .int .i64 0), .wld (NwB w.heap.size (edSign (edA seed) (edP seed) (edPub seed) l)) none, .oth (fun v => v = .int .i64 0)] W1) (fun k => ((undef :: undef :: undef :: undef :: u0 0 :: u0 1 :: []) : List Value).getD k undef) ?_ (by rfl) Keep.start (holds_soft (by kernel_rfl)) ?_ ?_
  · intro u i v h
    rcases i with _ | _ | _ | _ | _ | _ | i
    all_goals first | (simp [Act.put, putV]; done) | (exfalso; simp at h; omega)
  · intro hs
    refine ⟨?_, ?_, ?_, ?_, ?_, ?_, trivial⟩
    · exact step_runP hs (wants_none rfl) rfl fun L u W hJ hG hL hdep => run_moveP (.inl rfl) ((StP [fNum rS [edA seed], fB (edP seed), fB (edPub seed)]).st _ _ _ hw6 (hJ.all rfl))
    · exact step_runP hs (wants_none rfl) rfl fun L u W hJ hG hL hdep => run_moveP (.inl rfl) ((IsR ls).st _ _ _ h1 (Below.call hbel (hJ.all rfl)))
    · refine step_callP hs (wants_none rfl) rfl fun L u W hJ hG hL hdep K hK => ?_
      go_simp
      go_at_call 17
      (with_reducible refine (gSSignNW (B := w.heap.size) (seed := seed) (l := l) (Nat.le_trans hbel.size hJ.size) (holds_wld (φ := StP [fNum rS [edA seed], fB (edP seed), fB (edPub seed)]) (hG 0 (hdep 0 (by kernel_rfl))) rfl till_none) (holds_wld (φ := IsR ls) (hG 1 (hdep 1 (by kernel_rfl))) rfl till_none) (HLS.out) (HS.out)).mono ?_); rintro e w1 ⟨r, rfl, hr, hb⟩
      have hk := hK.out _ _ hr hb
      exact hk
    · exact step_pureO hs (wants_none rfl) rfl fun L u W hG hdep => ⟨_, run_move rfl, HC7.out⟩
    · exact step_runP hs (wants_none rfl) rfl fun L u W hJ hG hL hdep => run_moveP (.inr rfl) (holds_wld (φ := NwB w.heap.size (edSign (edA seed) (edP seed) (edPub seed) l)) (hG 2 (hdep 2 (by kernel_rfl))) rfl till_none)
    · exact step_pureO hs (wants_none rfl) rfl fun L u W hG hdep => ⟨_, run_assign rfl, (show u 3 = .int .i64 0 from hG 3 (hdep 3 (by kernel_rfl)))⟩
  intro L2 u2 W2 hall hJ hG
  have hb := hJ.all rfl
  have hbel := Below.call hbel hb
  have hw4 := (IsB []).st _ _ _ hw4 hb
  have hw6 := (StP [fNum rS [edA seed], fB (edP seed), fB (edPub seed)]).st _ _ _ hw6 hb
  have hw4 := holds_wld (φ := NwB w.heap.size (edSign (edA seed) (edP seed) (edPub seed) l)) (hG 4 (by simp)) rfl till_none
  have HC5 := Lib.hid (show u2 5 = .int .i64 0 from hG 5 (by simp))
  have hbel0 := hbel
  clear hJ hG hall hb
  go_wp2
  go_ret2
  exact ⟨_, by rw [HC5.out]; rfl, hw4, hbel⟩
end Go.Proofs.Ytielgpefoameiaa
