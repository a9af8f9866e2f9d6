/- What PC rests on, part 4 of 4: my own texts, put together (merge.py). -/
import Derived.Test.YtjchdhpijopikaaRows
import Derived.WalkKit
import Derived.ProofKit
import Derived.Lib.Hide
import Derived.OpenShut
import Derived.WalkSpells
import Derived.StillTactics
import Derived.Laws.Pointers
import Derived.Laws.CopyOwn
import Derived.Laws.AppendOwnNone
import Derived.Deep.RegionHeld3
import Derived.RowKit3
import Derived.BigQuiet
import Derived.Deep.QuietTactic
import Derived.Deep.LoopGhost
import Derived.Deep.DeepFit
import Derived.WalkLawsBesides
import Derived.Shelf.Spec.BitsCarry
import Derived.Deep.MidRow
import Derived.Laws.IdiomStrings
import Derived.Deep.DeepCutAuto
import Derived.Deep.WholeRow
import Derived.Laws.Rows
import Derived.Lib.AppendZerosOnto
import Derived.Lib.SliceRun
import Derived.Deep.AppendLies
import Derived.ShutString
import Derived.ChangeOld
import Derived.Test.YtjchdhpijopikaaZPCC
namespace Go.Proofs.Ytjchdhpijopikaa
open Go Go.RowKit
theorem xx_fs {v : Value} {y : F} (h : IsFs rE v [(y * y - fn 1) * finv (y * y * dE + fn 1)]) : IsFs rE v [xx y] := h
theorem cRootN {v : Value} {x X : F} {c : Int} (hX : rootV x = X) (hc : rootC x = c) (h : IsFs rE v [x]) (w : World) :
    Calls Try.prog 43 #[v] w fun e w' => ∃ r, e = .returned (.tuple #[r, .int .i64 c]) ∧ IsFs rE r [X] ∧ Below w.heap.size w w' := by subst hX hc; exact cRoot h w
theorem dec_pext {P : EP} {x y : F} (hx : P.x = x) (hy : P.y = y) : Pext P x y (fn 1) (x * y) := by subst hx hy; exact Pext.one P
theorem odd_bit {l : List UInt8} {c : UInt8} {o : Bool} (h : l.length = 32) (hc : l.getD 31 0 = c) (ho : sgn l = o) : (bits BinOp.and IntKind.u8 (c.toNat : Int) 128 != 0) = o := by
  rw [← ho, sgn_byte h, hc]
  exact odd_byte _ c.toNat_lt
theorem clr_bit {c d : UInt8} (h : c &&& 127 = d) : bits BinOp.andNot IntKind.u8 (c.toNat : Int) 128 = (d.toNat : Int) := by
  have := clr_byte2 c.toNat c.toNat_lt
  rw [UInt8.ofNat_toNat, h] at this
  exact this
theorem root_7 {x : F} (h : ¬ rootC x = 0) : rootC x = 7 := by
  unfold rootC at *
  by_cases e : cand x * cand x = x
  · rw [if_pos e] at h; exact absurd rfl h
  · rw [if_neg e]
set_option maxRecDepth 100000 in
set_option maxHeartbeats 4000000 in
theorem decode_len {a : Option Addr} {n cap : Nat} (w : World) (hn : n ≠ 32) :
    Calls Try.prog 10 #[.slice a n cap] w fun e w' => ∃ r, e = .returned (.tuple #[r, .int .i64 12]) ∧ IsFs rP r [Cp.zero] ∧ Below w.heap.size w w' := by
  have d1 : decide ((n : Int) = 32) = false := decide_eq_false (by omega)
  have HD : Hid (¬ ((n : Int) = 32)) := Lib.hid (by omega)
  clear hn
  go_enter Try.func10, Try.ntmps10
  have hbel : Below w.heap.size w w := Below.refl _ _
  have hbel0 := hbel
  go_upto_region 0 with fail
  refine wp_region_turn (fun u => (.slice a n cap :: undef :: u 0 :: u 1 :: undef :: undef :: undef :: undef :: undef :: undef :: undef :: undef :: undef :: undef :: undef :: undef :: undef :: undef :: undef :: undef :: undef :: undef :: undef :: undef :: undef :: undef :: undef :: undef :: undef :: undef :: undef :: undef :: undef :: undef :: undef :: undef :: undef :: undef :: undef :: undef :: undef :: undef :: undef :: undef :: undef :: undef :: undef :: undef :: undef :: undef :: undef :: undef :: undef :: undef :: undef :: undef :: undef :: undef :: undef :: undef :: undef :: undef :: undef :: undef :: undef :: undef :: undef :: undef :: undef :: undef :: []).toArray) (Holds [.new 20, .oth (fun v => v = .int .i64 0)] w) (Keep [.new 20, .oth (fun v => v = .int .i64 0)] w) (fun _ => undef) ?_ (by rfl) Keep.start (holds_soft (by kernel_rfl)) ?_ ?_
  · intro u i v h
    rcases i with _ | _ | i
    all_goals first | (simp [Act.put, putV]; done) | (exfalso; simp at h; omega)
  · intro hs
    refine ⟨?_, ?_, trivial⟩
    · exact step_alloc hs (wants_none rfl) rfl rfl (by omega) rfl allocP
    · exact step_pureO hs (wants_none rfl) rfl fun L u W hG hdep => ⟨_, run_assign rfl, rfl⟩
  intro L0 u0 W0 hall hJ hG
  obtain ⟨q2, e2, hq2, _, ht2⟩ := (show ∃ g, u0 0 = .pointer (some ⟨g, 0, none⟩) ∧ w.heap.size ≤ g ∧ 0 < 20 ∧ W0.there g 0 20 from hG 0 (by simp))
  have hq2 : w.heap.size ≤ q2 := by have := hbel0.size; omega
  have E2 := Lib.hid e2; clear e2
  have hb := hJ.all rfl
  have hbel := Below.call hbel hb
  have HC3 := Lib.hid (show u0 1 = .int .i64 0 from hG 1 (by simp))
  have hbel0 := hbel
  clear hJ hG hall hb
  go_upto_region 1 with fail
  refine wp_region_turn (fun u => (.slice a n cap :: undef :: u0 0 :: u0 1 :: undef :: undef :: undef :: undef :: undef :: undef :: u 0 :: u 1 :: u 2 :: undef :: undef :: undef :: undef :: undef :: undef :: undef :: undef :: undef :: undef :: undef :: undef :: undef :: undef :: undef :: undef :: undef :: undef :: undef :: undef :: undef :: undef :: undef :: undef :: undef :: undef :: undef :: undef :: undef :: undef :: undef :: undef :: undef :: undef :: undef :: undef :: undef :: undef :: undef :: undef :: undef :: undef :: undef :: undef :: undef :: undef :: undef :: undef :: undef :: undef :: undef :: undef :: undef :: undef :: undef :: undef :: undef :: []).toArray) (Holds [.oth (fun v => v = .slice a n cap), .oth (fun v => v = .int .i64 (n : Nat)), .oth (fun v => v = .bool true)] W0) (Keep [.oth (fun v => v = .slice a n cap), .oth (fun v => v = .int .i64 (n : Nat)), .oth (fun v => v = .bool true)] W0) (fun _ => undef) ?_ (by rfl) Keep.start (holds_soft (by kernel_rfl)) ?_ ?_
  · intro u i v h
    rcases i with _ | _ | _ | i
    all_goals first | (simp [Act.put, putV]; done) | (exfalso; simp at h; omega)
  · intro hs
    refine ⟨?_, ?_, ?_, trivial⟩
    · exact step_pureO hs (wants_none rfl) rfl fun L u W hG hdep => ⟨_, run_move rfl, rfl⟩
    · refine step_pureO hs (wants_none rfl) rfl fun L u W hG hdep => ⟨_, ?_, rfl⟩
      have e0 := (show u 0 = .slice a n cap from hG 0 (hdep 0 (by kernel_rfl)))
      go_simp
    · refine step_pureO hs (wants_none rfl) rfl fun L u W hG hdep => ⟨_, ?_, rfl⟩
      have e0 := (show u 1 = .int .i64 (n : Nat) from hG 1 (hdep 1 (by kernel_rfl)))
      go_simp
      exact HD.out
  intro L1 u1 W1 hall hJ hG
  have hb := hJ.all rfl
  have hbel := Below.call hbel hb
  have ht2 := there_later ht2 hb
  have HC12 := Lib.hid (show u1 2 = .bool true from hG 2 (by simp))
  have hbel0 := hbel
  clear hJ hG hall hb
  have hx : u1 2 = .bool true := HC12.out
  go_wp2_with fail
  rw [hx]
  clear hx
  go_upto_region 2 with fail
  refine wp_region_turn (fun u => (.slice a n cap :: undef :: u0 0 :: u 2 :: undef :: undef :: undef :: undef :: undef :: undef :: u1 0 :: u1 1 :: .bool true :: u 0 :: undef :: undef :: undef :: undef :: undef :: undef :: undef :: undef :: undef :: undef :: undef :: undef :: undef :: undef :: undef :: undef :: undef :: undef :: undef :: undef :: undef :: undef :: undef :: undef :: undef :: undef :: undef :: undef :: undef :: undef :: undef :: undef :: undef :: undef :: undef :: undef :: undef :: undef :: undef :: undef :: undef :: undef :: undef :: undef :: undef :: undef :: undef :: undef :: undef :: undef :: undef :: undef :: undef :: undef :: undef :: undef :: []).toArray) (Holds [.val rP [Cp.zero], .sto q2 rP [Cp.zero], .oth (fun v => v = .int .i64 12)] W1) (Keep [.val rP [Cp.zero], .sto q2 rP [Cp.zero], .oth (fun v => v = .int .i64 12)] W1) (fun k => ((undef :: undef :: u0 1 :: []) : List Value).getD k undef) ?_ (by rfl) Keep.start (holds_soft (by kernel_rfl)) ?_ ?_
  · intro u i v h
    rcases i with _ | _ | _ | i
    all_goals first | (simp [Act.put, putV]; done) | (exfalso; simp at h; omega)
  · intro hs
    refine ⟨?_, ?_, ?_, trivial⟩
    · exact step_pure hs (wants_none rfl) rfl fun L u W hG hdep => run_build0 rfl (build_P0 W)
    · refine step_storeO q2 20 hs (wants_none rfl) rfl rfl (by kernel_rfl) (fun k hk => ?_) (fun _ => E2.out) (there_lt ht2 (by omega)) ht2 (gives_op 0 rfl (by kernel_rfl) (fun _ => rfl)) tyP rfl
      rcases k with _ | _ | _ | k
      all_goals first | (exact absurd rfl hk) | (intro e; cases e; done)
    · exact step_pureO hs (wants_none rfl) rfl fun L u W hG hdep => ⟨_, run_assign rfl, rfl⟩
  intro L2 u2 W2 hall hJ hG
  have hb : Below w.heap.size W1 W2 := hJ.below (by have := hbel.size; omega) (fun k b hf => by rcases k with _ | _ | _ | k <;> first | (cases hf; done) | (cases hf; omega))
  have hbel := hbel.trans hb
  obtain ⟨_, hs2_1t, hs2_1⟩ := (show _ ∧ W2.there q2 0 20 ∧ HasFs rP W2 q2 0 [Cp.zero] from hG 1 (by simp))
  have HC3 := Lib.hid (show u2 2 = .int .i64 12 from hG 2 (by simp))
  have hbel0 := hbel
  clear hJ hG hall hb
  go_wp2
  exact ret_cell_slot (R := rP) Try.results10 (by exact E2.out) (by exact HC3.out) hs2_1 tyP rfl (fun r hr => ⟨r, rfl, hr, hbel⟩)
set_option maxRecDepth 100000 in
set_option maxHeartbeats 8000000 in
theorem decode_32 {bb q cap : Nat} {l : List UInt8} {o : Bool} (w : World) (hs : sgn l = o) (h : RdB w (some ⟨bb, q, none⟩) 32 cap l) :
    Calls Try.prog 10 #[.slice (some ⟨bb, q, none⟩) 32 cap] w fun e w' => ∃ r, e = .returned (.tuple #[r, .int .i64 (decC l)]) ∧ IsFs rP r [decV l] ∧ Below w.heap.size w w' := by
  have hl := h.hlen
  obtain ⟨b', q', hab, hc0⟩ := h.get 31 (by omega)
  obtain ⟨rfl, rfl⟩ : bb = b' ∧ q = q' := by simpa using hab
  clear hab
  obtain ⟨c, hc⟩ : ∃ c, c = l.getD 31 0 := ⟨_, rfl⟩
  have hc1 : w.cell? ⟨bb, q + 31, none⟩ = some (.int .u8 (c.toNat : Int)) := by
    rw [hc0, hc, List.getD_eq_getElem?_getD, List.getElem?_eq_getElem (by omega)]; rfl
  have HCL := Lib.hid hc1
  have HOB := Lib.hid (odd_bit hl hc.symm hs)
  obtain ⟨d, hd⟩ : ∃ d, c &&& 127 = d := ⟨_, rfl⟩
  have HDB := Lib.hid (clr_bit hd)
  have HK0 : Hid (l.set 31 d = clr l) := Lib.hid (by unfold clr; rw [← hc, hd])
  have HL := Lib.hid hl; have HS := Lib.hid hs; have HCC := Lib.hid hc
  clear hc0 hc1 hc hd hl hs
  go_enter Try.func10, Try.ntmps10
  have hbel : Below w.heap.size w w := Below.refl _ _
  have hbel0 := hbel
  go_upto_region 0 with fail
  refine wp_region_turn (fun u => (.slice (some ⟨bb, q, none⟩) 32 cap :: undef :: u 0 :: u 1 :: undef :: undef :: undef :: undef :: undef :: undef :: undef :: undef :: undef :: undef :: undef :: undef :: undef :: undef :: undef :: undef :: undef :: undef :: undef :: undef :: undef :: undef :: undef :: undef :: undef :: undef :: undef :: undef :: undef :: undef :: undef :: undef :: undef :: undef :: undef :: undef :: undef :: undef :: undef :: undef :: undef :: undef :: undef :: undef :: undef :: undef :: undef :: undef :: undef :: undef :: undef :: undef :: undef :: undef :: undef :: undef :: undef :: undef :: undef :: undef :: undef :: undef :: undef :: undef :: undef :: undef :: []).toArray) (Holds [.new 20, .oth (fun v => v = .int .i64 0)] w) (Keep [.new 20, .oth (fun v => v = .int .i64 0)] w) (fun _ => undef) ?_ (by rfl) Keep.start (holds_soft (by kernel_rfl)) ?_ ?_
  · intro u i v h
    rcases i with _ | _ | i
    all_goals first | (simp [Act.put, putV]; done) | (exfalso; simp at h; omega)
  · intro hs
    refine ⟨?_, ?_, trivial⟩
    · exact step_alloc hs (wants_none rfl) rfl rfl (by omega) rfl allocP
    · exact step_pureO hs (wants_none rfl) rfl fun L u W hG hdep => ⟨_, run_assign rfl, rfl⟩
  intro L0 u0 W0 hall hJ hG
  obtain ⟨q2, e2, hq2, _, ht2⟩ := (show ∃ g, u0 0 = .pointer (some ⟨g, 0, none⟩) ∧ w.heap.size ≤ g ∧ 0 < 20 ∧ W0.there g 0 20 from hG 0 (by simp))
  have hq2 : w.heap.size ≤ q2 := by have := hbel0.size; omega
  have E2 := Lib.hid e2; clear e2
  have hb := hJ.all rfl
  have hbel := Below.call hbel hb
  have HC3 := Lib.hid (show u0 1 = .int .i64 0 from hG 1 (by simp))
  have hbel0 := hbel
  clear hJ hG hall hb
  go_upto_region 1 with fail
  refine wp_region_turn (fun u => (.slice (some ⟨bb, q, none⟩) 32 cap :: undef :: u0 0 :: u0 1 :: undef :: undef :: undef :: undef :: undef :: undef :: u 0 :: u 1 :: u 2 :: undef :: undef :: undef :: undef :: undef :: undef :: undef :: undef :: undef :: undef :: undef :: undef :: undef :: undef :: undef :: undef :: undef :: undef :: undef :: undef :: undef :: undef :: undef :: undef :: undef :: undef :: undef :: undef :: undef :: undef :: undef :: undef :: undef :: undef :: undef :: undef :: undef :: undef :: undef :: undef :: undef :: undef :: undef :: undef :: undef :: undef :: undef :: undef :: undef :: undef :: undef :: undef :: undef :: undef :: undef :: undef :: undef :: []).toArray) (Holds [.oth (fun v => v = .slice (some ⟨bb, q, none⟩) 32 cap), .oth (fun v => v = .int .i64 32), .oth (fun v => v = .bool false)] W0) (Keep [.oth (fun v => v = .slice (some ⟨bb, q, none⟩) 32 cap), .oth (fun v => v = .int .i64 32), .oth (fun v => v = .bool false)] W0) (fun _ => undef) ?_ (by rfl) Keep.start (holds_soft (by kernel_rfl)) ?_ ?_
  · intro u i v h
    rcases i with _ | _ | _ | i
    all_goals first | (simp [Act.put, putV]; done) | (exfalso; simp at h; omega)
  · intro hs
    refine ⟨?_, ?_, ?_, trivial⟩
    · exact step_pureO hs (wants_none rfl) rfl fun L u W hG hdep => ⟨_, run_move rfl, rfl⟩
    · refine step_pureO hs (wants_none rfl) rfl fun L u W hG hdep => ⟨_, ?_, rfl⟩
      have e0 := (show u 0 = .slice (some ⟨bb, q, none⟩) 32 cap from hG 0 (hdep 0 (by kernel_rfl)))
      go_simp
    · refine step_pureO hs (wants_none rfl) rfl fun L u W hG hdep => ⟨_, ?_, rfl⟩
      have e0 := (show u 1 = .int .i64 32 from hG 1 (hdep 1 (by kernel_rfl)))
      go_simp
      try simp [bne]
  intro L1 u1 W1 hall hJ hG
  have hb := hJ.all rfl
  have hbel := Below.call hbel hb
  have ht2 := there_later ht2 hb
  have HC12 := Lib.hid (show u1 2 = .bool false from hG 2 (by simp))
  have hbel0 := hbel
  clear hJ hG hall hb
  have hx : u1 2 = .bool false := HC12.out
  go_wp2_with fail
  rw [hx]
  clear hx
  go_upto_region 3 with fail
  refine wp_region_turn (fun u => (.slice (some ⟨bb, q, none⟩) 32 cap :: undef :: u0 0 :: u0 1 :: u 5 :: undef :: undef :: undef :: undef :: undef :: u1 0 :: u1 1 :: .bool false :: undef :: u 0 :: u 1 :: u 2 :: u 3 :: u 4 :: undef :: undef :: undef :: undef :: undef :: undef :: undef :: undef :: undef :: undef :: undef :: undef :: undef :: undef :: undef :: undef :: undef :: undef :: undef :: undef :: undef :: undef :: undef :: undef :: undef :: undef :: undef :: undef :: undef :: undef :: undef :: undef :: undef :: undef :: undef :: undef :: undef :: undef :: undef :: undef :: undef :: undef :: undef :: undef :: undef :: undef :: undef :: undef :: undef :: undef :: undef :: []).toArray) (Holds [.oth (fun v => v = .slice (some ⟨bb, q, none⟩) 32 cap), .oth (fun v => v = .pointer (some ⟨bb, q + 31, none⟩)), .oth (fun v => v = .int .u8 (c.toNat : Int)), .oth (fun v => v = .int .u8 (bits BinOp.and IntKind.u8 (c.toNat : Int) 128)), .oth (fun v => v = .bool o), .oth (fun v => v = .bool o)] W1) (Keep [.oth (fun v => v = .slice (some ⟨bb, q, none⟩) 32 cap), .oth (fun v => v = .pointer (some ⟨bb, q + 31, none⟩)), .oth (fun v => v = .int .u8 (c.toNat : Int)), .oth (fun v => v = .int .u8 (bits BinOp.and IntKind.u8 (c.toNat : Int) 128)), .oth (fun v => v = .bool o), .oth (fun v => v = .bool o)] W1) (fun _ => undef) ?_ (by rfl) Keep.start (holds_soft (by kernel_rfl)) ?_ ?_
  · intro u i v h
    rcases i with _ | _ | _ | _ | _ | _ | i
    all_goals first | (simp [Act.put, putV]; done) | (exfalso; simp at h; omega)
  · intro hs
    refine ⟨?_, ?_, ?_, ?_, ?_, ?_, trivial⟩
    · exact step_pureO hs (wants_none rfl) rfl fun L u W hG hdep => ⟨_, run_move rfl, rfl⟩
    · refine step_pureO hs (wants_none rfl) rfl fun L u W hG hdep => ⟨_, ?_, rfl⟩
      have e0 := (show u 0 = .slice (some ⟨bb, q, none⟩) 32 cap from hG 0 (hdep 0 (by kernel_rfl)))
      go_simp
    · exact step_cell bb (q + 31) hs (wants_none rfl) rfl rfl (fun _ h => load_u8 h) (fun L u W hG hdep => (show u 1 = .pointer (some ⟨bb, q + 31, none⟩) from hG 1 (hdep 1 (by kernel_rfl)))) (cell_keep HCL.out hbel) (noSto_apart (by kernel_rfl))
    · refine step_pureO hs (wants_none rfl) rfl fun L u W hG hdep => ⟨_, ?_, rfl⟩
      have e0 := (show u 2 = .int .u8 (c.toNat : Int) from hG 2 (hdep 2 (by kernel_rfl)))
      go_simp
    · refine step_pureO hs (wants_none rfl) rfl fun L u W hG hdep => ⟨_, ?_, rfl⟩
      have e0 := (show u 3 = .int .u8 (bits BinOp.and IntKind.u8 (c.toNat : Int) 128) from hG 3 (hdep 3 (by kernel_rfl)))
      have e9 := HOB.out
      go_simp
      try exact e9
    · exact step_pureO hs (wants_none rfl) rfl fun L u W hG hdep => ⟨_, run_assign rfl, (show u 4 = .bool o from hG 4 (hdep 4 (by kernel_rfl)))⟩
  intro L3 u3 W3 hall hJ hG
  have hb := hJ.all rfl
  have hbel := Below.call hbel hb
  have ht2 := there_later ht2 hb
  have HC18 := Lib.hid (show u3 4 = .bool o from hG 4 (by simp))
  have HC4 := Lib.hid (show u3 5 = .bool o from hG 5 (by simp))
  have hbel0 := hbel
  clear hJ hG hall hb
  go_upto_region 5 with (go_at_call 35; go_must (refine (clone_any _ (h.below hbel) (by omega) (by omega)).mono ?_; rintro e W4 ⟨gB, nB, cB, rB, rfl, hgB0, hB, hlB, hcB, hmB, hb⟩))
  rw [HL.out] at hlB
  subst hlB
  have hgB : w.heap.size ≤ gB := by have := hbel.size; omega
  have HE_q2 := Lib.hid (show q2 ≠ gB by have := there_lt ht2 (by omega); omega)
  have ht2 := there_later ht2 hb
  have hbel := Below.call hbel hb
  have hbel0 := hbel
  have HB := Lib.hid hB
  clear hB hb
  have hcell : W4.cell? ⟨gB, 31, none⟩ = some (.int .u8 (c.toNat : Int)) := by rw [HCC.out]; exact at31 HL.out HB.out
  have HCX := Lib.hid hcell; have HCF : Hid (W4.frozen? ⟨gB, 31, none⟩ = false) := Lib.hid (HB.out.frozen 31)
  clear hcell
  go_upto_region 5 with fail
  refine wp_region_turn (fun u => (.slice (some ⟨gB, 0, none⟩) 32 cB :: undef :: u0 0 :: u0 1 :: u3 5 :: undef :: undef :: undef :: undef :: undef :: u1 0 :: u1 1 :: .bool false :: undef :: u3 0 :: u3 1 :: u3 2 :: u3 3 :: u3 4 :: .slice (some ⟨bb, q, none⟩) 32 cap :: .slice (some ⟨gB, 0, none⟩) 32 cB :: u 0 :: u 1 :: u 2 :: u 3 :: u 4 :: undef :: undef :: undef :: undef :: undef :: undef :: undef :: undef :: undef :: undef :: undef :: undef :: undef :: undef :: undef :: undef :: undef :: undef :: undef :: undef :: undef :: undef :: undef :: undef :: undef :: undef :: undef :: undef :: undef :: undef :: undef :: undef :: undef :: undef :: undef :: undef :: undef :: undef :: undef :: undef :: undef :: undef :: undef :: undef :: []).toArray) (Holds [.oth (fun v => v = .slice (some ⟨gB, 0, none⟩) 32 cB), .oth (fun v => v = .pointer (some ⟨gB, 31, none⟩)), .oth (fun v => v = .int .u8 (c.toNat : Int)), .oth (fun v => v = .int .u8 (d.toNat : Int)), .oth (fun v => v = .pointer (some ⟨gB, 31, none⟩)), .cst gB 31 (.int .u8 (d.toNat : Int))] W4) (Keep [.oth (fun v => v = .slice (some ⟨gB, 0, none⟩) 32 cB), .oth (fun v => v = .pointer (some ⟨gB, 31, none⟩)), .oth (fun v => v = .int .u8 (c.toNat : Int)), .oth (fun v => v = .int .u8 (d.toNat : Int)), .oth (fun v => v = .pointer (some ⟨gB, 31, none⟩)), .cst gB 31 (.int .u8 (d.toNat : Int))] W4) (fun _ => undef) ?_ (by rfl) Keep.start (holds_soft (by kernel_rfl)) ?_ ?_
  · intro u i v h
    rcases i with _ | _ | _ | _ | _ | _ | i
    all_goals first | (simp [Act.put, putV]; done) | (exfalso; simp at h; omega)
  · intro hs
    refine ⟨?_, ?_, ?_, ?_, ?_, ?_, trivial⟩
    · exact step_pureO hs (wants_none rfl) rfl fun L u W hG hdep => ⟨_, run_move rfl, rfl⟩
    · refine step_pureO hs (wants_none rfl) rfl fun L u W hG hdep => ⟨_, ?_, rfl⟩
      have e0 := (show u 0 = .slice (some ⟨gB, 0, none⟩) 32 cB from hG 0 (hdep 0 (by kernel_rfl)))
      go_simp
    · exact step_cell gB 31 hs (wants_none rfl) rfl rfl (fun _ h => load_u8 h) (fun L u W hG hdep => (show u 1 = .pointer (some ⟨gB, 31, none⟩) from hG 1 (hdep 1 (by kernel_rfl)))) HCX.out (fun k g hk => by rcases k with _ | _ | _ | _ | _ | _ | k <;> first | (cases hk; done) | (cases hk; exact .inl (by kernel_rfl)))
    · refine step_pureO hs (wants_none rfl) rfl fun L u W hG hdep => ⟨_, ?_, rfl⟩
      have e0 := (show u 2 = .int .u8 (c.toNat : Int) from hG 2 (hdep 2 (by kernel_rfl)))
      have e9 := HDB.out
      go_simp
    · refine step_pureO hs (wants_none rfl) rfl fun L u W hG hdep => ⟨_, ?_, rfl⟩
      have e0 := (show u 0 = .slice (some ⟨gB, 0, none⟩) 32 cB from hG 0 (hdep 0 (by kernel_rfl)))
      go_simp
    · refine step_cst (old := .int .u8 (c.toNat : Int)) gB 31 hs (wants_none rfl) rfl rfl (by kernel_rfl) (fun k hk => ?_) (fun _ h1 h2 => store_u8 h1 h2) (fun L u W hG hdep => (show u 4 = .pointer (some ⟨gB, 31, none⟩) from hG 4 (hdep 4 (by kernel_rfl)))) (fun L u W hG hdep => (show u 3 = .int .u8 (d.toNat : Int) from hG 3 (hdep 3 (by kernel_rfl)))) HCX.out HCF.out
      rcases k with _ | _ | _ | _ | _ | _ | k
      all_goals first | (exact absurd rfl hk) | (intro e; cases e; done)
  intro L5 u5 W5 hall hJ hG
  have hb : Below w.heap.size W4 W5 := hJ.below (by have := hbel.size; omega) (fun k b hf => by rcases k with _ | _ | _ | _ | _ | _ | k <;> first | (cases hf; done) | (cases hf; omega))
  have hbel := hbel.trans hb
  have ht2 := there_blk ht2 (hJ.block _ (there_lt ht2 (by omega)) (fun k hk => by rcases k with _ | _ | _ | _ | _ | _ | k <;> first | (cases hk; done) | (cases hk; exact absurd rfl (Ne.symm HE_q2.out))))
  have HB := Lib.hid (blk_keep (HB.out.set 31 (.int .u8 (d.toNat : Int))) (show _ ∧ W5.heap[gB]? = (W4.setCell ⟨gB, 31, none⟩ (.int .u8 (d.toNat : Int))).heap[gB]? from hG 5 (by simp)).2)
  have hbel0 := hbel
  clear hJ hG hall hb
  have HKB : Hid (Blk W5 gB ((clr l).map bV ++ rB) 5) := Lib.hid (by rw [← HK0.out, ← set31 HL.out]; exact HB.out)
  clear HB HCX HCF HK0 HDB HOB HCL HCC
  have HKL : Hid ((clr l).length = 32) := Lib.hid (by rw [clr_len]; exact HL.out)
  by_cases hlow : lowN l < Pq
  rotate_left
  · have HLW := Lib.hid hlow; clear hlow
    have HC2 := Lib.hid (stC_no HL.out HLW.out)
    generalize clr l = K at *
    go_upto_region 6 with fail
    refine wp_region_turn (fun u => (.slice (some ⟨gB, 0, none⟩) 32 cB :: undef :: u0 0 :: u0 1 :: u3 5 :: u 5 :: u 7 :: undef :: undef :: undef :: u1 0 :: u1 1 :: .bool false :: undef :: u3 0 :: u3 1 :: u3 2 :: u3 3 :: u3 4 :: .slice (some ⟨bb, q, none⟩) 32 cap :: .slice (some ⟨gB, 0, none⟩) 32 cB :: u5 0 :: u5 1 :: u5 2 :: u5 3 :: u5 4 :: u 2 :: u 0 :: u 1 :: u 3 :: u 4 :: undef :: undef :: undef :: undef :: undef :: undef :: undef :: undef :: undef :: undef :: undef :: undef :: undef :: undef :: undef :: undef :: undef :: undef :: undef :: undef :: undef :: undef :: undef :: undef :: undef :: undef :: undef :: undef :: undef :: undef :: undef :: undef :: undef :: undef :: undef :: undef :: undef :: undef :: undef :: []).toArray) (Holds [.oth (fun v => v = .slice (some ⟨gB, 0, none⟩) 32 cB), .oth (fun v => IsTV rE v [stV K] (.int .i64 2)), .oth (fun v => IsTV rE v [stV K] (.int .i64 2)), .val rE [stV K], .oth (fun v => v = .int .i64 2), .new 5, .st 5 rE [stV K], .oth (fun v => v = .int .i64 2)] W5) (Keep [.oth (fun v => v = .slice (some ⟨gB, 0, none⟩) 32 cB), .oth (fun v => IsTV rE v [stV K] (.int .i64 2)), .oth (fun v => IsTV rE v [stV K] (.int .i64 2)), .val rE [stV K], .oth (fun v => v = .int .i64 2), .new 5, .st 5 rE [stV K], .oth (fun v => v = .int .i64 2)] W5) (fun _ => undef) ?_ (by rfl) Keep.start (holds_soft (by kernel_rfl)) ?_ ?_
    · intro u i v h
      rcases i with _ | _ | _ | _ | _ | _ | _ | _ | i
      all_goals first | (simp [Act.put, putV]; done) | (exfalso; simp at h; omega)
    · intro hs
      refine ⟨?_, ?_, ?_, ?_, ?_, ?_, ?_, ?_, trivial⟩
      · exact step_pureO hs (wants_none rfl) rfl fun L u W hG hdep => ⟨_, run_move rfl, rfl⟩
      · refine step_callO hs (wants_none rfl) rfl fun L u W hJ hG hL hdep K hK => ?_
        have x0 := (show u 0 = .slice (some ⟨gB, 0, none⟩) 32 cB from hG 0 (hdep 0 (by kernel_rfl)))
        have hRB0 := (RdB.blk rB HKB.out HKL.out hcB hmB).below (hJ.all rfl)
        go_simp
        go_at_call 36
        (with_reducible refine (cStrict' rfl HC2.out hRB0).mono ?_); rintro e w1 ⟨r, rfl, hr, hb⟩
        have hk := hK.out _ _ ⟨r, rfl, hr⟩ hb
        simp only [x0] at hk
        exact hk
      · exact step_pureO hs (wants_none rfl) rfl fun L u W hG hdep => ⟨_, run_move rfl, (show IsTV rE (u 1) [stV K] (.int .i64 2) from hG 1 (hdep 1 (by kernel_rfl)))⟩
      · exact step_pure hs (wants_none rfl) rfl fun L u W hG hdep => run_extractV0 rfl (show IsTV rE (u 2) [stV K] (.int .i64 2) from hG 2 (hdep 2 (by kernel_rfl)))
      · exact step_pureO hs (wants_none rfl) rfl fun L u W hG hdep => run_extractV1 rfl (show IsTV rE (u 2) [stV K] (.int .i64 2) from hG 2 (hdep 2 (by kernel_rfl)))
      · exact step_alloc hs (wants_none rfl) rfl rfl (by omega) rfl allocE
      · exact step_store 5 hs (by kernel_rfl) (wants_none rfl) rfl rfl rfl (by kernel_rfl) (by kernel_rfl) (by kernel_rfl) (by kernel_rfl) (fun _ => rfl) (gives_op 3 rfl (by kernel_rfl) (fun _ => rfl)) tyE rfl
      · exact step_pureO hs (wants_none rfl) rfl fun L u W hG hdep => ⟨_, run_assign rfl, (show u 4 = .int .i64 2 from hG 4 (hdep 4 (by kernel_rfl)))⟩
    intro L6 u6a W6a hall hJ hG
    obtain ⟨q5, e5, hq5, _, ht5⟩ := (show ∃ g, u6a 5 = .pointer (some ⟨g, 0, none⟩) ∧ W5.heap.size ≤ g ∧ 0 < 5 ∧ W6a.there g 0 5 from hG 5 (by simp))
    have hm5 : HasFs rE W6a q5 0 [stV K] := by
      obtain ⟨g, e, _, h⟩ := (show ∃ g, u6a 5 = .pointer (some ⟨g, 0, none⟩) ∧ W5.heap.size ≤ g ∧ HasFs rE W6a g 0 [stV K] from hG 6 (by simp))
      rw [e5] at e; cases e; exact h
    have HD5_q2 := Lib.hid (show q2 ≠ q5 by have := there_lt ht2 (by omega); omega)
    have hq5 : w.heap.size ≤ q5 := by have := hbel0.size; omega
    have E5 := Lib.hid e5; clear e5
    have hb := hJ.all rfl
    have hbel := Below.call hbel hb
    have ht2 := there_later ht2 hb
    have HKB := Lib.hid (HKB.out.below' hb)
    have HC6 := Lib.hid (show u6a 7 = .int .i64 2 from hG 7 (by simp))
    have hbel0 := hbel
    clear hJ hG hall hb
    go_upto_region 7 with fail
    refine wp_region_turn (fun u => (.slice (some ⟨gB, 0, none⟩) 32 cB :: undef :: u0 0 :: u0 1 :: u3 5 :: u6a 5 :: u6a 7 :: undef :: undef :: undef :: u1 0 :: u1 1 :: .bool false :: undef :: u3 0 :: u3 1 :: u3 2 :: u3 3 :: u3 4 :: .slice (some ⟨bb, q, none⟩) 32 cap :: .slice (some ⟨gB, 0, none⟩) 32 cB :: u5 0 :: u5 1 :: u5 2 :: u5 3 :: u5 4 :: u6a 2 :: u6a 0 :: u6a 1 :: u6a 3 :: u6a 4 :: u 0 :: u 1 :: undef :: undef :: undef :: undef :: undef :: undef :: undef :: undef :: undef :: undef :: undef :: undef :: undef :: undef :: undef :: undef :: undef :: undef :: undef :: undef :: undef :: undef :: undef :: undef :: undef :: undef :: undef :: undef :: undef :: undef :: undef :: undef :: undef :: undef :: undef :: undef :: undef :: []).toArray) (Holds [.oth (fun v => v = .int .i64 2), .oth (fun v => v = .bool true)] W6a) (Keep [.oth (fun v => v = .int .i64 2), .oth (fun v => v = .bool true)] W6a) (fun _ => undef) ?_ (by rfl) Keep.start (holds_soft (by kernel_rfl)) ?_ ?_
    · intro u i v h
      rcases i with _ | _ | i
      all_goals first | (simp [Act.put, putV]; done) | (exfalso; simp at h; omega)
    · intro hs
      refine ⟨?_, ?_, trivial⟩
      · exact step_pureO hs (wants_none rfl) rfl fun L u W hG hdep => ⟨_, run_move rfl, HC6.out⟩
      · refine step_pureO hs (wants_none rfl) rfl fun L u W hG hdep => ⟨_, ?_, rfl⟩
        have e0 := (show u 0 = .int .i64 2 from hG 0 (hdep 0 (by kernel_rfl)))
        go_simp
        try simp [bne]
    intro L7 u7a W7a hall hJ hG
    have hb := hJ.all rfl
    have hbel := Below.call hbel hb
    have hm5 := hm5.later hb
    have ht2 := there_later ht2 hb
    have ht5 := there_later ht5 hb
    have HKB := Lib.hid (HKB.out.below' hb)
    have HC32 := Lib.hid (show u7a 1 = .bool true from hG 1 (by simp))
    have hbel0 := hbel
    clear hJ hG hall hb
    have hx : u7a 1 = .bool true := HC32.out
    go_wp2_with fail
    rw [hx]
    clear hx
    go_upto_region 8 with fail
    refine wp_region_turn (fun u => (.slice (some ⟨gB, 0, none⟩) 32 cB :: undef :: u0 0 :: u 2 :: u3 5 :: u6a 5 :: u6a 7 :: undef :: undef :: undef :: u1 0 :: u1 1 :: .bool false :: undef :: u3 0 :: u3 1 :: u3 2 :: u3 3 :: u3 4 :: .slice (some ⟨bb, q, none⟩) 32 cap :: .slice (some ⟨gB, 0, none⟩) 32 cB :: u5 0 :: u5 1 :: u5 2 :: u5 3 :: u5 4 :: u6a 2 :: u6a 0 :: u6a 1 :: u6a 3 :: u6a 4 :: u7a 0 :: .bool true :: u 0 :: undef :: undef :: undef :: undef :: undef :: undef :: undef :: undef :: undef :: undef :: undef :: undef :: undef :: undef :: undef :: undef :: undef :: undef :: undef :: undef :: undef :: undef :: undef :: undef :: undef :: undef :: undef :: undef :: undef :: undef :: undef :: undef :: undef :: undef :: undef :: undef :: []).toArray) (Holds [.val rP [Cp.zero], .sto q2 rP [Cp.zero], .oth (fun v => v = .int .i64 12)] W7a) (Keep [.val rP [Cp.zero], .sto q2 rP [Cp.zero], .oth (fun v => v = .int .i64 12)] W7a) (fun k => ((undef :: undef :: u0 1 :: []) : List Value).getD k undef) ?_ (by rfl) Keep.start (holds_soft (by kernel_rfl)) ?_ ?_
    · intro u i v h
      rcases i with _ | _ | _ | i
      all_goals first | (simp [Act.put, putV]; done) | (exfalso; simp at h; omega)
    · intro hs
      refine ⟨?_, ?_, ?_, trivial⟩
      · exact step_pure hs (wants_none rfl) rfl fun L u W hG hdep => run_build0 rfl (build_P0 W)
      · refine step_storeO q2 20 hs (wants_none rfl) rfl rfl (by kernel_rfl) (fun k hk => ?_) (fun _ => E2.out) (there_lt ht2 (by omega)) ht2 (gives_op 0 rfl (by kernel_rfl) (fun _ => rfl)) tyP rfl
        rcases k with _ | _ | _ | k
        all_goals first | (exact absurd rfl hk) | (intro e; cases e; done)
      · exact step_pureO hs (wants_none rfl) rfl fun L u W hG hdep => ⟨_, run_assign rfl, rfl⟩
    intro L8 u8a W8a hall hJ hG
    have hb : Below w.heap.size W7a W8a := hJ.below (by have := hbel.size; omega) (fun k b hf => by rcases k with _ | _ | _ | k <;> first | (cases hf; done) | (cases hf; omega))
    have hbel := hbel.trans hb
    have hm5 := hm5.blk (hJ.block _ (hm5.lt) (fun k hk => by rcases k with _ | _ | _ | k <;> first | (cases hk; done) | (cases hk; exact absurd rfl HD5_q2.out)))
    have ht5 := there_blk ht5 (hJ.block _ (there_lt ht5 (by omega)) (fun k hk => by rcases k with _ | _ | _ | k <;> first | (cases hk; done) | (cases hk; exact absurd rfl HD5_q2.out)))
    have HKB := Lib.hid (blk_keep HKB.out (hJ.block _ (HKB.out.lt) (fun k hk => by rcases k with _ | _ | _ | k <;> first | (cases hk; done) | (cases hk; exact absurd rfl HE_q2.out))))
    obtain ⟨_, hs8_1t, hs8_1⟩ := (show _ ∧ W8a.there q2 0 20 ∧ HasFs rP W8a q2 0 [Cp.zero] from hG 1 (by simp))
    have HC3 := Lib.hid (show u8a 2 = .int .i64 12 from hG 2 (by simp))
    have hbel0 := hbel
    clear hJ hG hall hb
    go_wp2
    exact ret_cell_slot (R := rP) Try.results10 (by exact E2.out) (by exact HC3.out) hs8_1 tyP rfl (fun r hr => ⟨r, by rw [(dec_big HLW.out).2], by rw [(dec_big HLW.out).1]; exact hr, hbel⟩)
  · have HLW := Lib.hid hlow; clear hlow
    have HC2 := Lib.hid (stC_clr HL.out HLW.out)
    have HV0 := Lib.hid (stV_clr HL.out HLW.out)
    generalize clr l = K at *
    generalize hy : fn (lowN l) = y at *
    have HY := Lib.hid hy; clear hy
    go_upto_region 6 with fail
    refine wp_region_turn (fun u => (.slice (some ⟨gB, 0, none⟩) 32 cB :: undef :: u0 0 :: u0 1 :: u3 5 :: u 5 :: u 7 :: undef :: undef :: undef :: u1 0 :: u1 1 :: .bool false :: undef :: u3 0 :: u3 1 :: u3 2 :: u3 3 :: u3 4 :: .slice (some ⟨bb, q, none⟩) 32 cap :: .slice (some ⟨gB, 0, none⟩) 32 cB :: u5 0 :: u5 1 :: u5 2 :: u5 3 :: u5 4 :: u 2 :: u 0 :: u 1 :: u 3 :: u 4 :: undef :: undef :: undef :: undef :: undef :: undef :: undef :: undef :: undef :: undef :: undef :: undef :: undef :: undef :: undef :: undef :: undef :: undef :: undef :: undef :: undef :: undef :: undef :: undef :: undef :: undef :: undef :: undef :: undef :: undef :: undef :: undef :: undef :: undef :: undef :: undef :: undef :: undef :: undef :: []).toArray) (Holds [.oth (fun v => v = .slice (some ⟨gB, 0, none⟩) 32 cB), .oth (fun v => IsTV rE v [y] (.int .i64 0)), .oth (fun v => IsTV rE v [y] (.int .i64 0)), .val rE [y], .oth (fun v => v = .int .i64 0), .new 5, .st 5 rE [y], .oth (fun v => v = .int .i64 0)] W5) (Keep [.oth (fun v => v = .slice (some ⟨gB, 0, none⟩) 32 cB), .oth (fun v => IsTV rE v [y] (.int .i64 0)), .oth (fun v => IsTV rE v [y] (.int .i64 0)), .val rE [y], .oth (fun v => v = .int .i64 0), .new 5, .st 5 rE [y], .oth (fun v => v = .int .i64 0)] W5) (fun _ => undef) ?_ (by rfl) Keep.start (holds_soft (by kernel_rfl)) ?_ ?_
    · intro u i v h
      rcases i with _ | _ | _ | _ | _ | _ | _ | _ | i
      all_goals first | (simp [Act.put, putV]; done) | (exfalso; simp at h; omega)
    · intro hs
      refine ⟨?_, ?_, ?_, ?_, ?_, ?_, ?_, ?_, trivial⟩
      · exact step_pureO hs (wants_none rfl) rfl fun L u W hG hdep => ⟨_, run_move rfl, rfl⟩
      · refine step_callO hs (wants_none rfl) rfl fun L u W hJ hG hL hdep K hK => ?_
        have x0 := (show u 0 = .slice (some ⟨gB, 0, none⟩) 32 cB from hG 0 (hdep 0 (by kernel_rfl)))
        have hRB0 := (RdB.blk rB HKB.out HKL.out hcB hmB).below (hJ.all rfl)
        go_simp
        go_at_call 36
        (with_reducible refine (cStrict' HV0.out HC2.out hRB0).mono ?_); rintro e w1 ⟨r, rfl, hr, hb⟩
        have hk := hK.out _ _ ⟨r, rfl, hr⟩ hb
        simp only [x0] at hk
        exact hk
      · exact step_pureO hs (wants_none rfl) rfl fun L u W hG hdep => ⟨_, run_move rfl, (show IsTV rE (u 1) [y] (.int .i64 0) from hG 1 (hdep 1 (by kernel_rfl)))⟩
      · exact step_pure hs (wants_none rfl) rfl fun L u W hG hdep => run_extractV0 rfl (show IsTV rE (u 2) [y] (.int .i64 0) from hG 2 (hdep 2 (by kernel_rfl)))
      · exact step_pureO hs (wants_none rfl) rfl fun L u W hG hdep => run_extractV1 rfl (show IsTV rE (u 2) [y] (.int .i64 0) from hG 2 (hdep 2 (by kernel_rfl)))
      · exact step_alloc hs (wants_none rfl) rfl rfl (by omega) rfl allocE
      · exact step_store 5 hs (by kernel_rfl) (wants_none rfl) rfl rfl rfl (by kernel_rfl) (by kernel_rfl) (by kernel_rfl) (by kernel_rfl) (fun _ => rfl) (gives_op 3 rfl (by kernel_rfl) (fun _ => rfl)) tyE rfl
      · exact step_pureO hs (wants_none rfl) rfl fun L u W hG hdep => ⟨_, run_assign rfl, (show u 4 = .int .i64 0 from hG 4 (hdep 4 (by kernel_rfl)))⟩
    intro L6 u6b W6b hall hJ hG
    obtain ⟨q5, e5, hq5, _, ht5⟩ := (show ∃ g, u6b 5 = .pointer (some ⟨g, 0, none⟩) ∧ W5.heap.size ≤ g ∧ 0 < 5 ∧ W6b.there g 0 5 from hG 5 (by simp))
    have hm5 : HasFs rE W6b q5 0 [y] := by
      obtain ⟨g, e, _, h⟩ := (show ∃ g, u6b 5 = .pointer (some ⟨g, 0, none⟩) ∧ W5.heap.size ≤ g ∧ HasFs rE W6b g 0 [y] from hG 6 (by simp))
      rw [e5] at e; cases e; exact h
    have HD5_q2 := Lib.hid (show q2 ≠ q5 by have := there_lt ht2 (by omega); omega)
    have hq5 : w.heap.size ≤ q5 := by have := hbel0.size; omega
    have E5 := Lib.hid e5; clear e5
    have hb := hJ.all rfl
    have hbel := Below.call hbel hb
    have ht2 := there_later ht2 hb
    have HKB := Lib.hid (HKB.out.below' hb)
    have HC6 := Lib.hid (show u6b 7 = .int .i64 0 from hG 7 (by simp))
    have hbel0 := hbel
    clear hJ hG hall hb
    go_upto_region 7 with fail
    refine wp_region_turn (fun u => (.slice (some ⟨gB, 0, none⟩) 32 cB :: undef :: u0 0 :: u0 1 :: u3 5 :: u6b 5 :: u6b 7 :: undef :: undef :: undef :: u1 0 :: u1 1 :: .bool false :: undef :: u3 0 :: u3 1 :: u3 2 :: u3 3 :: u3 4 :: .slice (some ⟨bb, q, none⟩) 32 cap :: .slice (some ⟨gB, 0, none⟩) 32 cB :: u5 0 :: u5 1 :: u5 2 :: u5 3 :: u5 4 :: u6b 2 :: u6b 0 :: u6b 1 :: u6b 3 :: u6b 4 :: u 0 :: u 1 :: undef :: undef :: undef :: undef :: undef :: undef :: undef :: undef :: undef :: undef :: undef :: undef :: undef :: undef :: undef :: undef :: undef :: undef :: undef :: undef :: undef :: undef :: undef :: undef :: undef :: undef :: undef :: undef :: undef :: undef :: undef :: undef :: undef :: undef :: undef :: undef :: undef :: []).toArray) (Holds [.oth (fun v => v = .int .i64 0), .oth (fun v => v = .bool false)] W6b) (Keep [.oth (fun v => v = .int .i64 0), .oth (fun v => v = .bool false)] W6b) (fun _ => undef) ?_ (by rfl) Keep.start (holds_soft (by kernel_rfl)) ?_ ?_
    · intro u i v h
      rcases i with _ | _ | i
      all_goals first | (simp [Act.put, putV]; done) | (exfalso; simp at h; omega)
    · intro hs
      refine ⟨?_, ?_, trivial⟩
      · exact step_pureO hs (wants_none rfl) rfl fun L u W hG hdep => ⟨_, run_move rfl, HC6.out⟩
      · refine step_pureO hs (wants_none rfl) rfl fun L u W hG hdep => ⟨_, ?_, rfl⟩
        have e0 := (show u 0 = .int .i64 0 from hG 0 (hdep 0 (by kernel_rfl)))
        go_simp
        try simp [bne]
    intro L7 u7b W7b hall hJ hG
    have hb := hJ.all rfl
    have hbel := Below.call hbel hb
    have hm5 := hm5.later hb
    have ht2 := there_later ht2 hb
    have ht5 := there_later ht5 hb
    have HKB := Lib.hid (HKB.out.below' hb)
    have HC32 := Lib.hid (show u7b 1 = .bool false from hG 1 (by simp))
    have hbel0 := hbel
    clear hJ hG hall hb
    have hx : u7b 1 = .bool false := HC32.out
    go_wp2_with fail
    rw [hx]
    clear hx
    go_upto_region 9 with fail
    refine wp_region_mid (fun u => (.slice (some ⟨gB, 0, none⟩) 32 cB :: undef :: u0 0 :: u0 1 :: u3 5 :: u6b 5 :: u6b 7 :: u 4 :: u 5 :: undef :: u1 0 :: u1 1 :: .bool false :: undef :: u3 0 :: u3 1 :: u3 2 :: u3 3 :: u3 4 :: .slice (some ⟨bb, q, none⟩) 32 cap :: .slice (some ⟨gB, 0, none⟩) 32 cB :: u5 0 :: u5 1 :: u5 2 :: u5 3 :: u5 4 :: u6b 2 :: u6b 0 :: u6b 1 :: u6b 3 :: u6b 4 :: u7b 0 :: .bool false :: undef :: u 0 :: u 1 :: u 2 :: u 3 :: undef :: undef :: undef :: undef :: undef :: undef :: undef :: undef :: undef :: undef :: undef :: undef :: undef :: undef :: undef :: undef :: undef :: undef :: undef :: undef :: undef :: undef :: undef :: undef :: undef :: undef :: undef :: undef :: undef :: undef :: undef :: undef :: []).toArray) (Holds [.val rE [fn 1], .val rE [y], .val rE [y], .val rE [y * y], .new 5, .new 5, .st 4 rE [fn 1], .st 5 rE [y * y]] W7b) (Keep [.val rE [fn 1], .val rE [y], .val rE [y], .val rE [y * y], .new 5, .new 5, .st 4 rE [fn 1], .st 5 rE [y * y]] W7b) (fun _ => undef) (by kernel_rfl) (by kernel_rfl) ?_ (by rfl) Keep.drew (holds_soft (by kernel_rfl)) ?_ ?_
    · intro u i v h
      rcases i with _ | _ | _ | _ | _ | _ | _ | _ | i
      all_goals first | (simp [Act.put, putV]; done) | (exfalso; simp at h; omega)
    · intro hs
      refine ⟨?_, ?_, ?_, ?_, ?_, ?_, ?_, ?_, trivial⟩
      · refine step_call hs (wants_none rfl) rfl fun L u W hJ hG hL hdep K hK => ?_
        go_simp
        go_at_call 37
        (with_reducible refine (cSmallI (n := 1) (z := 1) rfl (by omega) _).mono ?_); rintro e w1 ⟨r, rfl, hr, hb⟩
        have hk := hK.out _ _ hr hb
        exact hk
      · exact step_load q5 0 hs (wants_none rfl) rfl rfl tyE (fun _ => E5.out) hm5.lt hm5 (noSto_apart (by kernel_rfl))
      · exact step_load q5 0 hs (wants_none rfl) rfl rfl tyE (fun _ => E5.out) hm5.lt hm5 (noSto_apart (by kernel_rfl))
      · refine step_call hs (wants_none rfl) rfl fun L u W hJ hG hL hdep K hK => ?_
        have a0 := (show IsFs rE (u 1) [y] from hG 1 (hdep 1 (by kernel_rfl)))
        have a1 := (show IsFs rE (u 2) [y] from hG 2 (hdep 2 (by kernel_rfl)))
        go_simp
        go_at_call 38
        (with_reducible refine (cMul a0 a1 _).mono ?_); rintro e w1 ⟨r, rfl, hr, hb⟩
        have hk := hK.out _ _ hr hb
        exact hk
      · exact step_alloc hs (wants_none rfl) rfl rfl (by omega) rfl allocE
      · exact step_alloc hs (wants_none rfl) rfl rfl (by omega) rfl allocE
      · exact step_store 4 hs (by kernel_rfl) (wants_none rfl) rfl rfl rfl (by kernel_rfl) (by kernel_rfl) (by kernel_rfl) (by kernel_rfl) (fun _ => rfl) (gives_op 0 rfl (by kernel_rfl) (fun _ => rfl)) tyE rfl
      · exact step_store 5 hs (by kernel_rfl) (wants_none rfl) rfl rfl rfl (by kernel_rfl) (by kernel_rfl) (by kernel_rfl) (by kernel_rfl) (fun _ => rfl) (gives_op 3 rfl (by kernel_rfl) (fun _ => rfl)) tyE rfl
    intro L9 u9b W9b hall hJ hG
    obtain ⟨q7, e7, hq7, _, ht7⟩ := (show ∃ g, u9b 4 = .pointer (some ⟨g, 0, none⟩) ∧ W7b.heap.size ≤ g ∧ 0 < 5 ∧ W9b.there g 0 5 from hG 4 (by simp))
    have hm7 : HasFs rE W9b q7 0 [fn 1] := by
      obtain ⟨g, e, _, h⟩ := (show ∃ g, u9b 4 = .pointer (some ⟨g, 0, none⟩) ∧ W7b.heap.size ≤ g ∧ HasFs rE W9b g 0 [fn 1] from hG 6 (by simp))
      rw [e7] at e; cases e; exact h
    have HD7_q2 := Lib.hid (show q2 ≠ q7 by have := there_lt ht2 (by omega); omega)
    have HD7_q5 := Lib.hid (show q5 ≠ q7 by have := there_lt ht5 (by omega); omega)
    have hq7 : w.heap.size ≤ q7 := by have := hbel0.size; omega
    have E7 := Lib.hid e7; clear e7
    obtain ⟨q8, e8, hq8, _, ht8⟩ := (show ∃ g, u9b 5 = .pointer (some ⟨g, 0, none⟩) ∧ W7b.heap.size ≤ g ∧ 0 < 5 ∧ W9b.there g 0 5 from hG 5 (by simp))
    have hm8 : HasFs rE W9b q8 0 [y * y] := by
      obtain ⟨g, e, _, h⟩ := (show ∃ g, u9b 5 = .pointer (some ⟨g, 0, none⟩) ∧ W7b.heap.size ≤ g ∧ HasFs rE W9b g 0 [y * y] from hG 7 (by simp))
      rw [e8] at e; cases e; exact h
    have HD8_q2 := Lib.hid (show q2 ≠ q8 by have := there_lt ht2 (by omega); omega)
    have HD8_q5 := Lib.hid (show q5 ≠ q8 by have := there_lt ht5 (by omega); omega)
    have hq8 : w.heap.size ≤ q8 := by have := hbel0.size; omega
    have E8 := Lib.hid e8; clear e8
    have hb := hJ.all rfl
    have hbel := Below.call hbel hb
    have hm5 := hm5.later hb
    have ht2 := there_later ht2 hb
    have ht5 := there_later ht5 hb
    have HKB := Lib.hid (HKB.out.below' hb)
    have HN7_8 := Lib.hid (show q7 ≠ q8 from fun e => hJ.apart 4 5 _ (by omega) (hall _ (by simp)) (hall _ (by simp)) rfl rfl (E7.out.trans (by rw [e])) E8.out)
    have hbel0 := hbel
    clear hJ hG hall hb
    obtain ⟨X, hX⟩ : ∃ X, rootV (xx y) = X := ⟨_, rfl⟩
    have HX := Lib.hid hX; clear hX
    by_cases hrc : rootC (xx y) = 0
    rotate_left
    · have HR7 := Lib.hid hrc; have HRC := Lib.hid (root_7 hrc); clear hrc
      go_upto_region 10 with fail
      refine wp_region_mid (fun u => (.slice (some ⟨gB, 0, none⟩) 32 cB :: undef :: u0 0 :: u0 1 :: u3 5 :: u6b 5 :: u 16 :: u9b 4 :: u9b 5 :: u 14 :: u1 0 :: u1 1 :: .bool false :: undef :: u3 0 :: u3 1 :: u3 2 :: u3 3 :: u3 4 :: .slice (some ⟨bb, q, none⟩) 32 cap :: .slice (some ⟨gB, 0, none⟩) 32 cB :: u5 0 :: u5 1 :: u5 2 :: u5 3 :: u5 4 :: u6b 2 :: u6b 0 :: u6b 1 :: u6b 3 :: u6b 4 :: u7b 0 :: .bool false :: undef :: u9b 0 :: u9b 1 :: u9b 2 :: u9b 3 :: u 11 :: u 0 :: u 1 :: u 2 :: u 3 :: u 4 :: u 5 :: u 6 :: u 7 :: u 8 :: u 9 :: u 10 :: u 12 :: u 13 :: undef :: undef :: undef :: undef :: undef :: undef :: undef :: undef :: undef :: undef :: undef :: undef :: undef :: undef :: undef :: undef :: undef :: undef :: []).toArray) (Holds [.val rE [y * y], .val rE [fn 1], .val rE [(y * y) - (fn 1)], .val rE [y * y], .val rE [dE], .val rE [(y * y) * dE], .val rE [fn 1], .val rE [((y * y) * dE) + (fn 1)], .val rE [finv (((y * y) * dE) + (fn 1))], .val rE [((y * y) - (fn 1)) * (finv (((y * y) * dE) + (fn 1)))], .oth (fun v => IsTV rE v [X] (.int .i64 7)), .oth (fun v => IsTV rE v [X] (.int .i64 7)), .val rE [X], .oth (fun v => v = .int .i64 7), .new 5, .st 14 rE [X], .oth (fun v => v = .int .i64 7)] W9b) (Keep [.val rE [y * y], .val rE [fn 1], .val rE [(y * y) - (fn 1)], .val rE [y * y], .val rE [dE], .val rE [(y * y) * dE], .val rE [fn 1], .val rE [((y * y) * dE) + (fn 1)], .val rE [finv (((y * y) * dE) + (fn 1))], .val rE [((y * y) - (fn 1)) * (finv (((y * y) * dE) + (fn 1)))], .oth (fun v => IsTV rE v [X] (.int .i64 7)), .oth (fun v => IsTV rE v [X] (.int .i64 7)), .val rE [X], .oth (fun v => v = .int .i64 7), .new 5, .st 14 rE [X], .oth (fun v => v = .int .i64 7)] W9b) (fun k => ((undef :: undef :: undef :: undef :: undef :: undef :: undef :: undef :: undef :: undef :: undef :: undef :: undef :: undef :: undef :: undef :: u6b 7 :: []) : List Value).getD k undef) (by kernel_rfl) (by kernel_rfl) ?_ (by rfl) Keep.drew (holds_soft (by kernel_rfl)) ?_ ?_
      · intro u i v h
        rcases i with _ | _ | _ | _ | _ | _ | _ | _ | _ | _ | _ | _ | _ | _ | _ | _ | _ | i
        all_goals first | (simp [Act.put, putV]; done) | (exfalso; simp at h; omega)
      · intro hs
        refine ⟨?_, ?_, ?_, ?_, ?_, ?_, ?_, ?_, ?_, ?_, ?_, ?_, ?_, ?_, ?_, ?_, ?_, trivial⟩
        · exact step_load q8 0 hs (wants_none rfl) rfl rfl tyE (fun _ => E8.out) hm8.lt hm8 (noSto_apart (by kernel_rfl))
        · exact step_load q7 0 hs (wants_none rfl) rfl rfl tyE (fun _ => E7.out) hm7.lt hm7 (noSto_apart (by kernel_rfl))
        · refine step_call hs (wants_none rfl) rfl fun L u W hJ hG hL hdep K hK => ?_
          have a0 := (show IsFs rE (u 0) [y * y] from hG 0 (hdep 0 (by kernel_rfl)))
          have a1 := (show IsFs rE (u 1) [fn 1] from hG 1 (hdep 1 (by kernel_rfl)))
          go_simp
          go_at_call 39
          (with_reducible refine (cSub a0 a1 _).mono ?_); rintro e w1 ⟨r, rfl, hr, hb⟩
          have hk := hK.out _ _ hr hb
          exact hk
        · exact step_load q8 0 hs (wants_none rfl) rfl rfl tyE (fun _ => E8.out) hm8.lt hm8 (noSto_apart (by kernel_rfl))
        · refine step_call hs (wants_none rfl) rfl fun L u W hJ hG hL hdep K hK => ?_
          go_simp
          go_at_call 40
          (with_reducible refine (cD _).mono ?_); rintro e w1 ⟨r, rfl, hr, hb⟩
          have hk := hK.out _ _ hr hb
          exact hk
        · refine step_call hs (wants_none rfl) rfl fun L u W hJ hG hL hdep K hK => ?_
          have a0 := (show IsFs rE (u 3) [y * y] from hG 3 (hdep 3 (by kernel_rfl)))
          have a1 := (show IsFs rE (u 4) [dE] from hG 4 (hdep 4 (by kernel_rfl)))
          go_simp
          go_at_call 38
          (with_reducible refine (cMul a0 a1 _).mono ?_); rintro e w1 ⟨r, rfl, hr, hb⟩
          have hk := hK.out _ _ hr hb
          exact hk
        · exact step_load q7 0 hs (wants_none rfl) rfl rfl tyE (fun _ => E7.out) hm7.lt hm7 (noSto_apart (by kernel_rfl))
        · refine step_call hs (wants_none rfl) rfl fun L u W hJ hG hL hdep K hK => ?_
          have a0 := (show IsFs rE (u 5) [(y * y) * dE] from hG 5 (hdep 5 (by kernel_rfl)))
          have a1 := (show IsFs rE (u 6) [fn 1] from hG 6 (hdep 6 (by kernel_rfl)))
          go_simp
          go_at_call 41
          (with_reducible refine (cAdd a0 a1 _).mono ?_); rintro e w1 ⟨r, rfl, hr, hb⟩
          have hk := hK.out _ _ hr hb
          exact hk
        · refine step_call hs (wants_none rfl) rfl fun L u W hJ hG hL hdep K hK => ?_
          have a0 := (show IsFs rE (u 7) [((y * y) * dE) + (fn 1)] from hG 7 (hdep 7 (by kernel_rfl)))
          go_simp
          go_at_call 42
          (with_reducible refine (cInv a0 _).mono ?_); rintro e w1 ⟨r, rfl, hr, hb⟩
          have hk := hK.out _ _ hr hb
          exact hk
        · refine step_call hs (wants_none rfl) rfl fun L u W hJ hG hL hdep K hK => ?_
          have a0 := (show IsFs rE (u 2) [(y * y) - (fn 1)] from hG 2 (hdep 2 (by kernel_rfl)))
          have a1 := (show IsFs rE (u 8) [finv (((y * y) * dE) + (fn 1))] from hG 8 (hdep 8 (by kernel_rfl)))
          go_simp
          go_at_call 38
          (with_reducible refine (cMul a0 a1 _).mono ?_); rintro e w1 ⟨r, rfl, hr, hb⟩
          have hk := hK.out _ _ hr hb
          exact hk
        · refine step_callO hs (wants_none rfl) rfl fun L u W hJ hG hL hdep K hK => ?_
          have a0 := xx_fs ((show IsFs rE (u 9) [((y * y) - (fn 1)) * (finv (((y * y) * dE) + (fn 1)))] from hG 9 (hdep 9 (by kernel_rfl))))
          go_simp
          go_at_call 43
          (with_reducible refine (cRootN HX.out HRC.out a0 _).mono ?_); rintro e w1 ⟨r, rfl, hr, hb⟩
          have hk := hK.out _ _ ⟨r, rfl, hr⟩ hb
          exact hk
        · exact step_pureO hs (wants_none rfl) rfl fun L u W hG hdep => ⟨_, run_move rfl, (show IsTV rE (u 10) [X] (.int .i64 7) from hG 10 (hdep 10 (by kernel_rfl)))⟩
        · exact step_pure hs (wants_none rfl) rfl fun L u W hG hdep => run_extractV0 rfl (show IsTV rE (u 11) [X] (.int .i64 7) from hG 11 (hdep 11 (by kernel_rfl)))
        · exact step_pureO hs (wants_none rfl) rfl fun L u W hG hdep => run_extractV1 rfl (show IsTV rE (u 11) [X] (.int .i64 7) from hG 11 (hdep 11 (by kernel_rfl)))
        · exact step_alloc hs (wants_none rfl) rfl rfl (by omega) rfl allocE
        · exact step_store 14 hs (by kernel_rfl) (wants_none rfl) rfl rfl rfl (by kernel_rfl) (by kernel_rfl) (by kernel_rfl) (by kernel_rfl) (fun _ => rfl) (gives_op 12 rfl (by kernel_rfl) (fun _ => rfl)) tyE rfl
        · exact step_pureO hs (wants_none rfl) rfl fun L u W hG hdep => ⟨_, run_assign rfl, (show u 13 = .int .i64 7 from hG 13 (hdep 13 (by kernel_rfl)))⟩
      intro L10 u10c W10c hall hJ hG
      obtain ⟨q9, e9, hq9, _, ht9⟩ := (show ∃ g, u10c 14 = .pointer (some ⟨g, 0, none⟩) ∧ W9b.heap.size ≤ g ∧ 0 < 5 ∧ W10c.there g 0 5 from hG 14 (by simp))
      have hm9 : HasFs rE W10c q9 0 [X] := by
        obtain ⟨g, e, _, h⟩ := (show ∃ g, u10c 14 = .pointer (some ⟨g, 0, none⟩) ∧ W9b.heap.size ≤ g ∧ HasFs rE W10c g 0 [X] from hG 15 (by simp))
        rw [e9] at e; cases e; exact h
      have HD9_q2 := Lib.hid (show q2 ≠ q9 by have := there_lt ht2 (by omega); omega)
      have HD9_q5 := Lib.hid (show q5 ≠ q9 by have := there_lt ht5 (by omega); omega)
      have HD9_q7 := Lib.hid (show q7 ≠ q9 by have := there_lt ht7 (by omega); omega)
      have HD9_q8 := Lib.hid (show q8 ≠ q9 by have := there_lt ht8 (by omega); omega)
      have hq9 : w.heap.size ≤ q9 := by have := hbel0.size; omega
      have E9 := Lib.hid e9; clear e9
      have hb := hJ.all rfl
      have hbel := Below.call hbel hb
      have hm5 := hm5.later hb
      have hm7 := hm7.later hb
      have hm8 := hm8.later hb
      have ht2 := there_later ht2 hb
      have ht5 := there_later ht5 hb
      have ht7 := there_later ht7 hb
      have ht8 := there_later ht8 hb
      have HKB := Lib.hid (HKB.out.below' hb)
      have HC6 := Lib.hid (show u10c 16 = .int .i64 7 from hG 16 (by simp))
      have hbel0 := hbel
      clear hJ hG hall hb
      go_upto_region 11 with fail
      refine wp_region_turn (fun u => (.slice (some ⟨gB, 0, none⟩) 32 cB :: undef :: u0 0 :: u0 1 :: u3 5 :: u6b 5 :: u10c 16 :: u9b 4 :: u9b 5 :: u10c 14 :: u1 0 :: u1 1 :: .bool false :: undef :: u3 0 :: u3 1 :: u3 2 :: u3 3 :: u3 4 :: .slice (some ⟨bb, q, none⟩) 32 cap :: .slice (some ⟨gB, 0, none⟩) 32 cB :: u5 0 :: u5 1 :: u5 2 :: u5 3 :: u5 4 :: u6b 2 :: u6b 0 :: u6b 1 :: u6b 3 :: u6b 4 :: u7b 0 :: .bool false :: undef :: u9b 0 :: u9b 1 :: u9b 2 :: u9b 3 :: u10c 11 :: u10c 0 :: u10c 1 :: u10c 2 :: u10c 3 :: u10c 4 :: u10c 5 :: u10c 6 :: u10c 7 :: u10c 8 :: u10c 9 :: u10c 10 :: u10c 12 :: u10c 13 :: u 0 :: u 1 :: u 2 :: u 3 :: u 4 :: u 5 :: u 6 :: u 7 :: u 8 :: u 9 :: undef :: undef :: undef :: undef :: undef :: undef :: undef :: undef :: []).toArray) (Holds [.oth (fun v => v = .int .i64 7), .oth (fun v => v = .bool true), .oth (fun v => v = .bool true), .oth (fun v => v = undef), .oth (fun v => v = undef), .oth (fun v => v = undef), .oth (fun v => v = undef), .oth (fun v => v = undef), .oth (fun v => v = undef), .oth (fun v => v = .bool true)] W10c) (Keep [.oth (fun v => v = .int .i64 7), .oth (fun v => v = .bool true), .oth (fun v => v = .bool true), .oth (fun v => v = undef), .oth (fun v => v = undef), .oth (fun v => v = undef), .oth (fun v => v = undef), .oth (fun v => v = undef), .oth (fun v => v = undef), .oth (fun v => v = .bool true)] W10c) (fun _ => undef) ?_ (by rfl) Keep.start (holds_soft (by kernel_rfl)) ?_ ?_
      · intro u i v h
        rcases i with _ | _ | _ | _ | _ | _ | _ | _ | _ | _ | i
        all_goals first | (simp [Act.put, putV]; done) | (exfalso; simp at h; omega)
      · intro hs
        refine ⟨?_, ?_, ?_, ?_, ?_, ?_, ?_, ?_, ?_, ?_, trivial⟩
        · exact step_pureO hs (wants_none rfl) rfl fun L u W hG hdep => ⟨_, run_move rfl, HC6.out⟩
        · refine step_pureO hs (wants_none rfl) rfl fun L u W hG hdep => ⟨_, ?_, rfl⟩
          have e0 := (show u 0 = .int .i64 7 from hG 0 (hdep 0 (by kernel_rfl)))
          go_simp
          try simp [bne]
        · exact step_pureO hs (wants_none rfl) rfl fun L u W hG hdep => ⟨_, run_move rfl, (show u 1 = .bool true from hG 1 (hdep 1 (by kernel_rfl)))⟩
        · exact step_outU hs (wants_off 2 rfl rfl rfl (by kernel_rfl) (fun _ => rfl)) rfl
        · exact step_outU hs (wants_off 2 rfl rfl rfl (by kernel_rfl) (fun _ => rfl)) rfl
        · exact step_outU hs (wants_offU 4 rfl rfl (by kernel_rfl) (fun _ => rfl)) rfl
        · exact step_outU hs (wants_offU 4 rfl rfl (by kernel_rfl) (fun _ => rfl)) rfl
        · exact step_outU hs (wants_offU 4 rfl rfl (by kernel_rfl) (fun _ => rfl)) rfl
        · exact step_outU hs (wants_off 2 rfl rfl rfl (by kernel_rfl) (fun _ => rfl)) rfl
        · exact step_pick true hs (wants_none rfl) rfl rfl (fun L u W hG hdep => (show u 2 = .bool true from hG 2 (hdep 2 (by kernel_rfl)))) (fun L u W hG hdep => rfl)
      intro L11 u11c W11c hall hJ hG
      have hb := hJ.all rfl
      have hbel := Below.call hbel hb
      have hm5 := hm5.later hb
      have hm7 := hm7.later hb
      have hm8 := hm8.later hb
      have hm9 := hm9.later hb
      have ht2 := there_later ht2 hb
      have ht5 := there_later ht5 hb
      have ht7 := there_later ht7 hb
      have ht8 := there_later ht8 hb
      have ht9 := there_later ht9 hb
      have HKB := Lib.hid (HKB.out.below' hb)
      have HC53 := Lib.hid (show u11c 1 = .bool true from hG 1 (by simp))
      have HC54 := Lib.hid (show u11c 2 = .bool true from hG 2 (by simp))
      have HC61 := Lib.hid (show u11c 9 = .bool true from hG 9 (by simp))
      have hbel0 := hbel
      clear hJ hG hall hb
      have hx : u11c 9 = .bool true := HC61.out
      go_wp2_with fail
      rw [hx]
      clear hx
      go_upto_region 12 with fail
      refine wp_region_turn (fun u => (.slice (some ⟨gB, 0, none⟩) 32 cB :: undef :: u0 0 :: u 2 :: u3 5 :: u6b 5 :: u10c 16 :: u9b 4 :: u9b 5 :: u10c 14 :: u1 0 :: u1 1 :: .bool false :: undef :: u3 0 :: u3 1 :: u3 2 :: u3 3 :: u3 4 :: .slice (some ⟨bb, q, none⟩) 32 cap :: .slice (some ⟨gB, 0, none⟩) 32 cB :: u5 0 :: u5 1 :: u5 2 :: u5 3 :: u5 4 :: u6b 2 :: u6b 0 :: u6b 1 :: u6b 3 :: u6b 4 :: u7b 0 :: .bool false :: undef :: u9b 0 :: u9b 1 :: u9b 2 :: u9b 3 :: u10c 11 :: u10c 0 :: u10c 1 :: u10c 2 :: u10c 3 :: u10c 4 :: u10c 5 :: u10c 6 :: u10c 7 :: u10c 8 :: u10c 9 :: u10c 10 :: u10c 12 :: u10c 13 :: u11c 0 :: u11c 1 :: u11c 2 :: u11c 3 :: u11c 4 :: u11c 5 :: u11c 6 :: u11c 7 :: u11c 8 :: .bool true :: u 0 :: undef :: undef :: undef :: undef :: undef :: undef :: undef :: []).toArray) (Holds [.val rP [Cp.zero], .sto q2 rP [Cp.zero], .oth (fun v => v = .int .i64 12)] W11c) (Keep [.val rP [Cp.zero], .sto q2 rP [Cp.zero], .oth (fun v => v = .int .i64 12)] W11c) (fun k => ((undef :: undef :: u0 1 :: []) : List Value).getD k undef) ?_ (by rfl) Keep.start (holds_soft (by kernel_rfl)) ?_ ?_
      · intro u i v h
        rcases i with _ | _ | _ | i
        all_goals first | (simp [Act.put, putV]; done) | (exfalso; simp at h; omega)
      · intro hs
        refine ⟨?_, ?_, ?_, trivial⟩
        · exact step_pure hs (wants_none rfl) rfl fun L u W hG hdep => run_build0 rfl (build_P0 W)
        · refine step_storeO q2 20 hs (wants_none rfl) rfl rfl (by kernel_rfl) (fun k hk => ?_) (fun _ => E2.out) (there_lt ht2 (by omega)) ht2 (gives_op 0 rfl (by kernel_rfl) (fun _ => rfl)) tyP rfl
          rcases k with _ | _ | _ | k
          all_goals first | (exact absurd rfl hk) | (intro e; cases e; done)
        · exact step_pureO hs (wants_none rfl) rfl fun L u W hG hdep => ⟨_, run_assign rfl, rfl⟩
      intro L12 u12c W12c hall hJ hG
      have hb : Below w.heap.size W11c W12c := hJ.below (by have := hbel.size; omega) (fun k b hf => by rcases k with _ | _ | _ | k <;> first | (cases hf; done) | (cases hf; omega))
      have hbel := hbel.trans hb
      have hm5 := hm5.blk (hJ.block _ (hm5.lt) (fun k hk => by rcases k with _ | _ | _ | k <;> first | (cases hk; done) | (cases hk; exact absurd rfl HD5_q2.out)))
      have hm7 := hm7.blk (hJ.block _ (hm7.lt) (fun k hk => by rcases k with _ | _ | _ | k <;> first | (cases hk; done) | (cases hk; exact absurd rfl HD7_q2.out)))
      have hm8 := hm8.blk (hJ.block _ (hm8.lt) (fun k hk => by rcases k with _ | _ | _ | k <;> first | (cases hk; done) | (cases hk; exact absurd rfl HD8_q2.out)))
      have hm9 := hm9.blk (hJ.block _ (hm9.lt) (fun k hk => by rcases k with _ | _ | _ | k <;> first | (cases hk; done) | (cases hk; exact absurd rfl HD9_q2.out)))
      have ht5 := there_blk ht5 (hJ.block _ (there_lt ht5 (by omega)) (fun k hk => by rcases k with _ | _ | _ | k <;> first | (cases hk; done) | (cases hk; exact absurd rfl HD5_q2.out)))
      have ht7 := there_blk ht7 (hJ.block _ (there_lt ht7 (by omega)) (fun k hk => by rcases k with _ | _ | _ | k <;> first | (cases hk; done) | (cases hk; exact absurd rfl HD7_q2.out)))
      have ht8 := there_blk ht8 (hJ.block _ (there_lt ht8 (by omega)) (fun k hk => by rcases k with _ | _ | _ | k <;> first | (cases hk; done) | (cases hk; exact absurd rfl HD8_q2.out)))
      have ht9 := there_blk ht9 (hJ.block _ (there_lt ht9 (by omega)) (fun k hk => by rcases k with _ | _ | _ | k <;> first | (cases hk; done) | (cases hk; exact absurd rfl HD9_q2.out)))
      have HKB := Lib.hid (blk_keep HKB.out (hJ.block _ (HKB.out.lt) (fun k hk => by rcases k with _ | _ | _ | k <;> first | (cases hk; done) | (cases hk; exact absurd rfl HE_q2.out))))
      obtain ⟨_, hs12_1t, hs12_1⟩ := (show _ ∧ W12c.there q2 0 20 ∧ HasFs rP W12c q2 0 [Cp.zero] from hG 1 (by simp))
      have HC3 := Lib.hid (show u12c 2 = .int .i64 12 from hG 2 (by simp))
      have hbel0 := hbel
      clear hJ hG hall hb
      go_wp2
      exact ret_cell_slot (R := rP) Try.results10 (by exact E2.out) (by exact HC3.out) hs12_1 tyP rfl (fun r hr => ⟨r, by rw [(dec_root HL.out HLW.out HY.out HR7.out).2], by rw [(dec_root HL.out HLW.out HY.out HR7.out).1]; exact hr, hbel⟩)
    · have HRC := Lib.hid hrc; clear hrc
      go_upto_region 10 with fail
      refine wp_region_mid (fun u => (.slice (some ⟨gB, 0, none⟩) 32 cB :: undef :: u0 0 :: u0 1 :: u3 5 :: u6b 5 :: u 16 :: u9b 4 :: u9b 5 :: u 14 :: u1 0 :: u1 1 :: .bool false :: undef :: u3 0 :: u3 1 :: u3 2 :: u3 3 :: u3 4 :: .slice (some ⟨bb, q, none⟩) 32 cap :: .slice (some ⟨gB, 0, none⟩) 32 cB :: u5 0 :: u5 1 :: u5 2 :: u5 3 :: u5 4 :: u6b 2 :: u6b 0 :: u6b 1 :: u6b 3 :: u6b 4 :: u7b 0 :: .bool false :: undef :: u9b 0 :: u9b 1 :: u9b 2 :: u9b 3 :: u 11 :: u 0 :: u 1 :: u 2 :: u 3 :: u 4 :: u 5 :: u 6 :: u 7 :: u 8 :: u 9 :: u 10 :: u 12 :: u 13 :: undef :: undef :: undef :: undef :: undef :: undef :: undef :: undef :: undef :: undef :: undef :: undef :: undef :: undef :: undef :: undef :: undef :: undef :: []).toArray) (Holds [.val rE [y * y], .val rE [fn 1], .val rE [(y * y) - (fn 1)], .val rE [y * y], .val rE [dE], .val rE [(y * y) * dE], .val rE [fn 1], .val rE [((y * y) * dE) + (fn 1)], .val rE [finv (((y * y) * dE) + (fn 1))], .val rE [((y * y) - (fn 1)) * (finv (((y * y) * dE) + (fn 1)))], .oth (fun v => IsTV rE v [X] (.int .i64 0)), .oth (fun v => IsTV rE v [X] (.int .i64 0)), .val rE [X], .oth (fun v => v = .int .i64 0), .new 5, .st 14 rE [X], .oth (fun v => v = .int .i64 0)] W9b) (Keep [.val rE [y * y], .val rE [fn 1], .val rE [(y * y) - (fn 1)], .val rE [y * y], .val rE [dE], .val rE [(y * y) * dE], .val rE [fn 1], .val rE [((y * y) * dE) + (fn 1)], .val rE [finv (((y * y) * dE) + (fn 1))], .val rE [((y * y) - (fn 1)) * (finv (((y * y) * dE) + (fn 1)))], .oth (fun v => IsTV rE v [X] (.int .i64 0)), .oth (fun v => IsTV rE v [X] (.int .i64 0)), .val rE [X], .oth (fun v => v = .int .i64 0), .new 5, .st 14 rE [X], .oth (fun v => v = .int .i64 0)] W9b) (fun k => ((undef :: undef :: undef :: undef :: undef :: undef :: undef :: undef :: undef :: undef :: undef :: undef :: undef :: undef :: undef :: undef :: u6b 7 :: []) : List Value).getD k undef) (by kernel_rfl) (by kernel_rfl) ?_ (by rfl) Keep.drew (holds_soft (by kernel_rfl)) ?_ ?_
      · intro u i v h
        rcases i with _ | _ | _ | _ | _ | _ | _ | _ | _ | _ | _ | _ | _ | _ | _ | _ | _ | i
        all_goals first | (simp [Act.put, putV]; done) | (exfalso; simp at h; omega)
      · intro hs
        refine ⟨?_, ?_, ?_, ?_, ?_, ?_, ?_, ?_, ?_, ?_, ?_, ?_, ?_, ?_, ?_, ?_, ?_, trivial⟩
        · exact step_load q8 0 hs (wants_none rfl) rfl rfl tyE (fun _ => E8.out) hm8.lt hm8 (noSto_apart (by kernel_rfl))
        · exact step_load q7 0 hs (wants_none rfl) rfl rfl tyE (fun _ => E7.out) hm7.lt hm7 (noSto_apart (by kernel_rfl))
        · refine step_call hs (wants_none rfl) rfl fun L u W hJ hG hL hdep K hK => ?_
          have a0 := (show IsFs rE (u 0) [y * y] from hG 0 (hdep 0 (by kernel_rfl)))
          have a1 := (show IsFs rE (u 1) [fn 1] from hG 1 (hdep 1 (by kernel_rfl)))
          go_simp
          go_at_call 39
          (with_reducible refine (cSub a0 a1 _).mono ?_); rintro e w1 ⟨r, rfl, hr, hb⟩
          have hk := hK.out _ _ hr hb
          exact hk
        · exact step_load q8 0 hs (wants_none rfl) rfl rfl tyE (fun _ => E8.out) hm8.lt hm8 (noSto_apart (by kernel_rfl))
        · refine step_call hs (wants_none rfl) rfl fun L u W hJ hG hL hdep K hK => ?_
          go_simp
          go_at_call 40
          (with_reducible refine (cD _).mono ?_); rintro e w1 ⟨r, rfl, hr, hb⟩
          have hk := hK.out _ _ hr hb
          exact hk
        · refine step_call hs (wants_none rfl) rfl fun L u W hJ hG hL hdep K hK => ?_
          have a0 := (show IsFs rE (u 3) [y * y] from hG 3 (hdep 3 (by kernel_rfl)))
          have a1 := (show IsFs rE (u 4) [dE] from hG 4 (hdep 4 (by kernel_rfl)))
          go_simp
          go_at_call 38
          (with_reducible refine (cMul a0 a1 _).mono ?_); rintro e w1 ⟨r, rfl, hr, hb⟩
          have hk := hK.out _ _ hr hb
          exact hk
        · exact step_load q7 0 hs (wants_none rfl) rfl rfl tyE (fun _ => E7.out) hm7.lt hm7 (noSto_apart (by kernel_rfl))
        · refine step_call hs (wants_none rfl) rfl fun L u W hJ hG hL hdep K hK => ?_
          have a0 := (show IsFs rE (u 5) [(y * y) * dE] from hG 5 (hdep 5 (by kernel_rfl)))
          have a1 := (show IsFs rE (u 6) [fn 1] from hG 6 (hdep 6 (by kernel_rfl)))
          go_simp
          go_at_call 41
          (with_reducible refine (cAdd a0 a1 _).mono ?_); rintro e w1 ⟨r, rfl, hr, hb⟩
          have hk := hK.out _ _ hr hb
          exact hk
        · refine step_call hs (wants_none rfl) rfl fun L u W hJ hG hL hdep K hK => ?_
          have a0 := (show IsFs rE (u 7) [((y * y) * dE) + (fn 1)] from hG 7 (hdep 7 (by kernel_rfl)))
          go_simp
          go_at_call 42
          (with_reducible refine (cInv a0 _).mono ?_); rintro e w1 ⟨r, rfl, hr, hb⟩
          have hk := hK.out _ _ hr hb
          exact hk
        · refine step_call hs (wants_none rfl) rfl fun L u W hJ hG hL hdep K hK => ?_
          have a0 := (show IsFs rE (u 2) [(y * y) - (fn 1)] from hG 2 (hdep 2 (by kernel_rfl)))
          have a1 := (show IsFs rE (u 8) [finv (((y * y) * dE) + (fn 1))] from hG 8 (hdep 8 (by kernel_rfl)))
          go_simp
          go_at_call 38
          (with_reducible refine (cMul a0 a1 _).mono ?_); rintro e w1 ⟨r, rfl, hr, hb⟩
          have hk := hK.out _ _ hr hb
          exact hk
        · refine step_callO hs (wants_none rfl) rfl fun L u W hJ hG hL hdep K hK => ?_
          have a0 := xx_fs ((show IsFs rE (u 9) [((y * y) - (fn 1)) * (finv (((y * y) * dE) + (fn 1)))] from hG 9 (hdep 9 (by kernel_rfl))))
          go_simp
          go_at_call 43
          (with_reducible refine (cRootN HX.out HRC.out a0 _).mono ?_); rintro e w1 ⟨r, rfl, hr, hb⟩
          have hk := hK.out _ _ ⟨r, rfl, hr⟩ hb
          exact hk
        · exact step_pureO hs (wants_none rfl) rfl fun L u W hG hdep => ⟨_, run_move rfl, (show IsTV rE (u 10) [X] (.int .i64 0) from hG 10 (hdep 10 (by kernel_rfl)))⟩
        · exact step_pure hs (wants_none rfl) rfl fun L u W hG hdep => run_extractV0 rfl (show IsTV rE (u 11) [X] (.int .i64 0) from hG 11 (hdep 11 (by kernel_rfl)))
        · exact step_pureO hs (wants_none rfl) rfl fun L u W hG hdep => run_extractV1 rfl (show IsTV rE (u 11) [X] (.int .i64 0) from hG 11 (hdep 11 (by kernel_rfl)))
        · exact step_alloc hs (wants_none rfl) rfl rfl (by omega) rfl allocE
        · exact step_store 14 hs (by kernel_rfl) (wants_none rfl) rfl rfl rfl (by kernel_rfl) (by kernel_rfl) (by kernel_rfl) (by kernel_rfl) (fun _ => rfl) (gives_op 12 rfl (by kernel_rfl) (fun _ => rfl)) tyE rfl
        · exact step_pureO hs (wants_none rfl) rfl fun L u W hG hdep => ⟨_, run_assign rfl, (show u 13 = .int .i64 0 from hG 13 (hdep 13 (by kernel_rfl)))⟩
      intro L10 u10d W10d hall hJ hG
      obtain ⟨q9, e9, hq9, _, ht9⟩ := (show ∃ g, u10d 14 = .pointer (some ⟨g, 0, none⟩) ∧ W9b.heap.size ≤ g ∧ 0 < 5 ∧ W10d.there g 0 5 from hG 14 (by simp))
      have hm9 : HasFs rE W10d q9 0 [X] := by
        obtain ⟨g, e, _, h⟩ := (show ∃ g, u10d 14 = .pointer (some ⟨g, 0, none⟩) ∧ W9b.heap.size ≤ g ∧ HasFs rE W10d g 0 [X] from hG 15 (by simp))
        rw [e9] at e; cases e; exact h
      have HD9_q2 := Lib.hid (show q2 ≠ q9 by have := there_lt ht2 (by omega); omega)
      have HD9_q5 := Lib.hid (show q5 ≠ q9 by have := there_lt ht5 (by omega); omega)
      have HD9_q7 := Lib.hid (show q7 ≠ q9 by have := there_lt ht7 (by omega); omega)
      have HD9_q8 := Lib.hid (show q8 ≠ q9 by have := there_lt ht8 (by omega); omega)
      have hq9 : w.heap.size ≤ q9 := by have := hbel0.size; omega
      have E9 := Lib.hid e9; clear e9
      have hb := hJ.all rfl
      have hbel := Below.call hbel hb
      have hm5 := hm5.later hb
      have hm7 := hm7.later hb
      have hm8 := hm8.later hb
      have ht2 := there_later ht2 hb
      have ht5 := there_later ht5 hb
      have ht7 := there_later ht7 hb
      have ht8 := there_later ht8 hb
      have HKB := Lib.hid (HKB.out.below' hb)
      have HC6 := Lib.hid (show u10d 16 = .int .i64 0 from hG 16 (by simp))
      have hbel0 := hbel
      clear hJ hG hall hb
      cases o
      · skip
        go_upto_region 11 with fail
        refine wp_region_turn (fun u => (.slice (some ⟨gB, 0, none⟩) 32 cB :: undef :: u0 0 :: u0 1 :: u3 5 :: u6b 5 :: u10d 16 :: u9b 4 :: u9b 5 :: u10d 14 :: u1 0 :: u1 1 :: .bool false :: undef :: u3 0 :: u3 1 :: u3 2 :: u3 3 :: u3 4 :: .slice (some ⟨bb, q, none⟩) 32 cap :: .slice (some ⟨gB, 0, none⟩) 32 cB :: u5 0 :: u5 1 :: u5 2 :: u5 3 :: u5 4 :: u6b 2 :: u6b 0 :: u6b 1 :: u6b 3 :: u6b 4 :: u7b 0 :: .bool false :: undef :: u9b 0 :: u9b 1 :: u9b 2 :: u9b 3 :: u10d 11 :: u10d 0 :: u10d 1 :: u10d 2 :: u10d 3 :: u10d 4 :: u10d 5 :: u10d 6 :: u10d 7 :: u10d 8 :: u10d 9 :: u10d 10 :: u10d 12 :: u10d 13 :: u 0 :: u 1 :: u 2 :: u 3 :: u 4 :: u 5 :: u 6 :: u 7 :: u 8 :: u 9 :: undef :: undef :: undef :: undef :: undef :: undef :: undef :: undef :: []).toArray) (Holds [.oth (fun v => v = .int .i64 0), .oth (fun v => v = .bool false), .oth (fun v => v = .bool false), .oth (fun v => v = .bool false), .oth (fun v => v = .bool false), .oth (fun v => v = undef), .oth (fun v => v = undef), .oth (fun v => v = undef), .oth (fun v => v = .bool false), .oth (fun v => v = .bool false)] W10d) (Keep [.oth (fun v => v = .int .i64 0), .oth (fun v => v = .bool false), .oth (fun v => v = .bool false), .oth (fun v => v = .bool false), .oth (fun v => v = .bool false), .oth (fun v => v = undef), .oth (fun v => v = undef), .oth (fun v => v = undef), .oth (fun v => v = .bool false), .oth (fun v => v = .bool false)] W10d) (fun _ => undef) ?_ (by rfl) Keep.start (holds_soft (by kernel_rfl)) ?_ ?_
        · intro u i v h
          rcases i with _ | _ | _ | _ | _ | _ | _ | _ | _ | _ | i
          all_goals first | (simp [Act.put, putV]; done) | (exfalso; simp at h; omega)
        · intro hs
          refine ⟨?_, ?_, ?_, ?_, ?_, ?_, ?_, ?_, ?_, ?_, trivial⟩
          · exact step_pureO hs (wants_none rfl) rfl fun L u W hG hdep => ⟨_, run_move rfl, HC6.out⟩
          · refine step_pureO hs (wants_none rfl) rfl fun L u W hG hdep => ⟨_, ?_, rfl⟩
            have e0 := (show u 0 = .int .i64 0 from hG 0 (hdep 0 (by kernel_rfl)))
            go_simp
            try simp [bne]
          · exact step_pureO hs (wants_none rfl) rfl fun L u W hG hdep => ⟨_, run_move rfl, (show u 1 = .bool false from hG 1 (hdep 1 (by kernel_rfl)))⟩
          · exact step_pureO hs (wants_on 2 rfl rfl (by kernel_rfl) (fun _ => rfl)) rfl fun L u W hG hdep => ⟨_, run_move rfl, HC4.out⟩
          · exact step_pureO hs (wants_on 2 rfl rfl (by kernel_rfl) (fun _ => rfl)) rfl fun L u W hG hdep => ⟨_, run_move rfl, (show u 3 = .bool false from hG 3 (hdep 3 (by kernel_rfl)))⟩
          · exact step_outU hs (wants_off 4 rfl rfl rfl (by kernel_rfl) (fun _ => rfl)) rfl
          · exact step_outU hs (wants_off 4 rfl rfl rfl (by kernel_rfl) (fun _ => rfl)) rfl
          · exact step_outU hs (wants_off 4 rfl rfl rfl (by kernel_rfl) (fun _ => rfl)) rfl
          · exact step_pick false hs (wants_on 2 rfl rfl (by kernel_rfl) (fun _ => rfl)) rfl rfl (fun L u W hG hdep => (show u 4 = .bool false from hG 4 (hdep 4 (by kernel_rfl)))) (fun L u W hG hdep => rfl)
          · exact step_pick false hs (wants_none rfl) rfl rfl (fun L u W hG hdep => (show u 2 = .bool false from hG 2 (hdep 2 (by kernel_rfl)))) (fun L u W hG hdep => (show u 8 = .bool false from hG 8 (hdep 8 (by kernel_rfl))))
        intro L11 u11n W11n hall hJ hG
        have hb := hJ.all rfl
        have hbel := Below.call hbel hb
        have hm5 := hm5.later hb
        have hm7 := hm7.later hb
        have hm8 := hm8.later hb
        have hm9 := hm9.later hb
        have ht2 := there_later ht2 hb
        have ht5 := there_later ht5 hb
        have ht7 := there_later ht7 hb
        have ht8 := there_later ht8 hb
        have ht9 := there_later ht9 hb
        have HKB := Lib.hid (HKB.out.below' hb)
        have HC53 := Lib.hid (show u11n 1 = .bool false from hG 1 (by simp))
        have HC54 := Lib.hid (show u11n 2 = .bool false from hG 2 (by simp))
        have HC55 := Lib.hid (show u11n 3 = .bool false from hG 3 (by simp))
        have HC56 := Lib.hid (show u11n 4 = .bool false from hG 4 (by simp))
        have HC60 := Lib.hid (show u11n 8 = .bool false from hG 8 (by simp))
        have HC61 := Lib.hid (show u11n 9 = .bool false from hG 9 (by simp))
        have hbel0 := hbel
        clear hJ hG hall hb
        have hx : u11n 9 = .bool false := HC61.out
        go_wp2_with fail
        rw [hx]
        clear hx
        go_upto_region 13 with fail
        refine wp_region_mid (fun u => (.slice (some ⟨gB, 0, none⟩) 32 cB :: undef :: u0 0 :: u 8 :: u3 5 :: u6b 5 :: u10d 16 :: u9b 4 :: u9b 5 :: u10d 14 :: u1 0 :: u1 1 :: .bool false :: undef :: u3 0 :: u3 1 :: u3 2 :: u3 3 :: u3 4 :: .slice (some ⟨bb, q, none⟩) 32 cap :: .slice (some ⟨gB, 0, none⟩) 32 cB :: u5 0 :: u5 1 :: u5 2 :: u5 3 :: u5 4 :: u6b 2 :: u6b 0 :: u6b 1 :: u6b 3 :: u6b 4 :: u7b 0 :: .bool false :: undef :: u9b 0 :: u9b 1 :: u9b 2 :: u9b 3 :: u10d 11 :: u10d 0 :: u10d 1 :: u10d 2 :: u10d 3 :: u10d 4 :: u10d 5 :: u10d 6 :: u10d 7 :: u10d 8 :: u10d 9 :: u10d 10 :: u10d 12 :: u10d 13 :: u11n 0 :: u11n 1 :: u11n 2 :: u11n 3 :: u11n 4 :: u11n 5 :: u11n 6 :: u11n 7 :: u11n 8 :: .bool false :: undef :: u 0 :: u 1 :: u 2 :: u 3 :: u 4 :: u 5 :: u 6 :: []).toArray) (Holds [.oth (fun v => v = .bool false), .val rE [X], .val rE [-X], .val rE [X], .val rE [X], .val rE [y], .val rE [X, y, fn 1, X * y], .sto q2 rE [X, y, fn 1, X * y], .oth (fun v => v = .int .i64 0)] W11n) (Keep [.oth (fun v => v = .bool false), .val rE [X], .val rE [-X], .val rE [X], .val rE [X], .val rE [y], .val rE [X, y, fn 1, X * y], .sto q2 rE [X, y, fn 1, X * y], .oth (fun v => v = .int .i64 0)] W11n) (fun k => ((undef :: undef :: undef :: undef :: undef :: undef :: undef :: undef :: u0 1 :: []) : List Value).getD k undef) (by kernel_rfl) (by kernel_rfl) ?_ (by rfl) Keep.drew (holds_soft (by kernel_rfl)) ?_ ?_
        · intro u i v h
          rcases i with _ | _ | _ | _ | _ | _ | _ | _ | _ | i
          all_goals first | (simp [Act.put, putV]; done) | (exfalso; simp at h; omega)
        · intro hs
          refine ⟨?_, ?_, ?_, ?_, ?_, ?_, ?_, ?_, ?_, trivial⟩
          · exact step_pureO hs (wants_none rfl) rfl fun L u W hG hdep => ⟨_, run_move rfl, HC4.out⟩
          · exact step_load q9 0 hs (wants_none rfl) rfl rfl tyE (fun _ => E9.out) hm9.lt hm9 (fun k g hk => by rcases k with _ | _ | _ | _ | _ | _ | _ | _ | _ | k <;> first | (cases hk; done) | (cases hk; exact .inr HD9_q2.out))
          · refine step_call hs (wants_none rfl) rfl fun L u W hJ hG hL hdep K hK => ?_
            have a0 := (show IsFs rE (u 1) [X] from hG 1 (hdep 1 (by kernel_rfl)))
            go_simp
            go_at_call 47
            (with_reducible refine (cNeg a0 _).mono ?_); rintro e w1 ⟨r, rfl, hr, hb⟩
            have hk := hK.out _ _ hr hb
            exact hk
          · exact step_load q9 0 hs (wants_none rfl) rfl rfl tyE (fun _ => E9.out) hm9.lt hm9 (fun k g hk => by rcases k with _ | _ | _ | _ | _ | _ | _ | _ | _ | k <;> first | (cases hk; done) | (cases hk; exact .inr HD9_q2.out))
          · refine step_call hs (wants_none rfl) rfl fun L u W hJ hG hL hdep K hK => ?_
            have a0 := (show IsFs rE (u 2) [-X] from hG 2 (hdep 2 (by kernel_rfl)))
            have a1 := (show IsFs rE (u 3) [X] from hG 3 (hdep 3 (by kernel_rfl)))
            have x0 := (show u 0 = .bool false from hG 0 (hdep 0 (by kernel_rfl)))
            go_simp
            go_at_call 46
            (with_reducible refine (cPick (b := false) rfl a0 a1 _).mono ?_); rintro e w1 ⟨r, rfl, hr, hb⟩
            have hk := hK.out _ _ hr hb
            simp only [x0] at hk
            exact hk
          · exact step_load q5 0 hs (wants_none rfl) rfl rfl tyE (fun _ => E5.out) hm5.lt hm5 (fun k g hk => by rcases k with _ | _ | _ | _ | _ | _ | _ | _ | _ | k <;> first | (cases hk; done) | (cases hk; exact .inr HD5_q2.out))
          · refine step_call hs (wants_none rfl) rfl fun L u W hJ hG hL hdep K hK => ?_
            have a0 := (show IsFs rE (u 4) [X] from hG 4 (hdep 4 (by kernel_rfl)))
            have a1 := (show IsFs rE (u 5) [y] from hG 5 (hdep 5 (by kernel_rfl)))
            go_simp
            go_at_call 45
            (with_reducible refine (cPoint a0 a1 _).mono ?_); rintro e w1 ⟨r, rfl, hr, hb⟩
            have hk := hK.out _ _ hr hb
            exact hk
          · refine step_storeO q2 20 hs (wants_none rfl) rfl rfl (by kernel_rfl) (fun k hk => ?_) (fun _ => E2.out) (there_lt ht2 (by omega)) ht2 (gives_op 6 rfl (by kernel_rfl) (fun _ => rfl)) tyP4 rfl
            rcases k with _ | _ | _ | _ | _ | _ | _ | _ | _ | k
            all_goals first | (exact absurd rfl hk) | (intro e; cases e; done)
          · exact step_pureO hs (wants_none rfl) rfl fun L u W hG hdep => ⟨_, run_assign rfl, rfl⟩
        intro L13 u13n W13n hall hJ hG
        have hb : Below w.heap.size W11n W13n := hJ.below (by have := hbel.size; omega) (fun k b hf => by rcases k with _ | _ | _ | _ | _ | _ | _ | _ | _ | k <;> first | (cases hf; done) | (cases hf; omega))
        have hbel := hbel.trans hb
        have hm5 := hm5.blk (hJ.block _ (hm5.lt) (fun k hk => by rcases k with _ | _ | _ | _ | _ | _ | _ | _ | _ | k <;> first | (cases hk; done) | (cases hk; exact absurd rfl HD5_q2.out)))
        have hm7 := hm7.blk (hJ.block _ (hm7.lt) (fun k hk => by rcases k with _ | _ | _ | _ | _ | _ | _ | _ | _ | k <;> first | (cases hk; done) | (cases hk; exact absurd rfl HD7_q2.out)))
        have hm8 := hm8.blk (hJ.block _ (hm8.lt) (fun k hk => by rcases k with _ | _ | _ | _ | _ | _ | _ | _ | _ | k <;> first | (cases hk; done) | (cases hk; exact absurd rfl HD8_q2.out)))
        have hm9 := hm9.blk (hJ.block _ (hm9.lt) (fun k hk => by rcases k with _ | _ | _ | _ | _ | _ | _ | _ | _ | k <;> first | (cases hk; done) | (cases hk; exact absurd rfl HD9_q2.out)))
        have ht5 := there_blk ht5 (hJ.block _ (there_lt ht5 (by omega)) (fun k hk => by rcases k with _ | _ | _ | _ | _ | _ | _ | _ | _ | k <;> first | (cases hk; done) | (cases hk; exact absurd rfl HD5_q2.out)))
        have ht7 := there_blk ht7 (hJ.block _ (there_lt ht7 (by omega)) (fun k hk => by rcases k with _ | _ | _ | _ | _ | _ | _ | _ | _ | k <;> first | (cases hk; done) | (cases hk; exact absurd rfl HD7_q2.out)))
        have ht8 := there_blk ht8 (hJ.block _ (there_lt ht8 (by omega)) (fun k hk => by rcases k with _ | _ | _ | _ | _ | _ | _ | _ | _ | k <;> first | (cases hk; done) | (cases hk; exact absurd rfl HD8_q2.out)))
        have ht9 := there_blk ht9 (hJ.block _ (there_lt ht9 (by omega)) (fun k hk => by rcases k with _ | _ | _ | _ | _ | _ | _ | _ | _ | k <;> first | (cases hk; done) | (cases hk; exact absurd rfl HD9_q2.out)))
        have HKB := Lib.hid (blk_keep HKB.out (hJ.block _ (HKB.out.lt) (fun k hk => by rcases k with _ | _ | _ | _ | _ | _ | _ | _ | _ | k <;> first | (cases hk; done) | (cases hk; exact absurd rfl HE_q2.out))))
        obtain ⟨_, hs13_7t, hs13_7⟩ := (show _ ∧ W13n.there q2 0 20 ∧ HasFs rE W13n q2 0 [X, y, fn 1, X * y] from hG 7 (by simp))
        have HC63 := Lib.hid (show u13n 0 = .bool false from hG 0 (by simp))
        have HC3 := Lib.hid (show u13n 8 = .int .i64 0 from hG 8 (by simp))
        have hbel0 := hbel
        clear hJ hG hall hb
        go_wp2
        exact ret_cell_slot (R := rE) Try.results10 (by exact E2.out) (by exact HC3.out) hs13_7 tyP4 rfl (fun r hr => ⟨r, by rw [(dec_yes HL.out HLW.out HY.out HRC.out HS.out (fun k => by cases k.1)).1], toP (isPr hr (dec_pext (by rw [(dec_yes HL.out HLW.out HY.out HRC.out HS.out (fun k => by cases k.1)).2.1, HX.out]; rfl) (dec_yes HL.out HLW.out HY.out HRC.out HS.out (fun k => by cases k.1)).2.2)), hbel⟩)
      · skip
        by_cases hx0 : X = 0
        · have HX0 := Lib.hid hx0; clear hx0
          go_upto_region 11 with fail
          refine wp_region_turn (fun u => (.slice (some ⟨gB, 0, none⟩) 32 cB :: undef :: u0 0 :: u0 1 :: u3 5 :: u6b 5 :: u10d 16 :: u9b 4 :: u9b 5 :: u10d 14 :: u1 0 :: u1 1 :: .bool false :: undef :: u3 0 :: u3 1 :: u3 2 :: u3 3 :: u3 4 :: .slice (some ⟨bb, q, none⟩) 32 cap :: .slice (some ⟨gB, 0, none⟩) 32 cB :: u5 0 :: u5 1 :: u5 2 :: u5 3 :: u5 4 :: u6b 2 :: u6b 0 :: u6b 1 :: u6b 3 :: u6b 4 :: u7b 0 :: .bool false :: undef :: u9b 0 :: u9b 1 :: u9b 2 :: u9b 3 :: u10d 11 :: u10d 0 :: u10d 1 :: u10d 2 :: u10d 3 :: u10d 4 :: u10d 5 :: u10d 6 :: u10d 7 :: u10d 8 :: u10d 9 :: u10d 10 :: u10d 12 :: u10d 13 :: u 0 :: u 1 :: u 2 :: u 3 :: u 4 :: u 5 :: u 6 :: u 7 :: u 8 :: u 9 :: undef :: undef :: undef :: undef :: undef :: undef :: undef :: undef :: []).toArray) (Holds [.oth (fun v => v = .int .i64 0), .oth (fun v => v = .bool false), .oth (fun v => v = .bool false), .oth (fun v => v = .bool true), .oth (fun v => v = .bool true), .val rE [X], .val rE [0], .oth (fun v => v = .bool true), .oth (fun v => v = .bool true), .oth (fun v => v = .bool true)] W10d) (Keep [.oth (fun v => v = .int .i64 0), .oth (fun v => v = .bool false), .oth (fun v => v = .bool false), .oth (fun v => v = .bool true), .oth (fun v => v = .bool true), .val rE [X], .val rE [0], .oth (fun v => v = .bool true), .oth (fun v => v = .bool true), .oth (fun v => v = .bool true)] W10d) (fun _ => undef) ?_ (by rfl) Keep.start (holds_soft (by kernel_rfl)) ?_ ?_
          · intro u i v h
            rcases i with _ | _ | _ | _ | _ | _ | _ | _ | _ | _ | i
            all_goals first | (simp [Act.put, putV]; done) | (exfalso; simp at h; omega)
          · intro hs
            refine ⟨?_, ?_, ?_, ?_, ?_, ?_, ?_, ?_, ?_, ?_, trivial⟩
            · exact step_pureO hs (wants_none rfl) rfl fun L u W hG hdep => ⟨_, run_move rfl, HC6.out⟩
            · refine step_pureO hs (wants_none rfl) rfl fun L u W hG hdep => ⟨_, ?_, rfl⟩
              have e0 := (show u 0 = .int .i64 0 from hG 0 (hdep 0 (by kernel_rfl)))
              go_simp
              try simp [bne]
            · exact step_pureO hs (wants_none rfl) rfl fun L u W hG hdep => ⟨_, run_move rfl, (show u 1 = .bool false from hG 1 (hdep 1 (by kernel_rfl)))⟩
            · exact step_pureO hs (wants_on 2 rfl rfl (by kernel_rfl) (fun _ => rfl)) rfl fun L u W hG hdep => ⟨_, run_move rfl, HC4.out⟩
            · exact step_pureO hs (wants_on 2 rfl rfl (by kernel_rfl) (fun _ => rfl)) rfl fun L u W hG hdep => ⟨_, run_move rfl, (show u 3 = .bool true from hG 3 (hdep 3 (by kernel_rfl)))⟩
            · exact step_load q9 0 hs (wants_on 4 rfl rfl (by kernel_rfl) (fun _ => rfl)) rfl rfl tyE (fun _ => E9.out) hm9.lt hm9 (noSto_apart (by kernel_rfl))
            · exact step_pure hs (wants_on 4 rfl rfl (by kernel_rfl) (fun _ => rfl)) rfl fun L u W hG hdep => run_build0 rfl (buildE0 W)
            · refine step_callO hs (wants_on 4 rfl rfl (by kernel_rfl) (fun _ => rfl)) rfl fun L u W hJ hG hL hdep K hK => ?_
              have a0 := (show IsFs rE (u 5) [X] from hG 5 (hdep 5 (by kernel_rfl)))
              have a1 := (show IsFs rE (u 6) [0] from hG 6 (hdep 6 (by kernel_rfl)))
              go_simp
              go_at_call 44
              (with_reducible refine (cSame (b := true) (decide_eq_true HX0.out) a0 a1 _).mono ?_); rintro e w1 ⟨rfl, hb⟩
              have hk := hK.out _ _ rfl hb
              exact hk
            · exact step_pick true hs (wants_on 2 rfl rfl (by kernel_rfl) (fun _ => rfl)) rfl rfl (fun L u W hG hdep => (show u 4 = .bool true from hG 4 (hdep 4 (by kernel_rfl)))) (fun L u W hG hdep => (show u 7 = .bool true from hG 7 (hdep 7 (by kernel_rfl))))
            · exact step_pick false hs (wants_none rfl) rfl rfl (fun L u W hG hdep => (show u 2 = .bool false from hG 2 (hdep 2 (by kernel_rfl)))) (fun L u W hG hdep => (show u 8 = .bool true from hG 8 (hdep 8 (by kernel_rfl))))
          intro L11 u11e W11e hall hJ hG
          have hb := hJ.all rfl
          have hbel := Below.call hbel hb
          have hm5 := hm5.later hb
          have hm7 := hm7.later hb
          have hm8 := hm8.later hb
          have hm9 := hm9.later hb
          have ht2 := there_later ht2 hb
          have ht5 := there_later ht5 hb
          have ht7 := there_later ht7 hb
          have ht8 := there_later ht8 hb
          have ht9 := there_later ht9 hb
          have HKB := Lib.hid (HKB.out.below' hb)
          have HC53 := Lib.hid (show u11e 1 = .bool false from hG 1 (by simp))
          have HC54 := Lib.hid (show u11e 2 = .bool false from hG 2 (by simp))
          have HC55 := Lib.hid (show u11e 3 = .bool true from hG 3 (by simp))
          have HC56 := Lib.hid (show u11e 4 = .bool true from hG 4 (by simp))
          have HC59 := Lib.hid (show u11e 7 = .bool true from hG 7 (by simp))
          have HC60 := Lib.hid (show u11e 8 = .bool true from hG 8 (by simp))
          have HC61 := Lib.hid (show u11e 9 = .bool true from hG 9 (by simp))
          have hbel0 := hbel
          clear hJ hG hall hb
          have hx : u11e 9 = .bool true := HC61.out
          go_wp2_with fail
          rw [hx]
          clear hx
          go_upto_region 12 with fail
          refine wp_region_turn (fun u => (.slice (some ⟨gB, 0, none⟩) 32 cB :: undef :: u0 0 :: u 2 :: u3 5 :: u6b 5 :: u10d 16 :: u9b 4 :: u9b 5 :: u10d 14 :: u1 0 :: u1 1 :: .bool false :: undef :: u3 0 :: u3 1 :: u3 2 :: u3 3 :: u3 4 :: .slice (some ⟨bb, q, none⟩) 32 cap :: .slice (some ⟨gB, 0, none⟩) 32 cB :: u5 0 :: u5 1 :: u5 2 :: u5 3 :: u5 4 :: u6b 2 :: u6b 0 :: u6b 1 :: u6b 3 :: u6b 4 :: u7b 0 :: .bool false :: undef :: u9b 0 :: u9b 1 :: u9b 2 :: u9b 3 :: u10d 11 :: u10d 0 :: u10d 1 :: u10d 2 :: u10d 3 :: u10d 4 :: u10d 5 :: u10d 6 :: u10d 7 :: u10d 8 :: u10d 9 :: u10d 10 :: u10d 12 :: u10d 13 :: u11e 0 :: u11e 1 :: u11e 2 :: u11e 3 :: u11e 4 :: u11e 5 :: u11e 6 :: u11e 7 :: u11e 8 :: .bool true :: u 0 :: undef :: undef :: undef :: undef :: undef :: undef :: undef :: []).toArray) (Holds [.val rP [Cp.zero], .sto q2 rP [Cp.zero], .oth (fun v => v = .int .i64 12)] W11e) (Keep [.val rP [Cp.zero], .sto q2 rP [Cp.zero], .oth (fun v => v = .int .i64 12)] W11e) (fun k => ((undef :: undef :: u0 1 :: []) : List Value).getD k undef) ?_ (by rfl) Keep.start (holds_soft (by kernel_rfl)) ?_ ?_
          · intro u i v h
            rcases i with _ | _ | _ | i
            all_goals first | (simp [Act.put, putV]; done) | (exfalso; simp at h; omega)
          · intro hs
            refine ⟨?_, ?_, ?_, trivial⟩
            · exact step_pure hs (wants_none rfl) rfl fun L u W hG hdep => run_build0 rfl (build_P0 W)
            · refine step_storeO q2 20 hs (wants_none rfl) rfl rfl (by kernel_rfl) (fun k hk => ?_) (fun _ => E2.out) (there_lt ht2 (by omega)) ht2 (gives_op 0 rfl (by kernel_rfl) (fun _ => rfl)) tyP rfl
              rcases k with _ | _ | _ | k
              all_goals first | (exact absurd rfl hk) | (intro e; cases e; done)
            · exact step_pureO hs (wants_none rfl) rfl fun L u W hG hdep => ⟨_, run_assign rfl, rfl⟩
          intro L12 u12e W12e hall hJ hG
          have hb : Below w.heap.size W11e W12e := hJ.below (by have := hbel.size; omega) (fun k b hf => by rcases k with _ | _ | _ | k <;> first | (cases hf; done) | (cases hf; omega))
          have hbel := hbel.trans hb
          have hm5 := hm5.blk (hJ.block _ (hm5.lt) (fun k hk => by rcases k with _ | _ | _ | k <;> first | (cases hk; done) | (cases hk; exact absurd rfl HD5_q2.out)))
          have hm7 := hm7.blk (hJ.block _ (hm7.lt) (fun k hk => by rcases k with _ | _ | _ | k <;> first | (cases hk; done) | (cases hk; exact absurd rfl HD7_q2.out)))
          have hm8 := hm8.blk (hJ.block _ (hm8.lt) (fun k hk => by rcases k with _ | _ | _ | k <;> first | (cases hk; done) | (cases hk; exact absurd rfl HD8_q2.out)))
          have hm9 := hm9.blk (hJ.block _ (hm9.lt) (fun k hk => by rcases k with _ | _ | _ | k <;> first | (cases hk; done) | (cases hk; exact absurd rfl HD9_q2.out)))
          have ht5 := there_blk ht5 (hJ.block _ (there_lt ht5 (by omega)) (fun k hk => by rcases k with _ | _ | _ | k <;> first | (cases hk; done) | (cases hk; exact absurd rfl HD5_q2.out)))
          have ht7 := there_blk ht7 (hJ.block _ (there_lt ht7 (by omega)) (fun k hk => by rcases k with _ | _ | _ | k <;> first | (cases hk; done) | (cases hk; exact absurd rfl HD7_q2.out)))
          have ht8 := there_blk ht8 (hJ.block _ (there_lt ht8 (by omega)) (fun k hk => by rcases k with _ | _ | _ | k <;> first | (cases hk; done) | (cases hk; exact absurd rfl HD8_q2.out)))
          have ht9 := there_blk ht9 (hJ.block _ (there_lt ht9 (by omega)) (fun k hk => by rcases k with _ | _ | _ | k <;> first | (cases hk; done) | (cases hk; exact absurd rfl HD9_q2.out)))
          have HKB := Lib.hid (blk_keep HKB.out (hJ.block _ (HKB.out.lt) (fun k hk => by rcases k with _ | _ | _ | k <;> first | (cases hk; done) | (cases hk; exact absurd rfl HE_q2.out))))
          obtain ⟨_, hs12_1t, hs12_1⟩ := (show _ ∧ W12e.there q2 0 20 ∧ HasFs rP W12e q2 0 [Cp.zero] from hG 1 (by simp))
          have HC3 := Lib.hid (show u12e 2 = .int .i64 12 from hG 2 (by simp))
          have hbel0 := hbel
          clear hJ hG hall hb
          go_wp2
          exact ret_cell_slot (R := rP) Try.results10 (by exact E2.out) (by exact HC3.out) hs12_1 tyP rfl (fun r hr => ⟨r, by rw [(dec_sgn HL.out HLW.out HY.out HRC.out HS.out (HX.out.trans HX0.out)).2], by rw [(dec_sgn HL.out HLW.out HY.out HRC.out HS.out (HX.out.trans HX0.out)).1]; exact hr, hbel⟩)
        · have HX0 := Lib.hid hx0; clear hx0
          go_upto_region 11 with fail
          refine wp_region_turn (fun u => (.slice (some ⟨gB, 0, none⟩) 32 cB :: undef :: u0 0 :: u0 1 :: u3 5 :: u6b 5 :: u10d 16 :: u9b 4 :: u9b 5 :: u10d 14 :: u1 0 :: u1 1 :: .bool false :: undef :: u3 0 :: u3 1 :: u3 2 :: u3 3 :: u3 4 :: .slice (some ⟨bb, q, none⟩) 32 cap :: .slice (some ⟨gB, 0, none⟩) 32 cB :: u5 0 :: u5 1 :: u5 2 :: u5 3 :: u5 4 :: u6b 2 :: u6b 0 :: u6b 1 :: u6b 3 :: u6b 4 :: u7b 0 :: .bool false :: undef :: u9b 0 :: u9b 1 :: u9b 2 :: u9b 3 :: u10d 11 :: u10d 0 :: u10d 1 :: u10d 2 :: u10d 3 :: u10d 4 :: u10d 5 :: u10d 6 :: u10d 7 :: u10d 8 :: u10d 9 :: u10d 10 :: u10d 12 :: u10d 13 :: u 0 :: u 1 :: u 2 :: u 3 :: u 4 :: u 5 :: u 6 :: u 7 :: u 8 :: u 9 :: undef :: undef :: undef :: undef :: undef :: undef :: undef :: undef :: []).toArray) (Holds [.oth (fun v => v = .int .i64 0), .oth (fun v => v = .bool false), .oth (fun v => v = .bool false), .oth (fun v => v = .bool true), .oth (fun v => v = .bool true), .val rE [X], .val rE [0], .oth (fun v => v = .bool false), .oth (fun v => v = .bool false), .oth (fun v => v = .bool false)] W10d) (Keep [.oth (fun v => v = .int .i64 0), .oth (fun v => v = .bool false), .oth (fun v => v = .bool false), .oth (fun v => v = .bool true), .oth (fun v => v = .bool true), .val rE [X], .val rE [0], .oth (fun v => v = .bool false), .oth (fun v => v = .bool false), .oth (fun v => v = .bool false)] W10d) (fun _ => undef) ?_ (by rfl) Keep.start (holds_soft (by kernel_rfl)) ?_ ?_
          · intro u i v h
            rcases i with _ | _ | _ | _ | _ | _ | _ | _ | _ | _ | i
            all_goals first | (simp [Act.put, putV]; done) | (exfalso; simp at h; omega)
          · intro hs
            refine ⟨?_, ?_, ?_, ?_, ?_, ?_, ?_, ?_, ?_, ?_, trivial⟩
            · exact step_pureO hs (wants_none rfl) rfl fun L u W hG hdep => ⟨_, run_move rfl, HC6.out⟩
            · refine step_pureO hs (wants_none rfl) rfl fun L u W hG hdep => ⟨_, ?_, rfl⟩
              have e0 := (show u 0 = .int .i64 0 from hG 0 (hdep 0 (by kernel_rfl)))
              go_simp
              try simp [bne]
            · exact step_pureO hs (wants_none rfl) rfl fun L u W hG hdep => ⟨_, run_move rfl, (show u 1 = .bool false from hG 1 (hdep 1 (by kernel_rfl)))⟩
            · exact step_pureO hs (wants_on 2 rfl rfl (by kernel_rfl) (fun _ => rfl)) rfl fun L u W hG hdep => ⟨_, run_move rfl, HC4.out⟩
            · exact step_pureO hs (wants_on 2 rfl rfl (by kernel_rfl) (fun _ => rfl)) rfl fun L u W hG hdep => ⟨_, run_move rfl, (show u 3 = .bool true from hG 3 (hdep 3 (by kernel_rfl)))⟩
            · exact step_load q9 0 hs (wants_on 4 rfl rfl (by kernel_rfl) (fun _ => rfl)) rfl rfl tyE (fun _ => E9.out) hm9.lt hm9 (noSto_apart (by kernel_rfl))
            · exact step_pure hs (wants_on 4 rfl rfl (by kernel_rfl) (fun _ => rfl)) rfl fun L u W hG hdep => run_build0 rfl (buildE0 W)
            · refine step_callO hs (wants_on 4 rfl rfl (by kernel_rfl) (fun _ => rfl)) rfl fun L u W hJ hG hL hdep K hK => ?_
              have a0 := (show IsFs rE (u 5) [X] from hG 5 (hdep 5 (by kernel_rfl)))
              have a1 := (show IsFs rE (u 6) [0] from hG 6 (hdep 6 (by kernel_rfl)))
              go_simp
              go_at_call 44
              (with_reducible refine (cSame (b := false) (decide_eq_false HX0.out) a0 a1 _).mono ?_); rintro e w1 ⟨rfl, hb⟩
              have hk := hK.out _ _ rfl hb
              exact hk
            · exact step_pick true hs (wants_on 2 rfl rfl (by kernel_rfl) (fun _ => rfl)) rfl rfl (fun L u W hG hdep => (show u 4 = .bool true from hG 4 (hdep 4 (by kernel_rfl)))) (fun L u W hG hdep => (show u 7 = .bool false from hG 7 (hdep 7 (by kernel_rfl))))
            · exact step_pick false hs (wants_none rfl) rfl rfl (fun L u W hG hdep => (show u 2 = .bool false from hG 2 (hdep 2 (by kernel_rfl)))) (fun L u W hG hdep => (show u 8 = .bool false from hG 8 (hdep 8 (by kernel_rfl))))
          intro L11 u11f W11f hall hJ hG
          have hb := hJ.all rfl
          have hbel := Below.call hbel hb
          have hm5 := hm5.later hb
          have hm7 := hm7.later hb
          have hm8 := hm8.later hb
          have hm9 := hm9.later hb
          have ht2 := there_later ht2 hb
          have ht5 := there_later ht5 hb
          have ht7 := there_later ht7 hb
          have ht8 := there_later ht8 hb
          have ht9 := there_later ht9 hb
          have HKB := Lib.hid (HKB.out.below' hb)
          have HC53 := Lib.hid (show u11f 1 = .bool false from hG 1 (by simp))
          have HC54 := Lib.hid (show u11f 2 = .bool false from hG 2 (by simp))
          have HC55 := Lib.hid (show u11f 3 = .bool true from hG 3 (by simp))
          have HC56 := Lib.hid (show u11f 4 = .bool true from hG 4 (by simp))
          have HC59 := Lib.hid (show u11f 7 = .bool false from hG 7 (by simp))
          have HC60 := Lib.hid (show u11f 8 = .bool false from hG 8 (by simp))
          have HC61 := Lib.hid (show u11f 9 = .bool false from hG 9 (by simp))
          have hbel0 := hbel
          clear hJ hG hall hb
          have hx : u11f 9 = .bool false := HC61.out
          go_wp2_with fail
          rw [hx]
          clear hx
          go_upto_region 13 with fail
          refine wp_region_mid (fun u => (.slice (some ⟨gB, 0, none⟩) 32 cB :: undef :: u0 0 :: u 8 :: u3 5 :: u6b 5 :: u10d 16 :: u9b 4 :: u9b 5 :: u10d 14 :: u1 0 :: u1 1 :: .bool false :: undef :: u3 0 :: u3 1 :: u3 2 :: u3 3 :: u3 4 :: .slice (some ⟨bb, q, none⟩) 32 cap :: .slice (some ⟨gB, 0, none⟩) 32 cB :: u5 0 :: u5 1 :: u5 2 :: u5 3 :: u5 4 :: u6b 2 :: u6b 0 :: u6b 1 :: u6b 3 :: u6b 4 :: u7b 0 :: .bool false :: undef :: u9b 0 :: u9b 1 :: u9b 2 :: u9b 3 :: u10d 11 :: u10d 0 :: u10d 1 :: u10d 2 :: u10d 3 :: u10d 4 :: u10d 5 :: u10d 6 :: u10d 7 :: u10d 8 :: u10d 9 :: u10d 10 :: u10d 12 :: u10d 13 :: u11f 0 :: u11f 1 :: u11f 2 :: u11f 3 :: u11f 4 :: u11f 5 :: u11f 6 :: u11f 7 :: u11f 8 :: .bool false :: undef :: u 0 :: u 1 :: u 2 :: u 3 :: u 4 :: u 5 :: u 6 :: []).toArray) (Holds [.oth (fun v => v = .bool true), .val rE [X], .val rE [-X], .val rE [X], .val rE [-X], .val rE [y], .val rE [-X, y, fn 1, (-X) * y], .sto q2 rE [-X, y, fn 1, (-X) * y], .oth (fun v => v = .int .i64 0)] W11f) (Keep [.oth (fun v => v = .bool true), .val rE [X], .val rE [-X], .val rE [X], .val rE [-X], .val rE [y], .val rE [-X, y, fn 1, (-X) * y], .sto q2 rE [-X, y, fn 1, (-X) * y], .oth (fun v => v = .int .i64 0)] W11f) (fun k => ((undef :: undef :: undef :: undef :: undef :: undef :: undef :: undef :: u0 1 :: []) : List Value).getD k undef) (by kernel_rfl) (by kernel_rfl) ?_ (by rfl) Keep.drew (holds_soft (by kernel_rfl)) ?_ ?_
          · intro u i v h
            rcases i with _ | _ | _ | _ | _ | _ | _ | _ | _ | i
            all_goals first | (simp [Act.put, putV]; done) | (exfalso; simp at h; omega)
          · intro hs
            refine ⟨?_, ?_, ?_, ?_, ?_, ?_, ?_, ?_, ?_, trivial⟩
            · exact step_pureO hs (wants_none rfl) rfl fun L u W hG hdep => ⟨_, run_move rfl, HC4.out⟩
            · exact step_load q9 0 hs (wants_none rfl) rfl rfl tyE (fun _ => E9.out) hm9.lt hm9 (fun k g hk => by rcases k with _ | _ | _ | _ | _ | _ | _ | _ | _ | k <;> first | (cases hk; done) | (cases hk; exact .inr HD9_q2.out))
            · refine step_call hs (wants_none rfl) rfl fun L u W hJ hG hL hdep K hK => ?_
              have a0 := (show IsFs rE (u 1) [X] from hG 1 (hdep 1 (by kernel_rfl)))
              go_simp
              go_at_call 47
              (with_reducible refine (cNeg a0 _).mono ?_); rintro e w1 ⟨r, rfl, hr, hb⟩
              have hk := hK.out _ _ hr hb
              exact hk
            · exact step_load q9 0 hs (wants_none rfl) rfl rfl tyE (fun _ => E9.out) hm9.lt hm9 (fun k g hk => by rcases k with _ | _ | _ | _ | _ | _ | _ | _ | _ | k <;> first | (cases hk; done) | (cases hk; exact .inr HD9_q2.out))
            · refine step_call hs (wants_none rfl) rfl fun L u W hJ hG hL hdep K hK => ?_
              have a0 := (show IsFs rE (u 2) [-X] from hG 2 (hdep 2 (by kernel_rfl)))
              have a1 := (show IsFs rE (u 3) [X] from hG 3 (hdep 3 (by kernel_rfl)))
              have x0 := (show u 0 = .bool true from hG 0 (hdep 0 (by kernel_rfl)))
              go_simp
              go_at_call 46
              (with_reducible refine (cPick (b := true) rfl a0 a1 _).mono ?_); rintro e w1 ⟨r, rfl, hr, hb⟩
              have hk := hK.out _ _ hr hb
              simp only [x0] at hk
              exact hk
            · exact step_load q5 0 hs (wants_none rfl) rfl rfl tyE (fun _ => E5.out) hm5.lt hm5 (fun k g hk => by rcases k with _ | _ | _ | _ | _ | _ | _ | _ | _ | k <;> first | (cases hk; done) | (cases hk; exact .inr HD5_q2.out))
            · refine step_call hs (wants_none rfl) rfl fun L u W hJ hG hL hdep K hK => ?_
              have a0 := (show IsFs rE (u 4) [-X] from hG 4 (hdep 4 (by kernel_rfl)))
              have a1 := (show IsFs rE (u 5) [y] from hG 5 (hdep 5 (by kernel_rfl)))
              go_simp
              go_at_call 45
              (with_reducible refine (cPoint a0 a1 _).mono ?_); rintro e w1 ⟨r, rfl, hr, hb⟩
              have hk := hK.out _ _ hr hb
              exact hk
            · refine step_storeO q2 20 hs (wants_none rfl) rfl rfl (by kernel_rfl) (fun k hk => ?_) (fun _ => E2.out) (there_lt ht2 (by omega)) ht2 (gives_op 6 rfl (by kernel_rfl) (fun _ => rfl)) tyP4 rfl
              rcases k with _ | _ | _ | _ | _ | _ | _ | _ | _ | k
              all_goals first | (exact absurd rfl hk) | (intro e; cases e; done)
            · exact step_pureO hs (wants_none rfl) rfl fun L u W hG hdep => ⟨_, run_assign rfl, rfl⟩
          intro L13 u13f W13f hall hJ hG
          have hb : Below w.heap.size W11f W13f := hJ.below (by have := hbel.size; omega) (fun k b hf => by rcases k with _ | _ | _ | _ | _ | _ | _ | _ | _ | k <;> first | (cases hf; done) | (cases hf; omega))
          have hbel := hbel.trans hb
          have hm5 := hm5.blk (hJ.block _ (hm5.lt) (fun k hk => by rcases k with _ | _ | _ | _ | _ | _ | _ | _ | _ | k <;> first | (cases hk; done) | (cases hk; exact absurd rfl HD5_q2.out)))
          have hm7 := hm7.blk (hJ.block _ (hm7.lt) (fun k hk => by rcases k with _ | _ | _ | _ | _ | _ | _ | _ | _ | k <;> first | (cases hk; done) | (cases hk; exact absurd rfl HD7_q2.out)))
          have hm8 := hm8.blk (hJ.block _ (hm8.lt) (fun k hk => by rcases k with _ | _ | _ | _ | _ | _ | _ | _ | _ | k <;> first | (cases hk; done) | (cases hk; exact absurd rfl HD8_q2.out)))
          have hm9 := hm9.blk (hJ.block _ (hm9.lt) (fun k hk => by rcases k with _ | _ | _ | _ | _ | _ | _ | _ | _ | k <;> first | (cases hk; done) | (cases hk; exact absurd rfl HD9_q2.out)))
          have ht5 := there_blk ht5 (hJ.block _ (there_lt ht5 (by omega)) (fun k hk => by rcases k with _ | _ | _ | _ | _ | _ | _ | _ | _ | k <;> first | (cases hk; done) | (cases hk; exact absurd rfl HD5_q2.out)))
          have ht7 := there_blk ht7 (hJ.block _ (there_lt ht7 (by omega)) (fun k hk => by rcases k with _ | _ | _ | _ | _ | _ | _ | _ | _ | k <;> first | (cases hk; done) | (cases hk; exact absurd rfl HD7_q2.out)))
          have ht8 := there_blk ht8 (hJ.block _ (there_lt ht8 (by omega)) (fun k hk => by rcases k with _ | _ | _ | _ | _ | _ | _ | _ | _ | k <;> first | (cases hk; done) | (cases hk; exact absurd rfl HD8_q2.out)))
          have ht9 := there_blk ht9 (hJ.block _ (there_lt ht9 (by omega)) (fun k hk => by rcases k with _ | _ | _ | _ | _ | _ | _ | _ | _ | k <;> first | (cases hk; done) | (cases hk; exact absurd rfl HD9_q2.out)))
          have HKB := Lib.hid (blk_keep HKB.out (hJ.block _ (HKB.out.lt) (fun k hk => by rcases k with _ | _ | _ | _ | _ | _ | _ | _ | _ | k <;> first | (cases hk; done) | (cases hk; exact absurd rfl HE_q2.out))))
          obtain ⟨_, hs13_7t, hs13_7⟩ := (show _ ∧ W13f.there q2 0 20 ∧ HasFs rE W13f q2 0 [-X, y, fn 1, (-X) * y] from hG 7 (by simp))
          have HC63 := Lib.hid (show u13f 0 = .bool true from hG 0 (by simp))
          have HC3 := Lib.hid (show u13f 8 = .int .i64 0 from hG 8 (by simp))
          have hbel0 := hbel
          clear hJ hG hall hb
          go_wp2
          exact ret_cell_slot (R := rE) Try.results10 (by exact E2.out) (by exact HC3.out) hs13_7 tyP4 rfl (fun r hr => ⟨r, by rw [(dec_yes HL.out HLW.out HY.out HRC.out HS.out (fun k => HX0.out (HX.out.symm.trans k.2))).1], toP (isPr hr (dec_pext (by rw [(dec_yes HL.out HLW.out HY.out HRC.out HS.out (fun k => HX0.out (HX.out.symm.trans k.2))).2.1, HX.out]; rfl) (dec_yes HL.out HLW.out HY.out HRC.out HS.out (fun k => HX0.out (HX.out.symm.trans k.2))).2.2)), hbel⟩)
theorem cDecode {a : Option Addr} {n cap : Nat} {l : List UInt8} {P : EP} {c : Int} {w : World} (hP : decV l = P) (hc : decC l = c) (h : RdB w a n cap l) :
    Calls Try.prog 10 #[.slice a n cap] w fun e w' => ∃ r, e = .returned (.tuple #[r, .int .i64 c]) ∧ IsFs rP r [P] ∧ Below w.heap.size w w' := by
  subst hP hc
  by_cases hn : n = 32
  · subst hn
    obtain ⟨b, q, rfl, hc0⟩ := h.get 31 (by rw [h.hlen]; omega)
    exact decode_32 w rfl h
  · obtain ⟨e1, e2⟩ := dec_len (b := l) (by rw [h.hlen]; exact hn)
    rw [e1, e2]
    exact decode_len w hn
end Go.Proofs.Ytjchdhpijopikaa
namespace Go.Proofs.Ytjchdhpijopikaa
open Go Go.RowKit
theorem dec_base : decV (88 :: List.replicate 31 102) = base ∧ decC (88 :: List.replicate 31 102) = 0 := by
  rw [← base_enc]
  unfold decV decC
  rw [decP_enc]
  exact ⟨rfl, rfl⟩
set_option maxRecDepth 100000 in
set_option maxHeartbeats 4000000 in
theorem cBase (w : World) : Calls Try.prog 16 #[] w fun e w' => ∃ r, e = .returned r ∧ IsFs rP r [base] ∧ Below w.heap.size w w' := by
  go_enter Try.func16, Try.ntmps16
  go_upto_region 3 with (go_at_call 63; go_must (refine (repeat_32' (k := w.heap.size + 1 + 1) (by simp) ?_).mono ?_; (focus (exact Blk.new' (cs := #[.int .u8 102]) (by simp))); rintro e w1 ⟨rfl, hB, hb⟩; have hN := hB.frozen 0; have hC : w1.cell? ⟨w.heap.size + 1 + 1, 0, none⟩ = some (.int .u8 102) := (by rw [hB.cell 0]; rfl); have HB := Lib.hid hB; have hbel : Below w.heap.size w w1 := Below.call (by repeat (first | (with_reducible refine Below.alloc' ?_ _) | (with_reducible refine Below.drew ?_) | (with_reducible refine below_drewN ?_ _) | ((with_reducible refine Below.setCell ?_ ?_ _); rotate_left; (focus (first | exact Nat.le_refl _ | (simp; done) | (simp; omega)))) | (with_reducible assumption) | (with_reducible exact Below.refl _ _))) hb; have htk : w1.there w.heap.size 0 20 := (fun j hj => (by have hO := (show Blk _ w.heap.size [.int .u64 0,.int .u64 0,.int .u64 0,.int .u64 0,.int .u64 0,.int .u64 0,.int .u64 0,.int .u64 0,.int .u64 0,.int .u64 0,.int .u64 0,.int .u64 0,.int .u64 0,.int .u64 0,.int .u64 0,.int .u64 0,.int .u64 0,.int .u64 0,.int .u64 0,.int .u64 0] 29 from (by repeat (first | (with_reducible refine Blk.drew ?_) | exact Blk.new' (by simp) | (with_reducible refine Blk.alloc ?_ _)))).below' hb; rw [Nat.zero_add, hO.cell, hO.frozen, List.getElem?_eq_getElem (by simp; omega)]; exact ⟨rfl, rfl⟩)); clear hb hB))
  have hD : Blk (w1.setCell ⟨w.heap.size + 1 + 1, 0, none⟩ (.int .u8 88)) (w.heap.size + 1 + 1) ((88 :: List.replicate 31 102).map bV ++ []) 5 := HB.out.set 0 (.int .u8 88)
  have hbel2 : Below w.heap.size w (w1.setCell ⟨w.heap.size + 1 + 1, 0, none⟩ (.int .u8 88)) := hbel.setCell (by simp; omega) _
  have htk2 : (w1.setCell ⟨w.heap.size + 1 + 1, 0, none⟩ (.int .u8 88)).there w.heap.size 0 20 := there_blk htk (set_other (by omega) _ _)
  clear hbel htk HB hN hC
  generalize w1.setCell ⟨w.heap.size + 1 + 1, 0, none⟩ (.int .u8 88) = W at *
  have hbel := hbel2
  have hbel0 := hbel
  have HD := Lib.hid hD
  clear hbel2 hD
  refine wp_region_turn (fun u => #[.pointer (some ⟨w.heap.size, 0, none⟩), .slice (some ⟨w.heap.size + 1 + 1, 0, none⟩) 32 32, u 5, u 7, .slice (some ⟨w.heap.size + 1, 0, none⟩) 1 1, .slice (some ⟨w.heap.size + 1 + 1, 0, none⟩) 32 32, .slice (some ⟨w.heap.size + 1 + 1, 0, none⟩) 32 32, .pointer (some ⟨w.heap.size + 1 + 1, 0, none⟩), u 2, u 0, u 1, u 3, u 4, undef]) (Holds [.oth (fun v => v = .slice (some ⟨w.heap.size + 1 + 1, 0, none⟩) 32 32), .oth (fun v => IsTV rP v [base] (.int .i64 0)), .oth (fun v => IsTV rP v [base] (.int .i64 0)), .val rP [base], .oth (fun v => v = .int .i64 0), .new 20, .st 5 rP [base], .oth (fun v => v = .int .i64 0)] W) (Keep [.oth (fun v => v = .slice (some ⟨w.heap.size + 1 + 1, 0, none⟩) 32 32), .oth (fun v => IsTV rP v [base] (.int .i64 0)), .oth (fun v => IsTV rP v [base] (.int .i64 0)), .val rP [base], .oth (fun v => v = .int .i64 0), .new 20, .st 5 rP [base], .oth (fun v => v = .int .i64 0)] W) (fun _ => undef) ?_ (by rfl) Keep.start (holds_soft (by kernel_rfl)) ?_ ?_
  · intro u i v h
    rcases i with _ | _ | _ | _ | _ | _ | _ | _ | i
    all_goals first | (simp [Act.put, putV]; done) | (exfalso; simp at h; omega)
  · intro hs
    refine ⟨?_, ?_, ?_, ?_, ?_, ?_, ?_, ?_, trivial⟩
    · exact step_pureO hs (wants_none rfl) rfl fun L u W hG hdep => ⟨_, run_move rfl, rfl⟩
    · refine step_callO hs (wants_none rfl) rfl fun L u W hJ hG hL hdep K hK => ?_
      have x0 := (show u 0 = .slice (some ⟨w.heap.size + 1 + 1, 0, none⟩) 32 32 from hG 0 (hdep 0 (by kernel_rfl)))
      have hRB0 := ((RdB.blk (n := 32) (cap := 32) [] HD.out (by rfl) (Nat.le_refl _) (by unfold maxLen; omega)).below (Below.refl _ _)).below (hJ.all rfl)
      go_simp
      go_at_call 10
      (with_reducible refine (cDecode dec_base.1 dec_base.2 hRB0).mono ?_); rintro e w1 ⟨r, rfl, hr, hb⟩
      have hk := hK.out _ _ ⟨r, rfl, hr⟩ hb
      simp only [x0] at hk
      exact hk
    · exact step_pureO hs (wants_none rfl) rfl fun L u W hG hdep => ⟨_, run_move rfl, (show IsTV rP (u 1) [base] (.int .i64 0) from hG 1 (hdep 1 (by kernel_rfl)))⟩
    · exact step_pure hs (wants_none rfl) rfl fun L u W hG hdep => run_extractV0 rfl (show IsTV rP (u 2) [base] (.int .i64 0) from hG 2 (hdep 2 (by kernel_rfl)))
    · exact step_pureO hs (wants_none rfl) rfl fun L u W hG hdep => run_extractV1 rfl (show IsTV rP (u 2) [base] (.int .i64 0) from hG 2 (hdep 2 (by kernel_rfl)))
    · exact step_alloc hs (wants_none rfl) rfl rfl (by omega) rfl allocP
    · exact step_store 5 hs (by kernel_rfl) (wants_none rfl) rfl rfl rfl (by kernel_rfl) (by kernel_rfl) (by kernel_rfl) (by kernel_rfl) (fun _ => rfl) (gives_op 3 rfl (by kernel_rfl) (fun _ => rfl)) tyP rfl
    · exact step_pureO hs (wants_none rfl) rfl fun L u W hG hdep => ⟨_, run_assign rfl, (show u 4 = .int .i64 0 from hG 4 (hdep 4 (by kernel_rfl)))⟩
  intro L3 u3 W3 hall hJ hG
  obtain ⟨q2, e2, hq2, _, ht2⟩ := (show ∃ g, u3 5 = .pointer (some ⟨g, 0, none⟩) ∧ W.heap.size ≤ g ∧ 0 < 20 ∧ W3.there g 0 20 from hG 5 (by simp))
  have hm2 : HasFs rP W3 q2 0 [base] := by
    obtain ⟨g, e, _, h⟩ := (show ∃ g, u3 5 = .pointer (some ⟨g, 0, none⟩) ∧ W.heap.size ≤ g ∧ HasFs rP W3 g 0 [base] from hG 6 (by simp))
    rw [e2] at e; cases e; exact h
  have HD2_wheapsize := Lib.hid (show w.heap.size ≠ q2 by have := there_lt htk2 (by omega); omega)
  have hq2 : w.heap.size ≤ q2 := by have := hbel0.size; omega
  have E2 := Lib.hid e2; clear e2
  have hb := hJ.all rfl
  have hbel := Below.call hbel hb
  have htk2 := there_later htk2 hb
  have HD := Lib.hid (HD.out.below' hb)
  have hbel0 := hbel
  clear hJ hG hall hb
  go_upto_region 4 with fail
  refine wp_region_turn (fun u => #[.pointer (some ⟨w.heap.size, 0, none⟩), .slice (some ⟨w.heap.size + 1 + 1, 0, none⟩) 32 32, u3 5, u3 7, .slice (some ⟨w.heap.size + 1, 0, none⟩) 1 1, .slice (some ⟨w.heap.size + 1 + 1, 0, none⟩) 32 32, .slice (some ⟨w.heap.size + 1 + 1, 0, none⟩) 32 32, .pointer (some ⟨w.heap.size + 1 + 1, 0, none⟩), u3 2, u3 0, u3 1, u3 3, u3 4, u 0]) (Holds [.val rP [base], .sto w.heap.size rP [base]] W3) (Keep [.val rP [base], .sto w.heap.size rP [base]] W3) (fun _ => undef) ?_ (by rfl) Keep.start (holds_soft (by kernel_rfl)) ?_ ?_
  · intro u i v h
    rcases i with _ | _ | i
    all_goals first | (simp [Act.put, putV]; done) | (exfalso; simp at h; omega)
  · intro hs
    refine ⟨?_, ?_, trivial⟩
    · exact step_load q2 0 hs (wants_none rfl) rfl rfl tyP (fun _ => E2.out) hm2.lt hm2 (fun k g hk => by rcases k with _ | _ | k <;> first | (cases hk; done) | (cases hk; exact .inr HD2_wheapsize.out))
    · refine step_storeO w.heap.size 20 hs (wants_none rfl) rfl rfl (by kernel_rfl) (fun k hk => ?_) (fun _ => rfl) (there_lt htk2 (by omega)) htk2 (gives_op 0 rfl (by kernel_rfl) (fun _ => rfl)) tyP rfl
      rcases k with _ | _ | k
      all_goals first | (exact absurd rfl hk) | (intro e; cases e; done)
  intro L4 u4 W4 hall hJ hG
  have hb : Below w.heap.size W3 W4 := hJ.below (by have := hbel.size; omega) (fun k b hf => by rcases k with _ | _ | k <;> first | (cases hf; done) | (cases hf; omega))
  have hbel := hbel.trans hb
  have hm2 := hm2.blk (hJ.block _ (hm2.lt) (fun k hk => by rcases k with _ | _ | k <;> first | (cases hk; done) | (cases hk; exact absurd rfl HD2_wheapsize.out)))
  have ht2 := there_blk ht2 (hJ.block _ (there_lt ht2 (by omega)) (fun k hk => by rcases k with _ | _ | k <;> first | (cases hk; done) | (cases hk; exact absurd rfl HD2_wheapsize.out)))
  obtain ⟨_, hs4_1t, hs4_1⟩ := (show _ ∧ W4.there w.heap.size 0 20 ∧ HasFs rP W4 w.heap.size 0 [base] from hG 1 (by simp))
  have hbel0 := hbel
  clear hJ hG hall hb
  go_wp2
  exact ret_cell1 (R := rP) Try.results16 (by exact rfl) hs4_1 tyP rfl (fun r hr => ⟨r, rfl, hr, hbel⟩)
end Go.Proofs.Ytjchdhpijopikaa
namespace Go.Proofs.Ytjchdhpijopikaa
open Go Go.RowKit
/-- a waits for b, through others. -/
inductive Path (wt : Nat → Nat → Bool) : Nat → Nat → Prop
  | one {a b : Nat} : wt a b = true → Path wt a b
  | cons {a c b : Nat} : wt a c = true → Path wt c b → Path wt a b
theorem Path.listed {wt : Nat → Nat → Bool} {L : Nat → Bool} (hcl : ∀ k d, L k = true → wt k d = true → L d = true) {a b : Nat} (h : Path wt a b) (ha : L a = true) : L b = true := by
  induction h with
  | one h => exact hcl _ _ ha h
  | cons h _ ih => exact ih (hcl _ _ ha h)
theorem Path.first {wt : Nat → Nat → Bool} {L : Nat → Bool} {a b : Nat} (hcl : ∀ k d, L k = true → wt k d = true → L d = true) (hdep : ∀ d, wt a d = true → L d = true) (h : Path wt a b) : L b = true := by
  cases h with
  | one h => exact hdep _ h
  | cons h h2 => exact h2.listed hcl (hdep _ h)
section
variable {α : Type} {R : Rp α} {ops : Array Oper} {wt : Nat → Nat → Bool} {Q : Exit → Act → World → Prop} {fr : (Nat → Value) → Array Value} {df : List Deferred} {l : List Fact} {W0 : World} {i : Nat} {o : Oper}
/-- A slice that is written out, till operation v comes up. -/
theorem step_buildT {n v : Nat} {es : Array (Nat × Operand)} {m : List UInt8} (hs : Soft wt (Holds l W0)) (hg : Wants ops wt fr (Holds l W0) i o true) (_ho : o.op = .buildSlice 22 n es) (hf : factAt l i = .rdt m v) (hm : m.length = n) (hM : n ≤ maxLen)
    (hr : ∀ (a : Act) w, (execOp a.eval o).run Try.prog w = .ok (.value (.slice (some ⟨w.heap.size, 0, none⟩) n n)) (w.alloc (.cells (m.map bV).toArray 5))) :
    StepAt Try.prog ops wt Q fr df (Holds l W0) (Keep l W0) i o := by
  refine StepAt.soft hs hg fun L u W hcl hJ hG hL hdep K hK => ?_
  unfold Oper.wp
  rw [hr]
  have hb : Below W.heap.size W (W.alloc (.cells (m.map bV).toArray 5)) := (Below.refl _ _).alloc (Nat.le_refl _) _
  refine hK.out _ _ hb (hJ.later hb (by rw [hf]; rfl)) ?_
  unfold Holds; rw [hf]; simp only; rw [putV_same]
  exact ⟨_, _, _, [], rfl, hJ.size, hm, Nat.le_refl _, hM, fun _ => by have := Blk.new W (m.map bV).toArray 5; simpa using this⟩
end
end Go.Proofs.Ytjchdhpijopikaa
namespace Go.Proofs.Ytjchdhpijopikaa
open Go.RowKit
theorem tmodM (k : Int) (m : Nat) (hm : 0 < m) : (k.tmod m < 0 → k.tmod m + m = k % m) ∧ (¬ k.tmod m < 0 → k.tmod m = k % m) ∧ k.tmod m < m ∧ -(m : Int) < k.tmod m := by
  have e1 := Int.tmod_eq_emod (a := k) (b := (m : Int))
  have h1 := Int.emod_nonneg k (show (m : Int) ≠ 0 by omega)
  have h2 := Int.emod_lt_of_pos k (show (0 : Int) < m by omega)
  have e : ((Int.natAbs (m : Int) : Nat) : Int) = m := by simp
  by_cases c : 0 ≤ k ∨ (m : Int) ∣ k
  · rw [if_pos c] at e1
    refine ⟨?_, ?_, ?_, ?_⟩ <;> omega
  · rw [if_neg c, e] at e1
    have : k % (m : Int) ≠ 0 := fun h => c (.inr (Int.dvd_of_emod_eq_zero h))
    refine ⟨?_, ?_, ?_, ?_⟩ <;> omega
set_option maxRecDepth 100000 in
set_option maxHeartbeats 400000 in
theorem round_any (k r : Int) (m : Nat) (hm : 0 < m) (hm2 : m ≤ 1000000) (hr : k % (m : Int) = r) (w : World) : Calls Try.prog 33 #[.int .i64 k, .int .i64 (m : Nat)] w fun e w' => e = .returned (.int .i64 r) ∧ w = w' := by
  obtain ⟨h1, h2, h3, h4⟩ := tmodM k m hm
  rw [hr] at h1 h2
  have h5 : 0 ≤ r ∧ r < m := by rw [← hr]; exact ⟨Int.emod_nonneg k (by omega), Int.emod_lt_of_pos k (by omega)⟩
  obtain ⟨M, hM⟩ : ∃ M : Int, M = (m : Int) := ⟨_, rfl⟩
  rw [← hM] at h1 h2 h3 h4 h5
  have hM0 : ¬ M = 0 := by omega
  have hM1 : M ≤ 1000000 := by omega
  have hM2 : 0 < M := by omega
  rw [← hM]
  clear hM hr hm hm2
  by_cases hn : k.tmod M < 0
  · have e := h1 hn
    have d : decide (k.tmod M < 0) = true := decide_eq_true hn
    have hw : IntKind.i64.wrap (k.tmod M) = k.tmod M := by rw [IntKind.wrap_i64]; omega
    have hw2 : IntKind.i64.wrap (k.tmod M + M) = k.tmod M + M := by rw [IntKind.wrap_i64]; omega
    have HX : Hid (k.tmod M + M = r) := Lib.hid e
    clear h1 h2 hn e h3 h4 h5
    go_enter Try.func33, Try.ntmps33
    go_wp2
    go_ret
    exact ⟨ret_int HX.out, rfl⟩
  · have e := h2 hn
    have d : decide (k.tmod M < 0) = false := decide_eq_false hn
    have hw : IntKind.i64.wrap (k.tmod M) = k.tmod M := by rw [IntKind.wrap_i64]; omega
    have HX : Hid (k.tmod M = r) := Lib.hid e
    clear h1 h2 hn e h3 h4 h5
    go_enter Try.func33, Try.ntmps33
    go_wp2
    go_ret
    exact ⟨ret_int HX.out, rfl⟩
end Go.Proofs.Ytjchdhpijopikaa
namespace Go.Proofs.Ytjchdhpijopikaa
open Go Go.RowKit
/-- Bytes with bit k turned. -/
def flipK (l : List UInt8) (k : Nat) : List UInt8 := l.set (k / 8) (l.getD (k / 8) 0 ^^^ UInt8.ofNat (2 ^ (k % 8)))
theorem flipK_len (l : List UInt8) (k : Nat) : (flipK l k).length = l.length := by simp [flipK]
theorem xor_bit : ∀ c : Nat, c < 256 → ∀ j : Nat, j < 8 → bits BinOp.xor IntKind.u8 (c : Int) ((2 ^ j : Nat) : Int) = ((UInt8.ofNat c ^^^ UInt8.ofNat (2 ^ j)).toNat : Nat) := by decide +kernel
theorem xor_byte {c d : UInt8} {j : Nat} (hj : j < 8) (h : c ^^^ UInt8.ofNat (2 ^ j) = d) : bits BinOp.xor IntKind.u8 (c.toNat : Int) ((2 ^ j : Nat) : Int) = (d.toNat : Int) := by
  have := xor_bit c.toNat c.toNat_lt j hj
  rw [UInt8.ofNat_toNat, h] at this
  exact this
theorem shl_bit : ∀ j : Nat, j < 8 → (1 * 2 ^ j : Int) % 256 = ((2 ^ j : Nat) : Int) := by decide +kernel
theorem at_d {W : World} {g E : Nat} {LB : List UInt8} {r : List Value} (k : Nat) (h : k < LB.length) (hB : Blk W g (LB.map bV ++ r) E) : W.cell? ⟨g, k, none⟩ = some (.int .u8 ((LB.getD k 0).toNat : Int)) := by
  rw [hB.cell, List.getElem?_append_left (by simpa using h), List.getElem?_map, List.getElem?_eq_getElem h, List.getD_eq_getElem?_getD, List.getElem?_eq_getElem h]; rfl
theorem set_d {LB : List UInt8} {r : List Value} {d : UInt8} (k : Nat) (h : k < LB.length) : (LB.map bV ++ r).set k (bV d) = (LB.set k d).map bV ++ r := by
  rw [List.set_append_left _ _ (by simpa using h), List.map_set]
theorem flip_byte : ∀ c : Nat, c < 256 → (UInt8.ofNat c ^^^ 128).toNat = c % 128 + 128 * (1 - c / 128 % 2) := by decide +kernel
theorem low_byte {b : List UInt8} (h : b.length = 32) : leN b % 2 ^ 255 = leN (b.take 31) + 256 ^ 31 * ((b.getD 31 0).toNat % 128) := by
  have e := leN_last h
  have h6 := leN_take_lt b 31
  rw [e, ← p31]
  generalize (b.getD 31 0).toNat = c at *
  generalize leN (b.take 31) = r at *
  generalize 256 ^ 31 = T at *
  have hc := Nat.div_add_mod c 128
  have hm : c % 128 < 128 := Nat.mod_lt _ (by omega)
  generalize c / 128 = q at *
  generalize c % 128 = m at *
  subst hc
  have : r + T * (128 * q + m) = (r + T * m) + T * 128 * q := by rw [Nat.mul_add, Nat.mul_assoc]; omega
  rw [this, Nat.add_mul_mod_self_left, Nat.mod_eq_of_lt]
  have : T * m ≤ T * 127 := Nat.mul_le_mul_left _ (by omega)
  omega
theorem hi_byte {b : List UInt8} (h : b.length = 32) : leN b / 2 ^ 255 % 2 = (b.getD 31 0).toNat / 128 % 2 := by
  have e := leN_last h
  have h6 := leN_take_lt b 31
  rw [e, ← p31, ← Nat.div_div_eq_div_mul, Nat.add_mul_div_left _ _ (Nat.pos_of_ne_zero (by decide +kernel)), Nat.div_eq_of_lt h6, Nat.zero_add]
theorem flipK_255 {b : List UInt8} (h : b.length = 32) : flipK b 255 = flipS b := by
  have e : leN (flipK b 255) = leN b % 2 ^ 255 + 2 ^ 255 * (1 - leN b / 2 ^ 255 % 2) := by
    have e2 := leN_last (b := flipK b 255) (by rw [flipK_len, h])
    have e3 : (flipK b 255).take 31 = b.take 31 := by unfold flipK; rw [List.take_set_of_le (by omega)]
    have e4 : (flipK b 255).getD 31 0 = b.getD 31 0 ^^^ 128 := by
      show (b.set 31 (b.getD 31 0 ^^^ 128)).getD 31 0 = _
      rw [List.getD_eq_getElem?_getD, List.getElem?_set_self (by omega)]; rfl
    have h5 := flip_byte (b.getD 31 0).toNat (b.getD 31 0).toNat_lt
    rw [UInt8.ofNat_toNat] at h5
    rw [e2, e3, e4, h5, low_byte h, hi_byte h, ← p31, Nat.mul_add, ← Nat.mul_assoc, Nat.add_assoc]
  have h2 := leB_leN (flipK b 255)
  rw [flipK_len, h, e] at h2
  exact h2.symm
theorem round256 {k : Int} {rn : Nat} (h : k % 256 = (rn : Int)) (w : World) : Calls Try.prog 33 #[.int .i64 k, .int .i64 256] w fun e w' => e = .returned (.int .i64 (rn : Nat)) ∧ w = w' :=
  round_any k rn 256 (by omega) (by omega) h w
set_option maxRecDepth 100000 in
set_option maxHeartbeats 4000000 in
theorem flip_any {bb q cap k : Nat} {bit : Int} {l : List UInt8} (w : World) (hk : bit % 256 = (k : Int)) (h : RdB w (some ⟨bb, q, none⟩) 32 cap l) :
    Calls Try.prog 20 #[.slice (some ⟨bb, q, none⟩) 32 cap, .int .i64 bit] w (NewB w (flipK l k)) := by
  have hl := h.hlen
  have hk256 : k < 256 := by omega
  obtain ⟨c, hc⟩ : ∃ c, l.getD (k / 8) 0 = c := ⟨_, rfl⟩
  obtain ⟨d, hd⟩ : ∃ d, c ^^^ UInt8.ofNat (2 ^ (k % 8)) = d := ⟨_, rfl⟩
  have HX := Lib.hid (xor_byte (by omega) hd)
  have HS := Lib.hid (shl_bit (k % 8) (by omega))
  have HF : Hid (l.set (k / 8) d = flipK l k) := Lib.hid (by unfold flipK; rw [hc, hd])
  have HL := Lib.hid hl; have HK := Lib.hid hk; have HC := Lib.hid hc; have HKB := Lib.hid hk256
  clear hl hk hc hd hk256
  go_enter Try.func20, Try.ntmps20
  go_upto_region 4 with (first | (at_builtin; go_must (refine app_bytes _ rfl (.tmp 7) (.tmp 8) rfl w.heap.size _ 0 [] rfl (own_none w 5 w.heap.size (Nat.le_refl _)) _ _ _ l rfl (by exact h.below (by repeat (first | (with_reducible refine Below.alloc' ?_ _) | (with_reducible refine Below.drew ?_) | (with_reducible refine below_drewN ?_ _) | ((with_reducible refine Below.setCell ?_ ?_ _); rotate_left; (focus (first | exact Nat.le_refl _ | (simp; done) | (simp; omega)))) | (with_reducible assumption) | (with_reducible exact Below.refl _ _)))) (by omega) (by simp) w (by exact (by repeat (first | (with_reducible refine Below.alloc' ?_ _) | (with_reducible refine Below.drew ?_) | (with_reducible refine below_drewN ?_ _) | ((with_reducible refine Below.setCell ?_ ?_ _); rotate_left; (focus (first | exact Nat.le_refl _ | (simp; done) | (simp; omega)))) | (with_reducible assumption) | (with_reducible exact Below.refl _ _)))) ?_; intro v1 W1 hown hb1; rw [Nat.zero_add, List.nil_append] at hown; obtain ⟨C, cC, rC, rfl, hgC, hC, _, hcC, hmC⟩ := own_rdb (n := 32) (l := l) hown (by omega); have HB := Lib.hid hC; have hbel := hb1; clear hC hown hb1)) | (go_at_call 33; (with_reducible refine (round256 HK.out _).mono ?_); rintro e wz ⟨rfl, rfl⟩))
  have hbel0 := hbel
  have hk0 : (0 : Int) ≤ (k : Int) := by omega
  have hk1 : (k : Int) < 256 := by have := HKB.out; omega
  have hdiv : (k : Int).tdiv 8 = ((k / 8 : Nat) : Int) := by rw [Int.tdiv_eq_ediv_of_nonneg (by omega)]; omega
  have hrem : (k : Int).tmod 8 = ((k % 8 : Nat) : Int) := by rw [Int.tmod_eq_emod_of_nonneg (by omega)]; omega
  have hk8 : k / 8 < 32 := by have := HKB.out; omega
  have HK8 := Lib.hid hk8
  have hcc := at_d (k / 8) (by rw [HL.out]; exact hk8) HB.out
  rw [HC.out] at hcc
  have hcf := HB.out.frozen (k / 8)
  have HCC := Lib.hid hcc; have HCF := Lib.hid hcf
  clear hcc hcf
  refine wp_region_mid (fun u => #[.slice (some ⟨bb, q, none⟩) 32 cap, .int .i64 bit, undef, undef, .slice none 0 0, .slice (some ⟨C, 0, none⟩) 32 cC, .int .i64 (k : Int), .slice (some ⟨w.heap.size, 0, none⟩) 0 0, .slice (some ⟨bb, q, none⟩) 32 cap, .slice (some ⟨C, 0, none⟩) 32 cC, .slice (some ⟨C, 0, none⟩) 32 cC, .int .i64 32, .bool true, .int .i64 bit, .slice (some ⟨C, 0, none⟩) 32 cC, .int .i64 32, .int .i64 256, .int .i64 (k : Int), u 0, u 1, u 2, u 3, u 4, u 5, u 6, u 7, u 8, u 9, u 10, u 11, u 12, undef]) (Holds [.oth (fun v => v = .slice (some ⟨C, 0, none⟩) 32 cC), .oth (fun v => v = .int .i64 (k : Int)), .oth (fun v => v = .int .i64 ((k / 8 : Nat) : Int)), .oth (fun v => v = .slice (some ⟨C, 0, none⟩) 32 cC), .oth (fun v => v = .int .i64 (k : Int)), .oth (fun v => v = .int .i64 ((k / 8 : Nat) : Int)), .oth (fun v => v = .pointer (some ⟨C, k / 8, none⟩)), .oth (fun v => v = .int .u8 (c.toNat : Int)), .oth (fun v => v = .int .i64 (k : Int)), .oth (fun v => v = .int .i64 ((k % 8 : Nat) : Int)), .oth (fun v => v = .int .u8 ((2 ^ (k % 8) : Nat) : Int)), .oth (fun v => v = .int .u8 (d.toNat : Int)), .oth (fun v => v = .pointer (some ⟨C, k / 8, none⟩)), .cst C (k / 8) (.int .u8 (d.toNat : Int))] W1) (Keep [.oth (fun v => v = .slice (some ⟨C, 0, none⟩) 32 cC), .oth (fun v => v = .int .i64 (k : Int)), .oth (fun v => v = .int .i64 ((k / 8 : Nat) : Int)), .oth (fun v => v = .slice (some ⟨C, 0, none⟩) 32 cC), .oth (fun v => v = .int .i64 (k : Int)), .oth (fun v => v = .int .i64 ((k / 8 : Nat) : Int)), .oth (fun v => v = .pointer (some ⟨C, k / 8, none⟩)), .oth (fun v => v = .int .u8 (c.toNat : Int)), .oth (fun v => v = .int .i64 (k : Int)), .oth (fun v => v = .int .i64 ((k % 8 : Nat) : Int)), .oth (fun v => v = .int .u8 ((2 ^ (k % 8) : Nat) : Int)), .oth (fun v => v = .int .u8 (d.toNat : Int)), .oth (fun v => v = .pointer (some ⟨C, k / 8, none⟩)), .cst C (k / 8) (.int .u8 (d.toNat : Int))] W1) (fun _ => undef) (by kernel_rfl) (by kernel_rfl) ?_ (by rfl) Keep.drew (holds_soft (by kernel_rfl)) ?_ ?_
  · intro u i v h
    rcases i with _ | _ | _ | _ | _ | _ | _ | _ | _ | _ | _ | _ | _ | _ | i
    all_goals first | (simp [Act.put, putV]; done) | (exfalso; simp at h; omega)
  · intro hs
    refine ⟨?_, ?_, ?_, ?_, ?_, ?_, ?_, ?_, ?_, ?_, ?_, ?_, ?_, ?_, trivial⟩
    · exact step_pureO hs (wants_none rfl) rfl fun L u W hG hdep => ⟨_, run_move rfl, rfl⟩
    · exact step_pureO hs (wants_none rfl) rfl fun L u W hG hdep => ⟨_, run_move rfl, rfl⟩
    · refine step_pureO hs (wants_none rfl) rfl fun L u W hG hdep => ⟨_, ?_, rfl⟩
      have e0 := (show u 1 = .int .i64 (k : Int) from hG 1 (hdep 1 (by kernel_rfl)))
      go_simp
      try (rw [IntKind.wrap_i64]; omega)
    · exact step_pureO hs (wants_none rfl) rfl fun L u W hG hdep => ⟨_, run_move rfl, rfl⟩
    · exact step_pureO hs (wants_none rfl) rfl fun L u W hG hdep => ⟨_, run_move rfl, rfl⟩
    · refine step_pureO hs (wants_none rfl) rfl fun L u W hG hdep => ⟨_, ?_, rfl⟩
      have e0 := (show u 4 = .int .i64 (k : Int) from hG 4 (hdep 4 (by kernel_rfl)))
      go_simp
      try (rw [IntKind.wrap_i64]; omega)
    · refine step_pureO hs (wants_none rfl) rfl fun L u W hG hdep => ⟨_, ?_, rfl⟩
      have e0 := (show u 3 = .slice (some ⟨C, 0, none⟩) 32 cC from hG 3 (hdep 3 (by kernel_rfl)))
      have e1 := (show u 5 = .int .i64 ((k / 8 : Nat) : Int) from hG 5 (hdep 5 (by kernel_rfl)))
      have h8 := hk8
      go_simp
      try rw [if_pos (by omega), show ((k : Int) / 8).toNat = k / 8 by omega]
    · exact step_cell C (k / 8) hs (wants_none rfl) rfl rfl (fun _ h => load_u8 h) (fun L u W hG hdep => (show u 6 = .pointer (some ⟨C, k / 8, none⟩) from hG 6 (hdep 6 (by kernel_rfl)))) HCC.out (fun k g hk => by rcases k with _ | _ | _ | _ | _ | _ | _ | _ | _ | _ | _ | _ | _ | _ | k <;> first | (cases hk; done) | (cases hk; exact .inl (by kernel_rfl)))
    · exact step_pureO hs (wants_none rfl) rfl fun L u W hG hdep => ⟨_, run_move rfl, rfl⟩
    · refine step_pureO hs (wants_none rfl) rfl fun L u W hG hdep => ⟨_, ?_, rfl⟩
      have e0 := (show u 8 = .int .i64 (k : Int) from hG 8 (hdep 8 (by kernel_rfl)))
      go_simp
      try (rw [IntKind.wrap_i64]; omega)
    · refine step_pureO hs (wants_none rfl) rfl fun L u W hG hdep => ⟨_, ?_, rfl⟩
      have e0 := (show u 9 = .int .i64 ((k % 8 : Nat) : Int) from hG 9 (hdep 9 (by kernel_rfl)))
      have e9 := HS.out
      go_simp
      rw [wrap8, show ((k : Int) % 8).toNat = k % 8 by omega]
      try exact e9
      try simpa using e9
    · refine step_pureO hs (wants_none rfl) rfl fun L u W hG hdep => ⟨_, ?_, rfl⟩
      have e0 := (show u 7 = .int .u8 (c.toNat : Int) from hG 7 (hdep 7 (by kernel_rfl)))
      have e1 := (show u 10 = .int .u8 ((2 ^ (k % 8) : Nat) : Int) from hG 10 (hdep 10 (by kernel_rfl)))
      have e9 := HX.out
      go_simp
      try exact e9
      try simpa using e9
    · refine step_pureO hs (wants_none rfl) rfl fun L u W hG hdep => ⟨_, ?_, rfl⟩
      have e0 := (show u 0 = .slice (some ⟨C, 0, none⟩) 32 cC from hG 0 (hdep 0 (by kernel_rfl)))
      have e1 := (show u 2 = .int .i64 ((k / 8 : Nat) : Int) from hG 2 (hdep 2 (by kernel_rfl)))
      have h8 := hk8
      go_simp
      try rw [if_pos (by omega), show ((k : Int) / 8).toNat = k / 8 by omega]
    · refine step_cst (old := .int .u8 (c.toNat : Int)) C (k / 8) hs (wants_none rfl) rfl rfl (by kernel_rfl) (fun k hk => ?_) (fun _ h1 h2 => store_u8 h1 h2) (fun L u W hG hdep => (show u 12 = .pointer (some ⟨C, k / 8, none⟩) from hG 12 (hdep 12 (by kernel_rfl)))) (fun L u W hG hdep => (show u 11 = .int .u8 (d.toNat : Int) from hG 11 (hdep 11 (by kernel_rfl)))) HCC.out HCF.out
      rcases k with _ | _ | _ | _ | _ | _ | _ | _ | _ | _ | _ | _ | _ | _ | k
      all_goals first | (exact absurd rfl hk) | (intro e; cases e; done)
  intro L4 u4 W4 hall hJ hG
  have hb : Below w.heap.size W1 W4 := hJ.below (by have := hbel.size; omega) (fun k b hf => by rcases k with _ | _ | _ | _ | _ | _ | _ | _ | _ | _ | _ | _ | _ | _ | k <;> first | (cases hf; done) | (cases hf; omega))
  have hbel := hbel.trans hb
  have HB := Lib.hid (blk_keep (HB.out.set (k / 8) (.int .u8 (d.toNat : Int))) (show _ ∧ W4.heap[C]? = (W1.setCell ⟨C, k / 8, none⟩ (.int .u8 (d.toNat : Int))).heap[C]? from hG 13 (by simp)).2)
  have hbel0 := hbel
  clear hJ hG hall hb
  go_upto_region 5 with fail
  refine wp_region_turn (fun u => #[.slice (some ⟨bb, q, none⟩) 32 cap, .int .i64 bit, undef, undef, u 1, .slice (some ⟨C, 0, none⟩) 32 cC, .int .i64 (k : Int), .slice (some ⟨w.heap.size, 0, none⟩) 0 0, .slice (some ⟨bb, q, none⟩) 32 cap, .slice (some ⟨C, 0, none⟩) 32 cC, .slice (some ⟨C, 0, none⟩) 32 cC, .int .i64 32, .bool true, .int .i64 bit, .slice (some ⟨C, 0, none⟩) 32 cC, .int .i64 32, .int .i64 256, .int .i64 (k : Int), u4 0, u4 1, u4 2, u4 3, u4 4, u4 5, u4 6, u4 7, u4 8, u4 9, u4 10, u4 11, u4 12, u 0]) (Holds [.oth (fun v => v = .slice (some ⟨C, 0, none⟩) 32 cC), .oth (fun v => v = .slice (some ⟨C, 0, none⟩) 32 cC)] W4) (Keep [.oth (fun v => v = .slice (some ⟨C, 0, none⟩) 32 cC), .oth (fun v => v = .slice (some ⟨C, 0, none⟩) 32 cC)] W4) (fun k => ((undef :: .slice none 0 0 :: []) : List Value).getD k undef) ?_ (by rfl) Keep.start (holds_soft (by kernel_rfl)) ?_ ?_
  · intro u i v h
    rcases i with _ | _ | i
    all_goals first | (simp [Act.put, putV]; done) | (exfalso; simp at h; omega)
  · intro hs
    refine ⟨?_, ?_, trivial⟩
    · exact step_pureO hs (wants_none rfl) rfl fun L u W hG hdep => ⟨_, run_move rfl, rfl⟩
    · exact step_pureO hs (wants_none rfl) rfl fun L u W hG hdep => ⟨_, run_assign rfl, (show u 0 = .slice (some ⟨C, 0, none⟩) 32 cC from hG 0 (hdep 0 (by kernel_rfl)))⟩
  intro L5 u5 W5 hall hJ hG
  have hb := hJ.all rfl
  have hbel := Below.call hbel hb
  have HB := Lib.hid (HB.out.below' hb)
  have HC4 := Lib.hid (show u5 1 = .slice (some ⟨C, 0, none⟩) 32 cC from hG 1 (by simp))
  have hbel0 := hbel
  clear hJ hG hall hb
  rw [HC4.out]
  go_wp2
  go_ret
  exact ⟨C, 32, cC, rC, rfl, hgC, by rw [← HF.out, ← set_d (k / 8) (by rw [HL.out]; exact HK8.out)]; exact HB.out, by rw [flipK_len]; exact HL.out, hcC, hmC, hbel⟩
end Go.Proofs.Ytjchdhpijopikaa
namespace Go.Proofs.Ytjchdhpijopikaa
open Go Go.RowKit
theorem neg_num {K : Type} [Lean.Grind.Field K] {p z : K} : -(p * z) = -p * z := by grind
theorem Prep.neg {P : EP} {X Y Z : F} (h : Prep P X Y Z) : Prep P.neg (-X) Y Z := by
  obtain ⟨hz, rfl, rfl⟩ := h
  exact ⟨hz, neg_num, rfl⟩
end Go.Proofs.Ytjchdhpijopikaa
namespace Go.Proofs.Ytjchdhpijopikaa
open Go Go.RowKit
end Go.Proofs.Ytjchdhpijopikaa
namespace Go.Proofs.Ytjchdhpijopikaa
open Go Go.RowKit
theorem dec_nil : decV [] = Cp.zero ∧ decC [] = 12 := dec_len (by simp)
theorem times_nat {k : Nat} {P : EP} (h : k ≤ 2147483648) : timesP (k : Nat) P = Cp.mul k P := by
  unfold timesP; rw [if_pos (by omega)]; rfl
theorem round100 {k : Int} {rn : Nat} (h : k % 100 = (rn : Int)) (w : World) : Calls Try.prog 33 #[.int .i64 k, .int .i64 100] w fun e w' => e = .returned (.int .i64 (rn : Nat)) ∧ Below w.heap.size w w' :=
  (round_any k rn 100 (by omega) (by omega) h w).mono fun _ _ ⟨he, hw⟩ => ⟨he, by rw [← hw]; exact Below.refl _ _⟩
def fillB (k : Nat) : List UInt8 := List.replicate k 255 ++ List.replicate (32 - k) 0
theorem fillB_len {k : Nat} (h : k ≤ 32) : (fillB k).length = 32 := by simp [fillB]; omega
theorem fillB_get {k : Nat} (h : k < 32) : (fillB k)[k]? = some 0 := by
  unfold fillB
  rw [List.getElem?_append_right (by simp), List.length_replicate, Nat.sub_self, List.getElem?_replicate, if_pos (by omega)]
theorem fillB_set {k : Nat} (h : k < 32) : (fillB k).set k 255 = fillB (k + 1) := by
  unfold fillB
  rw [List.set_append_right _ _ (by simp), List.length_replicate, Nat.sub_self, show 32 - k = (32 - (k + 1)) + 1 by omega, List.replicate_succ, List.set_cons_zero, List.replicate_succ' (n := k), List.append_assoc]
  rfl
theorem fillB_end : ((fillB 32).set 0 236).set 31 127 = encP minusP := by rw [minusP_enc]; decide +kernel
theorem setk {LB : List UInt8} {r : List Value} {d : UInt8} (k : Nat) (h : k < LB.length) : (LB.map bV ++ r).set k (bV d) = (LB.set k d).map bV ++ r := by
  rw [List.set_append_left _ _ (by simpa using h), List.map_set]
theorem dec_minus : decV (encP minusP) = minusP ∧ decC (encP minusP) = 0 := by
  unfold decV decC
  rw [decP_enc]
  exact ⟨rfl, rfl⟩
theorem wS_lt (l : List UInt8) : (wS l).val < Lq := by unfold wS; rw [fn_sc (Nat.mod_lt _ Lq_0)]; exact Nat.mod_lt _ Lq_0
theorem wide_one1 : wS [1] = fn 1 := by decide +kernel
theorem wide_nil0 : wS [] = 0 := by decide +kernel
theorem dec_enc (P : EP) : decV (encP P) = P ∧ decC (encP P) = 0 := by
  unfold decV decC
  rw [decP_enc]
  exact ⟨rfl, rfl⟩
theorem flip_enc {a : Option Addr} {n cap k : Nat} {bit : Int} {P : EP} {FB : List UInt8} {w : World} (hF : flipS (encP P) = FB) (hk : bit % 256 = (k : Int)) (h2 : k = 255) (h : RdB w a n cap (encP P)) :
    Calls Try.prog 20 #[.slice a n cap, .int .i64 bit] w (NewB w FB) := by
  have hn := h.hlen
  rw [encP_len] at hn
  subst hn
  obtain ⟨b, q, rfl, _⟩ := h.get 0 (by rw [encP_len]; omega)
  have h3 := flip_any w hk h
  subst h2
  rw [flipK_255 (encP_len P), hF] at h3
  exact h3
theorem dec_flip0 {P : EP} (h : P.x = 0) : decV (flipS (encP P)) = Cp.zero ∧ decC (flipS (encP P)) = 12 := by
  unfold decV decC
  rw [flip_none h]
  exact ⟨rfl, rfl⟩
theorem dec_flip1 {P : EP} (h : P.x ≠ 0) : decV (flipS (encP P)) = Cp.neg P ∧ decC (flipS (encP P)) = 0 := by
  rw [flip_neg h]
  exact dec_enc _
theorem at_k {W : World} {g E : Nat} {LB : List UInt8} {r : List Value} (k : Nat) (h : k < LB.length) (hB : Blk W g (LB.map bV ++ r) E) : W.cell? ⟨g, k, none⟩ = some (bV LB[k]) := by
  rw [hB.cell, List.getElem?_append_left (by simpa using h), List.getElem?_map, List.getElem?_eq_getElem h]; rfl
set_option maxRecDepth 100000 in
set_option maxHeartbeats 4000000 in
theorem law8awake_any  (w : World) :
    Calls Try.prog 9 #[] w fun e w' => e = .returned (.bool true) ∧ Below w.heap.size w w' := by
  go_enter Try.func9, Try.ntmps9
  have hbel : Below w.heap.size w w := Below.refl _ _
  have hbel0 := hbel
  go_upto_region 0 with fail
  refine wp_region_turn (fun u => #[u 0, undef, undef, undef, undef, undef, undef, undef, undef, undef, undef, undef, undef, undef, undef, undef, undef, undef, undef, undef, undef, undef, undef, undef, undef, undef, undef, undef, undef, undef, undef, undef, undef, undef, undef, undef, undef, undef, undef]) (Holds [.oth (fun v => v = .bool false)] w) (Keep [.oth (fun v => v = .bool false)] w) (fun _ => undef) ?_ (by rfl) Keep.start (holds_soft (by kernel_rfl)) ?_ ?_
  · intro u i v h
    rcases i with _ | i
    all_goals first | (simp [Act.put, putV]; done) | (exfalso; simp at h; omega)
  · intro hs
    refine ⟨?_, trivial⟩
    · exact step_pureO hs (wants_none rfl) rfl fun L u W hG hdep => ⟨_, run_assign rfl, rfl⟩
  intro L0 u0 W0 hall hJ hG
  have hb := hJ.all rfl
  have hbel := Below.call hbel hb
  have HC0 := Lib.hid (show u0 0 = .bool false from hG 0 (by simp))
  have hbel0 := hbel
  clear hJ hG hall hb
  go_upto_region 1 with fail
  refine wp_region_turn (fun u => #[u0 0, u 2, undef, undef, u 0, u 1, undef, undef, undef, undef, undef, undef, undef, undef, undef, undef, undef, undef, undef, undef, undef, undef, undef, undef, undef, undef, undef, undef, undef, undef, undef, undef, undef, undef, undef, undef, undef, undef, undef]) (Holds [.val rP [base], .rd (encP base), .rd (encP base)] W0) (Keep [.val rP [base], .rd (encP base), .rd (encP base)] W0) (fun _ => undef) ?_ (by rfl) Keep.start (holds_soft (by kernel_rfl)) ?_ ?_
  · intro u i v h
    rcases i with _ | _ | _ | i
    all_goals first | (simp [Act.put, putV]; done) | (exfalso; simp at h; omega)
  · intro hs
    refine ⟨?_, ?_, ?_, trivial⟩
    · refine step_call hs (wants_none rfl) rfl fun L u W hJ hG hL hdep K hK => ?_
      go_simp
      go_at_call 16
      (with_reducible refine (cBase _).mono ?_); rintro e w1 ⟨r, rfl, hr, hb⟩
      have hk := hK.out _ _ hr hb
      exact hk
    · refine step_callB hs (wants_none rfl) rfl fun L u W hJ hG hL hdep K hK => ?_
      have a0 := (show IsFs rP (u 0) [base] from hG 0 (hdep 0 (by kernel_rfl)))
      go_simp
      go_at_call 13
      (with_reducible refine (cEncode a0 _).mono ?_); rintro e w1 ⟨g, n, cap, r, rfl, h1, h2, h3, h4, h5, hb⟩
      have hk := hK.out _ _ _ _ _ h1 h2 h3 h4 h5 hb
      exact hk
    · exact step_moveB 1 hs (wants_none rfl) rfl (by first | exact .inl rfl | exact .inr rfl) rfl (by kernel_rfl) (fun _ => rfl)
  intro L1 u1 W1 hall hJ hG
  obtain ⟨gB2, nB2, cB2, rB2, eB2, hgB2, hB2, hlB2, hcB2, hmB2⟩ := (show ∃ g n cap r, u1 2 = .slice (some ⟨g, 0, none⟩) n cap ∧ W0.heap.size ≤ g ∧ Blk W1 g ((encP base).map bV ++ r) 5 ∧ (encP base).length = n ∧ n ≤ cap ∧ cap ≤ maxLen from hG 2 (by simp))
  have hgB2 : w.heap.size ≤ gB2 := by have := hbel0.size; omega
  have EB2 := Lib.hid eB2; clear eB2
  obtain rfl : nB2 = 32 := by have h : (((encP base).length : Nat) : Int) = 32 := (by rw [encP_len]; rfl); omega
  have HB2 := Lib.hid hB2; clear hB2
  have hb := hJ.all rfl
  have hbel := Below.call hbel hb
  have hbel0 := hbel
  clear hJ hG hall hb
  go_upto_region 2 with fail
  refine wp_region_turn (fun u => #[u0 0, u1 2, u 4, u 6, u1 0, u1 1, u 1, u 0, u 2, u 3, undef, undef, undef, undef, undef, undef, undef, undef, undef, undef, undef, undef, undef, undef, undef, undef, undef, undef, undef, undef, undef, undef, undef, undef, undef, undef, undef, undef, undef]) (Holds [.oth (fun v => IsTV rP v [Cp.zero] (.int .i64 12)), .oth (fun v => IsTV rP v [Cp.zero] (.int .i64 12)), .val rP [Cp.zero], .oth (fun v => v = .int .i64 12), .new 20, .st 4 rP [Cp.zero], .oth (fun v => v = .int .i64 12)] W1) (Keep [.oth (fun v => IsTV rP v [Cp.zero] (.int .i64 12)), .oth (fun v => IsTV rP v [Cp.zero] (.int .i64 12)), .val rP [Cp.zero], .oth (fun v => v = .int .i64 12), .new 20, .st 4 rP [Cp.zero], .oth (fun v => v = .int .i64 12)] W1) (fun _ => undef) ?_ (by rfl) Keep.start (holds_soft (by kernel_rfl)) ?_ ?_
  · intro u i v h
    rcases i with _ | _ | _ | _ | _ | _ | _ | i
    all_goals first | (simp [Act.put, putV]; done) | (exfalso; simp at h; omega)
  · intro hs
    refine ⟨?_, ?_, ?_, ?_, ?_, ?_, ?_, trivial⟩
    · refine step_callO hs (wants_none rfl) rfl fun L u W hJ hG hL hdep K hK => ?_
      have hRB0 := RdB.nil W
      go_simp
      go_at_call 10
      (with_reducible refine (cDecode dec_nil.1 dec_nil.2 hRB0).mono ?_); rintro e w1 ⟨r, rfl, hr, hb⟩
      have hk := hK.out _ _ ⟨r, rfl, hr⟩ hb
      exact hk
    · exact step_pureO hs (wants_none rfl) rfl fun L u W hG hdep => ⟨_, run_move rfl, (show IsTV rP (u 0) [Cp.zero] (.int .i64 12) from hG 0 (hdep 0 (by kernel_rfl)))⟩
    · exact step_pure hs (wants_none rfl) rfl fun L u W hG hdep => run_extractV0 rfl (show IsTV rP (u 1) [Cp.zero] (.int .i64 12) from hG 1 (hdep 1 (by kernel_rfl)))
    · exact step_pureO hs (wants_none rfl) rfl fun L u W hG hdep => run_extractV1 rfl (show IsTV rP (u 1) [Cp.zero] (.int .i64 12) from hG 1 (hdep 1 (by kernel_rfl)))
    · exact step_alloc hs (wants_none rfl) rfl rfl (by omega) rfl allocP
    · exact step_store 4 hs (by kernel_rfl) (wants_none rfl) rfl rfl rfl (by kernel_rfl) (by kernel_rfl) (by kernel_rfl) (by kernel_rfl) (fun _ => rfl) (gives_op 2 rfl (by kernel_rfl) (fun _ => rfl)) tyP rfl
    · exact step_pureO hs (wants_none rfl) rfl fun L u W hG hdep => ⟨_, run_assign rfl, (show u 3 = .int .i64 12 from hG 3 (hdep 3 (by kernel_rfl)))⟩
  intro L2 u2 W2 hall hJ hG
  obtain ⟨q2, e2, hq2, _, ht2⟩ := (show ∃ g, u2 4 = .pointer (some ⟨g, 0, none⟩) ∧ W1.heap.size ≤ g ∧ 0 < 20 ∧ W2.there g 0 20 from hG 4 (by simp))
  have hm2 : HasFs rP W2 q2 0 [Cp.zero] := by
    obtain ⟨g, e, _, h⟩ := (show ∃ g, u2 4 = .pointer (some ⟨g, 0, none⟩) ∧ W1.heap.size ≤ g ∧ HasFs rP W2 g 0 [Cp.zero] from hG 5 (by simp))
    rw [e2] at e; cases e; exact h
  have hq2 : w.heap.size ≤ q2 := by have := hbel0.size; omega
  have E2 := Lib.hid e2; clear e2
  have hb := hJ.all rfl
  have hbel := Below.call hbel hb
  have HB2 := Lib.hid (HB2.out.below' hb)
  have HC3 := Lib.hid (show u2 6 = .int .i64 12 from hG 6 (by simp))
  have hbel0 := hbel
  clear hJ hG hall hb
  have HE := base_enc
  rw [HE] at HB2
  have HK0 := Lib.hid (show W2.cell? ⟨gB2, 0, none⟩ = some (.int .u8 88) from at_k 0 (by decide) HB2.out)
  have HK1 := Lib.hid (show W2.cell? ⟨gB2, 1, none⟩ = some (.int .u8 102) from at_k 1 (by decide) HB2.out)
  have HK31 := Lib.hid (show W2.cell? ⟨gB2, 31, none⟩ = some (.int .u8 102) from at_k 31 (by decide) HB2.out)
  clear HE HB2
  go_upto_region 3 with fail
  refine wp_region_turn (fun u => #[u 29, u1 2, u2 4, u2 6, u1 0, u1 1, u2 1, u2 0, u2 2, u2 3, u 0, u 1, u 2, u 3, u 4, u 5, u 6, u 7, u 8, u 9, u 10, u 11, u 12, u 13, u 14, u 15, u 16, u 17, u 18, u 19, u 20, u 21, u 22, u 23, u 24, u 25, u 26, u 27, u 28]) (Holds [.oth (fun v => v = .slice (some ⟨gB2, 0, none⟩) 32 cB2), .oth (fun v => v = .int .i64 32), .oth (fun v => v = .bool true), .oth (fun v => v = .bool true), .oth (fun v => v = .slice (some ⟨gB2, 0, none⟩) 32 cB2), .oth (fun v => v = .pointer (some ⟨gB2, 0, none⟩)), .oth (fun v => v = .int .u8 88), .oth (fun v => v = .bool true), .oth (fun v => v = .bool true), .oth (fun v => v = .bool true), .oth (fun v => v = .slice (some ⟨gB2, 0, none⟩) 32 cB2), .oth (fun v => v = .pointer (some ⟨gB2, 1, none⟩)), .oth (fun v => v = .int .u8 102), .oth (fun v => v = .bool true), .oth (fun v => v = .bool true), .oth (fun v => v = .bool true), .oth (fun v => v = .slice (some ⟨gB2, 0, none⟩) 32 cB2), .oth (fun v => v = .pointer (some ⟨gB2, 31, none⟩)), .oth (fun v => v = .int .u8 102), .oth (fun v => v = .bool true), .oth (fun v => v = .bool true), .oth (fun v => v = .bool true), .oth (fun v => v = .int .i64 12), .oth (fun v => v = .bool true), .oth (fun v => v = .bool true), .oth (fun v => v = .bool true), .val rP [Cp.zero], .oth (fun v => v = .bool true), .oth (fun v => v = .bool true), .oth (fun v => v = .bool true)] W2) (Keep [.oth (fun v => v = .slice (some ⟨gB2, 0, none⟩) 32 cB2), .oth (fun v => v = .int .i64 32), .oth (fun v => v = .bool true), .oth (fun v => v = .bool true), .oth (fun v => v = .slice (some ⟨gB2, 0, none⟩) 32 cB2), .oth (fun v => v = .pointer (some ⟨gB2, 0, none⟩)), .oth (fun v => v = .int .u8 88), .oth (fun v => v = .bool true), .oth (fun v => v = .bool true), .oth (fun v => v = .bool true), .oth (fun v => v = .slice (some ⟨gB2, 0, none⟩) 32 cB2), .oth (fun v => v = .pointer (some ⟨gB2, 1, none⟩)), .oth (fun v => v = .int .u8 102), .oth (fun v => v = .bool true), .oth (fun v => v = .bool true), .oth (fun v => v = .bool true), .oth (fun v => v = .slice (some ⟨gB2, 0, none⟩) 32 cB2), .oth (fun v => v = .pointer (some ⟨gB2, 31, none⟩)), .oth (fun v => v = .int .u8 102), .oth (fun v => v = .bool true), .oth (fun v => v = .bool true), .oth (fun v => v = .bool true), .oth (fun v => v = .int .i64 12), .oth (fun v => v = .bool true), .oth (fun v => v = .bool true), .oth (fun v => v = .bool true), .val rP [Cp.zero], .oth (fun v => v = .bool true), .oth (fun v => v = .bool true), .oth (fun v => v = .bool true)] W2) (fun k => ((undef :: undef :: undef :: undef :: undef :: undef :: undef :: undef :: undef :: undef :: undef :: undef :: undef :: undef :: undef :: undef :: undef :: undef :: undef :: undef :: undef :: undef :: undef :: undef :: undef :: undef :: undef :: undef :: undef :: u0 0 :: []) : List Value).getD k undef) ?_ (by rfl) Keep.start (holds_soft (by kernel_rfl)) ?_ ?_
  · intro u i v h
    rcases i with _ | _ | _ | _ | _ | _ | _ | _ | _ | _ | _ | _ | _ | _ | _ | _ | _ | _ | _ | _ | _ | _ | _ | _ | _ | _ | _ | _ | _ | _ | i
    iterate 30 kernel_rfl
    exfalso; simp at h; omega
  · intro hs
    refine ⟨?_, ?_, ?_, ?_, ?_, ?_, ?_, ?_, ?_, ?_, ?_, ?_, ?_, ?_, ?_, ?_, ?_, ?_, ?_, ?_, ?_, ?_, ?_, ?_, ?_, ?_, ?_, ?_, ?_, ?_, trivial⟩
    · exact step_pureO hs (wants_none rfl) rfl fun L u W hG hdep => ⟨_, run_move rfl, EB2.out⟩
    · refine step_pureO hs (wants_none rfl) rfl fun L u W hG hdep => ⟨_, ?_, rfl⟩
      have e0 := (show u 0 = .slice (some ⟨gB2, 0, none⟩) 32 cB2 from hG 0 (hdep 0 (by kernel_rfl)))
      go_simp
    · refine step_pureO hs (wants_none rfl) rfl fun L u W hG hdep => ⟨_, ?_, rfl⟩
      have e0 := (show u 1 = .int .i64 32 from hG 1 (hdep 1 (by kernel_rfl)))
      go_simp
      try simp [bne]
    · exact step_pureO hs (wants_none rfl) rfl fun L u W hG hdep => ⟨_, run_move rfl, (show u 2 = .bool true from hG 2 (hdep 2 (by kernel_rfl)))⟩
    · exact step_pureO hs (wants_on 3 rfl rfl (by kernel_rfl) (fun _ => rfl)) rfl fun L u W hG hdep => ⟨_, run_move rfl, EB2.out⟩
    · refine step_pureO hs (wants_on 3 rfl rfl (by kernel_rfl) (fun _ => rfl)) rfl fun L u W hG hdep => ⟨_, ?_, rfl⟩
      have e0 := (show u 4 = .slice (some ⟨gB2, 0, none⟩) 32 cB2 from hG 4 (hdep 4 (by kernel_rfl)))
      go_simp
    · exact step_cell gB2 0 hs (wants_on 3 rfl rfl (by kernel_rfl) (fun _ => rfl)) rfl rfl (fun _ h => load_u8 h) (fun L u W hG hdep => (show u 5 = .pointer (some ⟨gB2, 0, none⟩) from hG 5 (hdep 5 (by kernel_rfl)))) HK0.out (noSto_apart (by kernel_rfl))
    · refine step_pureO hs (wants_on 3 rfl rfl (by kernel_rfl) (fun _ => rfl)) rfl fun L u W hG hdep => ⟨_, ?_, rfl⟩
      have e0 := (show u 6 = .int .u8 88 from hG 6 (hdep 6 (by kernel_rfl)))
      go_simp
      try simp [bne]
    · exact step_pick true hs (wants_none rfl) rfl rfl (fun L u W hG hdep => (show u 3 = .bool true from hG 3 (hdep 3 (by kernel_rfl)))) (fun L u W hG hdep => (show u 7 = .bool true from hG 7 (hdep 7 (by kernel_rfl))))
    · exact step_pureO hs (wants_none rfl) rfl fun L u W hG hdep => ⟨_, run_move rfl, (show u 8 = .bool true from hG 8 (hdep 8 (by kernel_rfl)))⟩
    · exact step_pureO hs (wants_on 9 rfl rfl (by kernel_rfl) (fun _ => rfl)) rfl fun L u W hG hdep => ⟨_, run_move rfl, EB2.out⟩
    · refine step_pureO hs (wants_on 9 rfl rfl (by kernel_rfl) (fun _ => rfl)) rfl fun L u W hG hdep => ⟨_, ?_, rfl⟩
      have e0 := (show u 10 = .slice (some ⟨gB2, 0, none⟩) 32 cB2 from hG 10 (hdep 10 (by kernel_rfl)))
      go_simp
    · exact step_cell gB2 1 hs (wants_on 9 rfl rfl (by kernel_rfl) (fun _ => rfl)) rfl rfl (fun _ h => load_u8 h) (fun L u W hG hdep => (show u 11 = .pointer (some ⟨gB2, 1, none⟩) from hG 11 (hdep 11 (by kernel_rfl)))) HK1.out (noSto_apart (by kernel_rfl))
    · refine step_pureO hs (wants_on 9 rfl rfl (by kernel_rfl) (fun _ => rfl)) rfl fun L u W hG hdep => ⟨_, ?_, rfl⟩
      have e0 := (show u 12 = .int .u8 102 from hG 12 (hdep 12 (by kernel_rfl)))
      go_simp
      try simp [bne]
    · exact step_pick true hs (wants_none rfl) rfl rfl (fun L u W hG hdep => (show u 9 = .bool true from hG 9 (hdep 9 (by kernel_rfl)))) (fun L u W hG hdep => (show u 13 = .bool true from hG 13 (hdep 13 (by kernel_rfl))))
    · exact step_pureO hs (wants_none rfl) rfl fun L u W hG hdep => ⟨_, run_move rfl, (show u 14 = .bool true from hG 14 (hdep 14 (by kernel_rfl)))⟩
    · exact step_pureO hs (wants_on 15 rfl rfl (by kernel_rfl) (fun _ => rfl)) rfl fun L u W hG hdep => ⟨_, run_move rfl, EB2.out⟩
    · refine step_pureO hs (wants_on 15 rfl rfl (by kernel_rfl) (fun _ => rfl)) rfl fun L u W hG hdep => ⟨_, ?_, rfl⟩
      have e0 := (show u 16 = .slice (some ⟨gB2, 0, none⟩) 32 cB2 from hG 16 (hdep 16 (by kernel_rfl)))
      go_simp
    · exact step_cell gB2 31 hs (wants_on 15 rfl rfl (by kernel_rfl) (fun _ => rfl)) rfl rfl (fun _ h => load_u8 h) (fun L u W hG hdep => (show u 17 = .pointer (some ⟨gB2, 31, none⟩) from hG 17 (hdep 17 (by kernel_rfl)))) HK31.out (noSto_apart (by kernel_rfl))
    · refine step_pureO hs (wants_on 15 rfl rfl (by kernel_rfl) (fun _ => rfl)) rfl fun L u W hG hdep => ⟨_, ?_, rfl⟩
      have e0 := (show u 18 = .int .u8 102 from hG 18 (hdep 18 (by kernel_rfl)))
      go_simp
      try simp [bne]
    · exact step_pick true hs (wants_none rfl) rfl rfl (fun L u W hG hdep => (show u 15 = .bool true from hG 15 (hdep 15 (by kernel_rfl)))) (fun L u W hG hdep => (show u 19 = .bool true from hG 19 (hdep 19 (by kernel_rfl))))
    · exact step_pureO hs (wants_none rfl) rfl fun L u W hG hdep => ⟨_, run_move rfl, (show u 20 = .bool true from hG 20 (hdep 20 (by kernel_rfl)))⟩
    · exact step_pureO hs (wants_on 21 rfl rfl (by kernel_rfl) (fun _ => rfl)) rfl fun L u W hG hdep => ⟨_, run_move rfl, HC3.out⟩
    · refine step_pureO hs (wants_on 21 rfl rfl (by kernel_rfl) (fun _ => rfl)) rfl fun L u W hG hdep => ⟨_, ?_, rfl⟩
      have e0 := (show u 22 = .int .i64 12 from hG 22 (hdep 22 (by kernel_rfl)))
      go_simp
      try simp [bne]
    · exact step_pick true hs (wants_none rfl) rfl rfl (fun L u W hG hdep => (show u 21 = .bool true from hG 21 (hdep 21 (by kernel_rfl)))) (fun L u W hG hdep => (show u 23 = .bool true from hG 23 (hdep 23 (by kernel_rfl))))
    · exact step_pureO hs (wants_none rfl) rfl fun L u W hG hdep => ⟨_, run_move rfl, (show u 24 = .bool true from hG 24 (hdep 24 (by kernel_rfl)))⟩
    · exact step_pure hs (wants_on 25 rfl rfl (by kernel_rfl) (fun _ => rfl)) rfl fun L u W hG hdep => run_build0 rfl (build_P0 W)
    · refine step_callO hs (wants_on 25 rfl rfl (by kernel_rfl) (fun _ => rfl)) rfl fun L u W hJ hG hL hdep K hK => ?_
      have a0 := (show IsFs rP (u 26) [Cp.zero] from hG 26 (hdep 26 (by kernel_rfl)))
      go_simp
      go_at_call 14
      (with_reducible refine (cPSmall (b := true) (decide_eq_true (Cp.mul_zero 8)) a0 _).mono ?_); rintro e w1 ⟨rfl, hb⟩
      have hk := hK.out _ _ rfl hb
      exact hk
    · exact step_pick true hs (wants_none rfl) rfl rfl (fun L u W hG hdep => (show u 25 = .bool true from hG 25 (hdep 25 (by kernel_rfl)))) (fun L u W hG hdep => (show u 27 = .bool true from hG 27 (hdep 27 (by kernel_rfl))))
    · exact step_pureO hs (wants_none rfl) rfl fun L u W hG hdep => ⟨_, run_assign rfl, (show u 28 = .bool true from hG 28 (hdep 28 (by kernel_rfl)))⟩
  intro L3 u3 W3 hall hJ hG
  have hb := hJ.all rfl
  have hbel := Below.call hbel hb
  have hm2 := hm2.later hb
  have ht2 := there_later ht2 hb
  have HC12 := Lib.hid (show u3 2 = .bool true from hG 2 (by simp))
  have HC13 := Lib.hid (show u3 3 = .bool true from hG 3 (by simp))
  have HC17 := Lib.hid (show u3 7 = .bool true from hG 7 (by simp))
  have HC18 := Lib.hid (show u3 8 = .bool true from hG 8 (by simp))
  have HC19 := Lib.hid (show u3 9 = .bool true from hG 9 (by simp))
  have HC23 := Lib.hid (show u3 13 = .bool true from hG 13 (by simp))
  have HC24 := Lib.hid (show u3 14 = .bool true from hG 14 (by simp))
  have HC25 := Lib.hid (show u3 15 = .bool true from hG 15 (by simp))
  have HC29 := Lib.hid (show u3 19 = .bool true from hG 19 (by simp))
  have HC30 := Lib.hid (show u3 20 = .bool true from hG 20 (by simp))
  have HC31 := Lib.hid (show u3 21 = .bool true from hG 21 (by simp))
  have HC33 := Lib.hid (show u3 23 = .bool true from hG 23 (by simp))
  have HC34 := Lib.hid (show u3 24 = .bool true from hG 24 (by simp))
  have HC35 := Lib.hid (show u3 25 = .bool true from hG 25 (by simp))
  have HC37 := Lib.hid (show u3 27 = .bool true from hG 27 (by simp))
  have HC38 := Lib.hid (show u3 28 = .bool true from hG 28 (by simp))
  have HC0 := Lib.hid (show u3 29 = .bool true from hG 29 (by simp))
  have hbel0 := hbel
  clear hJ hG hall hb
  rw [HC0.out]
  go_wp2
  go_ret
  exact ⟨rfl, hbel⟩
end Go.Proofs.Ytjchdhpijopikaa
