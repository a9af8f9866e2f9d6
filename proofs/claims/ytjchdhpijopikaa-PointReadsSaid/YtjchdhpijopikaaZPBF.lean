/- What PB rests on, part 6 of 6: my own texts, put together (merge.py). -/
import Derived.Test.YtjchdhpijopikaaRows
import Derived.WalkKit
import Derived.ProofKit
import Derived.Lib.Hide
import Derived.OpenShut
import Derived.WalkSpells
import Derived.StillTactics
import Derived.Laws.Pointers
import Derived.Laws.CopyOwn
import Derived.Laws.AppendOwnNone
import Derived.Deep.RegionHeld3
import Derived.RowKit3
import Derived.BigQuiet
import Derived.Deep.QuietTactic
import Derived.Deep.LoopGhost
import Derived.Deep.DeepFit
import Derived.WalkLawsBesides
import Derived.Shelf.Spec.BitsCarry
import Derived.Deep.MidRow
import Derived.Laws.IdiomStrings
import Derived.Deep.DeepCutAuto
import Derived.Deep.WholeRow
import Derived.Laws.Rows
import Derived.Lib.AppendZerosOnto
import Derived.Lib.SliceRun
import Derived.Deep.AppendLies
import Derived.ShutString
import Derived.ChangeOld
import Derived.Test.YtjchdhpijopikaaZPBE
namespace Go.Proofs.Ytjchdhpijopikaa
open Go Go.RowKit
theorem or_nil (c : UInt8) : bits BinOp.or IntKind.u8 (c.toNat : Int) 0 = (c.toNat : Int) := by
  rw [show (0 : Int) = ((0 : Nat) : Int) from rfl, u8_or_nat _ _ c.toNat_lt (by decide)]; simp
theorem set_same {LB : List UInt8} {d : UInt8} (h : LB.length = 32) (hd : LB.getD 31 0 = d) : LB.set 31 d = LB := by
  rw [← hd, List.getD_eq_getElem?_getD, List.getElem?_eq_getElem (by omega)]
  exact List.set_getElem_self _
set_option maxRecDepth 100000 in
set_option maxHeartbeats 4000000 in
theorem qenc_o {v0 : Value} {P : EP} {X Y Z : F} (hp : P.x.val % 2 = 1) (hpp : Prep P X Y Z) (h0 : IsFs rR v0 [X, Y, Z]) (w : World) :
    Calls Try.prog 58 #[v0] w fun e w' => ∃ g n cap r, e = .returned (.slice (some ⟨g, 0, none⟩) n cap) ∧ w.heap.size ≤ g ∧ Blk w' g ((encP P).map bV ++ r) 5 ∧ (encP P).length = n ∧ n ≤ cap ∧ cap ≤ maxLen ∧ Below w.heap.size w w' := by
  have HP := Lib.hid hp; clear hp
  go_enter Try.func58, Try.ntmps58
  have hbel : Below w.heap.size w w := Below.refl _ _
  have hbel0 := hbel
  go_upto_region 0 with fail
  refine wp_region_turn (fun u => #[v0, u 0, u 1, undef, undef, undef, undef, undef, undef, undef, undef, undef, undef, undef, undef, undef, undef, undef, undef, undef, undef, undef, undef, undef, undef, undef, undef, undef, undef, undef]) (Holds [.box rR [X, Y, Z], .oth (fun v => v = .slice none 0 0)] w) (Keep [.box rR [X, Y, Z], .oth (fun v => v = .slice none 0 0)] w) (fun _ => undef) ?_ (by rfl) Keep.start (holds_soft (by kernel_rfl)) ?_ ?_
  · intro u i v h
    rcases i with _ | _ | i
    all_goals first | (simp [Act.put, putV]; done) | (exfalso; simp at h; omega)
  · intro hs
    refine ⟨?_, ?_, trivial⟩
    · exact step_box hs (wants_none rfl) rfl rfl (gives_c h0 (fun _ => rfl))
    · exact step_pureO hs (wants_none rfl) rfl fun L u W hG hdep => ⟨_, run_assign rfl, rfl⟩
  intro L0 u0 W0 hall hJ hG
  obtain ⟨q1, e1, ⟨hq1, _⟩, ht1, hm1⟩ := (show ∃ g, u0 0 = .pointer (some ⟨g, 0, none⟩) ∧ (w.heap.size ≤ g ∧ g < W0.heap.size) ∧ W0.there g 0 48 ∧ HasFs rR W0 g 0 [X, Y, Z] from hG 0 (by simp))
  have hq1 : w.heap.size ≤ q1 := by have := hbel0.size; omega
  have E1 := Lib.hid e1; clear e1
  have hb := hJ.all rfl
  have hbel := Below.call hbel hb
  have HC2 := Lib.hid (show u0 1 = .slice none 0 0 from hG 1 (by simp))
  have hbel0 := hbel
  clear hJ hG hall hb
  go_upto_region 1 with fail
  refine wp_region_turn (fun u => #[v0, u0 0, u0 1, u 3, undef, undef, u 0, u 1, u 2, undef, undef, undef, undef, undef, undef, undef, undef, undef, undef, undef, undef, undef, undef, undef, undef, undef, undef, undef, undef, undef]) (Holds [.ptr q1 32, .val rR [Z], .val rR [finv Z], .new 16, .st 3 rR [finv Z]] W0) (Keep [.ptr q1 32, .val rR [Z], .val rR [finv Z], .new 16, .st 3 rR [finv Z]] W0) (fun _ => undef) ?_ (by rfl) Keep.start (holds_soft (by kernel_rfl)) ?_ ?_
  · intro u i v h
    rcases i with _ | _ | _ | _ | _ | i
    all_goals first | (simp [Act.put, putV]; done) | (exfalso; simp at h; omega)
  · intro hs
    refine ⟨?_, ?_, ?_, ?_, ?_, trivial⟩
    · exact step_field hs (wants_none rfl) rfl rfl (fun _ => E1.out) (field_Pt2 _)
    · exact step_loadF 0 q1 32 hs (wants_none rfl) rfl rfl tyFe (fun _ => rfl) rfl (by kernel_rfl) hm1.lt (hm1.fld 2 1) (noSto_apart (by kernel_rfl))
    · refine step_call hs (wants_none rfl) rfl fun L u W hJ hG hL hdep K hK => ?_
      have a0 := (show IsFs rR (u 1) [Z] from hG 1 (hdep 1 (by kernel_rfl)))
      go_simp
      go_at_call 55
      (with_reducible refine (kInv a0 _).mono ?_); rintro e w1 ⟨r, rfl, hr, hb⟩
      have hk := hK.out _ _ hr hb
      exact hk
    · exact step_alloc hs (wants_none rfl) rfl rfl (by omega) rfl allocFe
    · exact step_store 3 hs (by kernel_rfl) (wants_none rfl) rfl rfl rfl (by kernel_rfl) (by kernel_rfl) (by kernel_rfl) (by kernel_rfl) (fun _ => rfl) (gives_op 2 rfl (by kernel_rfl) (fun _ => rfl)) tyFe rfl
  intro L1 u1 W1 hall hJ hG
  obtain ⟨q3, e3, hq3, _, ht3⟩ := (show ∃ g, u1 3 = .pointer (some ⟨g, 0, none⟩) ∧ W0.heap.size ≤ g ∧ 0 < 16 ∧ W1.there g 0 16 from hG 3 (by simp))
  have hm3 : HasFs rR W1 q3 0 [finv Z] := by
    obtain ⟨g, e, _, h⟩ := (show ∃ g, u1 3 = .pointer (some ⟨g, 0, none⟩) ∧ W0.heap.size ≤ g ∧ HasFs rR W1 g 0 [finv Z] from hG 4 (by simp))
    rw [e3] at e; cases e; exact h
  have HD3_q1 := Lib.hid (show q1 ≠ q3 by have := there_lt ht1 (by omega); omega)
  have hq3 : w.heap.size ≤ q3 := by have := hbel0.size; omega
  have E3 := Lib.hid e3; clear e3
  have hb := hJ.all rfl
  have hbel := Below.call hbel hb
  have hm1 := hm1.later hb
  have ht1 := there_later ht1 hb
  have hbel0 := hbel
  clear hJ hG hall hb
  go_upto_region 2 with fail
  refine wp_region_turn (fun u => #[v0, u0 0, u0 1, u1 3, u 4, undef, u1 0, u1 1, u1 2, u 0, u 1, u 2, u 3, undef, undef, undef, undef, undef, undef, undef, undef, undef, undef, undef, undef, undef, undef, undef, undef, undef]) (Holds [.ptr q1 0, .val rR [X], .val rR [finv Z], .val rR [X * (finv Z)], .new 16, .st 4 rR [X * (finv Z)]] W1) (Keep [.ptr q1 0, .val rR [X], .val rR [finv Z], .val rR [X * (finv Z)], .new 16, .st 4 rR [X * (finv Z)]] W1) (fun _ => undef) ?_ (by rfl) Keep.start (holds_soft (by kernel_rfl)) ?_ ?_
  · intro u i v h
    rcases i with _ | _ | _ | _ | _ | _ | i
    all_goals first | (simp [Act.put, putV]; done) | (exfalso; simp at h; omega)
  · intro hs
    refine ⟨?_, ?_, ?_, ?_, ?_, ?_, trivial⟩
    · exact step_field hs (wants_none rfl) rfl rfl (fun _ => E1.out) (field_Pt0 _)
    · exact step_loadF 0 q1 0 hs (wants_none rfl) rfl rfl tyFe (fun _ => rfl) rfl (by kernel_rfl) hm1.lt (hm1.fld 0 1) (noSto_apart (by kernel_rfl))
    · exact step_load q3 0 hs (wants_none rfl) rfl rfl tyFe (fun _ => E3.out) hm3.lt hm3 (noSto_apart (by kernel_rfl))
    · refine step_call hs (wants_none rfl) rfl fun L u W hJ hG hL hdep K hK => ?_
      have a0 := (show IsFs rR (u 1) [X] from hG 1 (hdep 1 (by kernel_rfl)))
      have a1 := (show IsFs rR (u 2) [finv Z] from hG 2 (hdep 2 (by kernel_rfl)))
      go_simp
      go_at_call 50
      (with_reducible refine (kMul a0 a1 _).mono ?_); rintro e w1 ⟨r, rfl, hr, hb⟩
      have hk := hK.out _ _ hr hb
      exact hk
    · exact step_alloc hs (wants_none rfl) rfl rfl (by omega) rfl allocFe
    · exact step_store 4 hs (by kernel_rfl) (wants_none rfl) rfl rfl rfl (by kernel_rfl) (by kernel_rfl) (by kernel_rfl) (by kernel_rfl) (fun _ => rfl) (gives_op 3 rfl (by kernel_rfl) (fun _ => rfl)) tyFe rfl
  intro L2 u2 W2 hall hJ hG
  obtain ⟨q4, e4, hq4, _, ht4⟩ := (show ∃ g, u2 4 = .pointer (some ⟨g, 0, none⟩) ∧ W1.heap.size ≤ g ∧ 0 < 16 ∧ W2.there g 0 16 from hG 4 (by simp))
  have hm4 : HasFs rR W2 q4 0 [X * (finv Z)] := by
    obtain ⟨g, e, _, h⟩ := (show ∃ g, u2 4 = .pointer (some ⟨g, 0, none⟩) ∧ W1.heap.size ≤ g ∧ HasFs rR W2 g 0 [X * (finv Z)] from hG 5 (by simp))
    rw [e4] at e; cases e; exact h
  have HD4_q1 := Lib.hid (show q1 ≠ q4 by have := there_lt ht1 (by omega); omega)
  have HD4_q3 := Lib.hid (show q3 ≠ q4 by have := there_lt ht3 (by omega); omega)
  have hq4 : w.heap.size ≤ q4 := by have := hbel0.size; omega
  have E4 := Lib.hid e4; clear e4
  have hb := hJ.all rfl
  have hbel := Below.call hbel hb
  have hm1 := hm1.later hb
  have hm3 := hm3.later hb
  have ht1 := there_later ht1 hb
  have ht3 := there_later ht3 hb
  have hbel0 := hbel
  clear hJ hG hall hb
  go_upto_region 3 with fail
  refine wp_region_turn (fun u => #[v0, u0 0, u0 1, u1 3, u2 4, u 5, u1 0, u1 1, u1 2, u2 0, u2 1, u2 2, u2 3, u 0, u 1, u 2, u 3, u 4, undef, undef, undef, undef, undef, undef, undef, undef, undef, undef, undef, undef]) (Holds [.ptr q1 16, .val rR [Y], .val rR [finv Z], .val rR [Y * (finv Z)], .rd (leB 32 (Y * (finv Z)).val), .rd (leB 32 (Y * (finv Z)).val)] W2) (Keep [.ptr q1 16, .val rR [Y], .val rR [finv Z], .val rR [Y * (finv Z)], .rd (leB 32 (Y * (finv Z)).val), .rd (leB 32 (Y * (finv Z)).val)] W2) (fun _ => undef) ?_ (by rfl) Keep.start (holds_soft (by kernel_rfl)) ?_ ?_
  · intro u i v h
    rcases i with _ | _ | _ | _ | _ | _ | i
    all_goals first | (simp [Act.put, putV]; done) | (exfalso; simp at h; omega)
  · intro hs
    refine ⟨?_, ?_, ?_, ?_, ?_, ?_, trivial⟩
    · exact step_field hs (wants_none rfl) rfl rfl (fun _ => E1.out) (field_Pt1 _)
    · exact step_loadF 0 q1 16 hs (wants_none rfl) rfl rfl tyFe (fun _ => rfl) rfl (by kernel_rfl) hm1.lt (hm1.fld 1 1) (noSto_apart (by kernel_rfl))
    · exact step_load q3 0 hs (wants_none rfl) rfl rfl tyFe (fun _ => E3.out) hm3.lt hm3 (noSto_apart (by kernel_rfl))
    · refine step_call hs (wants_none rfl) rfl fun L u W hJ hG hL hdep K hK => ?_
      have a0 := (show IsFs rR (u 1) [Y] from hG 1 (hdep 1 (by kernel_rfl)))
      have a1 := (show IsFs rR (u 2) [finv Z] from hG 2 (hdep 2 (by kernel_rfl)))
      go_simp
      go_at_call 50
      (with_reducible refine (kMul a0 a1 _).mono ?_); rintro e w1 ⟨r, rfl, hr, hb⟩
      have hk := hK.out _ _ hr hb
      exact hk
    · refine step_callB hs (wants_none rfl) rfl fun L u W hJ hG hL hdep K hK => ?_
      have a0 := (show IsFs rR (u 3) [Y * (finv Z)] from hG 3 (hdep 3 (by kernel_rfl)))
      go_simp
      go_at_call 69
      (with_reducible refine (kBytes a0 _).mono ?_); rintro e w1 ⟨g, n, cap, r, rfl, h1, h2, h3, h4, h5, hb⟩
      have hk := hK.out _ _ _ _ _ h1 h2 h3 h4 h5 hb
      exact hk
    · exact step_moveB 4 hs (wants_none rfl) rfl (by first | exact .inl rfl | exact .inr rfl) rfl (by kernel_rfl) (fun _ => rfl)
  intro L3 u3 W3 hall hJ hG
  obtain ⟨gB5, nB5, cB5, rB5, eB5, hgB5, hB5, hlB5, hcB5, hmB5⟩ := (show ∃ g n cap r, u3 5 = .slice (some ⟨g, 0, none⟩) n cap ∧ W2.heap.size ≤ g ∧ Blk W3 g ((leB 32 (Y * (finv Z)).val).map bV ++ r) 5 ∧ (leB 32 (Y * (finv Z)).val).length = n ∧ n ≤ cap ∧ cap ≤ maxLen from hG 5 (by simp))
  have hgB5 : w.heap.size ≤ gB5 := by have := hbel0.size; omega
  have EB5 := Lib.hid eB5; clear eB5
  obtain rfl : nB5 = 32 := by have h : (((leB 32 (Y * (finv Z)).val).length : Nat) : Int) = 32 := (by rw [leB_len]; rfl); omega
  have HB5 := Lib.hid hB5; clear hB5
  have HE5_q1 := Lib.hid (show q1 ≠ gB5 by have := there_lt ht1 (by omega); omega)
  have HE5_q3 := Lib.hid (show q3 ≠ gB5 by have := there_lt ht3 (by omega); omega)
  have HE5_q4 := Lib.hid (show q4 ≠ gB5 by have := there_lt ht4 (by omega); omega)
  have hb := hJ.all rfl
  have hbel := Below.call hbel hb
  have hm1 := hm1.later hb
  have hm3 := hm3.later hb
  have hm4 := hm4.later hb
  have ht1 := there_later ht1 hb
  have ht3 := there_later ht3 hb
  have ht4 := there_later ht4 hb
  have hbel0 := hbel
  clear hJ hG hall hb
  have HXV : Hid (X * finv Z = P.x) := Lib.hid hpp.xv
  have HLB : Hid (leB 32 (Y * finv Z).val = leB 32 P.y.val) := Lib.hid (by rw [hpp.yv])
  generalize leB 32 (Y * finv Z).val = LB at *
  have HLL : Hid (LB.length = 32) := Lib.hid (by rw [HLB.out, leB_len])
  have hcell := at31 HLL.out HB5.out
  have HCF : Hid (W3.frozen? ⟨gB5, 31, none⟩ = false) := Lib.hid (HB5.out.frozen 31)
  have HX0 := Lib.hid (hm4.cell0)
  have HA : Hid (bits BinOp.and IntKind.u64 ((d16 (X * finv Z).val 0 : Nat) : Int) 1 = 1) := Lib.hid (by rw [odd16, HXV.out]; have := HP.out; omega)
  generalize d16 (X * finv Z).val 0 = D at *
  generalize hcd : LB.getD 31 0 = c at *
  obtain ⟨d, hd⟩ : ∃ d, c ||| 128 = d := ⟨_, rfl⟩
  have HO : Hid (bits BinOp.or IntKind.u8 (c.toNat : Int) 128 = (d.toNat : Int)) := Lib.hid (or128 c d hd)
  have HCC := Lib.hid hcell; have HCD := Lib.hid hcd; have HDD := Lib.hid hd
  clear hcell hcd hd
  go_upto_region 4 with fail
  refine wp_region_mid (fun u => #[v0, u0 0, u0 1, u1 3, u2 4, u3 5, u1 0, u1 1, u1 2, u2 0, u2 1, u2 2, u2 3, u3 0, u3 1, u3 2, u3 3, u3 4, u 0, u 1, u 2, u 3, u 4, u 5, u 6, u 7, u 8, u 9, u 10, undef]) (Holds [.oth (fun v => v = .slice (some ⟨gB5, 0, none⟩) 32 cB5), .oth (fun v => v = .slice (some ⟨gB5, 0, none⟩) 32 cB5), .oth (fun v => v = .pointer (some ⟨gB5, 31, none⟩)), .oth (fun v => v = .int .u8 (c.toNat : Int)), .oth (fun v => v = .pointer (some ⟨q4, 0, none⟩)), .oth (fun v => v = .int .u64 (D : Nat)), .oth (fun v => v = .int .u64 1), .oth (fun v => v = .int .u8 1), .oth (fun v => v = .int .u8 128), .oth (fun v => v = .int .u8 (d.toNat : Int)), .oth (fun v => v = .pointer (some ⟨gB5, 31, none⟩)), .cst gB5 31 (.int .u8 (d.toNat : Int))] W3) (Keep [.oth (fun v => v = .slice (some ⟨gB5, 0, none⟩) 32 cB5), .oth (fun v => v = .slice (some ⟨gB5, 0, none⟩) 32 cB5), .oth (fun v => v = .pointer (some ⟨gB5, 31, none⟩)), .oth (fun v => v = .int .u8 (c.toNat : Int)), .oth (fun v => v = .pointer (some ⟨q4, 0, none⟩)), .oth (fun v => v = .int .u64 (D : Nat)), .oth (fun v => v = .int .u64 1), .oth (fun v => v = .int .u8 1), .oth (fun v => v = .int .u8 128), .oth (fun v => v = .int .u8 (d.toNat : Int)), .oth (fun v => v = .pointer (some ⟨gB5, 31, none⟩)), .cst gB5 31 (.int .u8 (d.toNat : Int))] W3) (fun _ => undef) (by kernel_rfl) (by kernel_rfl) ?_ (by rfl) Keep.drew (holds_soft (by kernel_rfl)) ?_ ?_
  · intro u i v h
    rcases i with _ | _ | _ | _ | _ | _ | _ | _ | _ | _ | _ | _ | i
    all_goals first | (simp [Act.put, putV]; done) | (exfalso; simp at h; omega)
  · intro hs
    refine ⟨?_, ?_, ?_, ?_, ?_, ?_, ?_, ?_, ?_, ?_, ?_, ?_, trivial⟩
    · exact step_pureO hs (wants_none rfl) rfl fun L u W hG hdep => ⟨_, run_move rfl, EB5.out⟩
    · exact step_pureO hs (wants_none rfl) rfl fun L u W hG hdep => ⟨_, run_move rfl, EB5.out⟩
    · refine step_pureO hs (wants_none rfl) rfl fun L u W hG hdep => ⟨_, ?_, rfl⟩
      have e0 := (show u 1 = .slice (some ⟨gB5, 0, none⟩) 32 cB5 from hG 1 (hdep 1 (by kernel_rfl)))
      go_simp
    · exact step_cell gB5 31 hs (wants_none rfl) rfl rfl (fun _ h => load_u8 h) (fun L u W hG hdep => (show u 2 = .pointer (some ⟨gB5, 31, none⟩) from hG 2 (hdep 2 (by kernel_rfl)))) HCC.out (fun k g hk => by rcases k with _ | _ | _ | _ | _ | _ | _ | _ | _ | _ | _ | _ | k <;> first | (cases hk; done) | (cases hk; exact .inl (by kernel_rfl)))
    · refine step_pureO hs (wants_none rfl) rfl fun L u W hG hdep => ⟨_, ?_, rfl⟩
      have e0 := E4.out
      go_simp
    · exact step_cell q4 0 hs (wants_none rfl) rfl rfl (fun _ h => load_u64 h) (fun L u W hG hdep => (show u 4 = .pointer (some ⟨q4, 0, none⟩) from hG 4 (hdep 4 (by kernel_rfl)))) HX0.out (fun k g hk => by rcases k with _ | _ | _ | _ | _ | _ | _ | _ | _ | _ | _ | _ | k <;> first | (cases hk; done) | (cases hk; exact .inr (Ne.symm HE5_q4.out)))
    · refine step_pureO hs (wants_none rfl) rfl fun L u W hG hdep => ⟨_, ?_, rfl⟩
      have e0 := (show u 5 = .int .u64 (D : Nat) from hG 5 (hdep 5 (by kernel_rfl)))
      have e9 := HA.out
      go_simp
    · refine step_pureO hs (wants_none rfl) rfl fun L u W hG hdep => ⟨_, ?_, rfl⟩
      have e0 := (show u 6 = .int .u64 1 from hG 6 (hdep 6 (by kernel_rfl)))
      go_simp
      try rfl
    · refine step_pureO hs (wants_none rfl) rfl fun L u W hG hdep => ⟨_, ?_, rfl⟩
      have e0 := (show u 7 = .int .u8 1 from hG 7 (hdep 7 (by kernel_rfl)))
      go_simp
      try rfl
    · refine step_pureO hs (wants_none rfl) rfl fun L u W hG hdep => ⟨_, ?_, rfl⟩
      have e0 := (show u 3 = .int .u8 (c.toNat : Int) from hG 3 (hdep 3 (by kernel_rfl)))
      have e1 := (show u 8 = .int .u8 128 from hG 8 (hdep 8 (by kernel_rfl)))
      have e9 := HO.out
      go_simp
    · refine step_pureO hs (wants_none rfl) rfl fun L u W hG hdep => ⟨_, ?_, rfl⟩
      have e0 := (show u 0 = .slice (some ⟨gB5, 0, none⟩) 32 cB5 from hG 0 (hdep 0 (by kernel_rfl)))
      go_simp
    · refine step_cst (old := .int .u8 (c.toNat : Int)) gB5 31 hs (wants_none rfl) rfl rfl (by kernel_rfl) (fun k hk => ?_) (fun _ h1 h2 => store_u8 h1 h2) (fun L u W hG hdep => (show u 10 = .pointer (some ⟨gB5, 31, none⟩) from hG 10 (hdep 10 (by kernel_rfl)))) (fun L u W hG hdep => (show u 9 = .int .u8 (d.toNat : Int) from hG 9 (hdep 9 (by kernel_rfl)))) HCC.out HCF.out
      rcases k with _ | _ | _ | _ | _ | _ | _ | _ | _ | _ | _ | _ | k
      all_goals first | (exact absurd rfl hk) | (intro e; cases e; done)
  intro L4 u4 W4 hall hJ hG
  have hb : Below w.heap.size W3 W4 := hJ.below (by have := hbel.size; omega) (fun k b hf => by rcases k with _ | _ | _ | _ | _ | _ | _ | _ | _ | _ | _ | _ | k <;> first | (cases hf; done) | (cases hf; omega))
  have hbel := hbel.trans hb
  have hm1 := hm1.blk (hJ.block _ (hm1.lt) (fun k hk => by rcases k with _ | _ | _ | _ | _ | _ | _ | _ | _ | _ | _ | _ | k <;> first | (cases hk; done) | (cases hk; exact absurd rfl (Ne.symm HE5_q1.out))))
  have hm3 := hm3.blk (hJ.block _ (hm3.lt) (fun k hk => by rcases k with _ | _ | _ | _ | _ | _ | _ | _ | _ | _ | _ | _ | k <;> first | (cases hk; done) | (cases hk; exact absurd rfl (Ne.symm HE5_q3.out))))
  have hm4 := hm4.blk (hJ.block _ (hm4.lt) (fun k hk => by rcases k with _ | _ | _ | _ | _ | _ | _ | _ | _ | _ | _ | _ | k <;> first | (cases hk; done) | (cases hk; exact absurd rfl (Ne.symm HE5_q4.out))))
  have ht1 := there_blk ht1 (hJ.block _ (there_lt ht1 (by omega)) (fun k hk => by rcases k with _ | _ | _ | _ | _ | _ | _ | _ | _ | _ | _ | _ | k <;> first | (cases hk; done) | (cases hk; exact absurd rfl (Ne.symm HE5_q1.out))))
  have ht3 := there_blk ht3 (hJ.block _ (there_lt ht3 (by omega)) (fun k hk => by rcases k with _ | _ | _ | _ | _ | _ | _ | _ | _ | _ | _ | _ | k <;> first | (cases hk; done) | (cases hk; exact absurd rfl (Ne.symm HE5_q3.out))))
  have ht4 := there_blk ht4 (hJ.block _ (there_lt ht4 (by omega)) (fun k hk => by rcases k with _ | _ | _ | _ | _ | _ | _ | _ | _ | _ | _ | _ | k <;> first | (cases hk; done) | (cases hk; exact absurd rfl (Ne.symm HE5_q4.out))))
  have HB5 := Lib.hid (blk_keep (HB5.out.set 31 (.int .u8 (d.toNat : Int))) (show _ ∧ W4.heap[gB5]? = (W3.setCell ⟨gB5, 31, none⟩ (.int .u8 (d.toNat : Int))).heap[gB5]? from hG 11 (by simp)).2)
  have hbel0 := hbel
  clear hJ hG hall hb
  go_upto_region 5 with fail
  refine wp_region_turn (fun u => #[v0, u0 0, u 1, u1 3, u2 4, u3 5, u1 0, u1 1, u1 2, u2 0, u2 1, u2 2, u2 3, u3 0, u3 1, u3 2, u3 3, u3 4, u4 0, u4 1, u4 2, u4 3, u4 4, u4 5, u4 6, u4 7, u4 8, u4 9, u4 10, u 0]) (Holds [.oth (fun v => v = .slice (some ⟨gB5, 0, none⟩) 32 cB5), .oth (fun v => v = .slice (some ⟨gB5, 0, none⟩) 32 cB5)] W4) (Keep [.oth (fun v => v = .slice (some ⟨gB5, 0, none⟩) 32 cB5), .oth (fun v => v = .slice (some ⟨gB5, 0, none⟩) 32 cB5)] W4) (fun k => ((undef :: u0 1 :: []) : List Value).getD k undef) ?_ (by rfl) Keep.start (holds_soft (by kernel_rfl)) ?_ ?_
  · intro u i v h
    rcases i with _ | _ | i
    all_goals first | (simp [Act.put, putV]; done) | (exfalso; simp at h; omega)
  · intro hs
    refine ⟨?_, ?_, trivial⟩
    · exact step_pureO hs (wants_none rfl) rfl fun L u W hG hdep => ⟨_, run_move rfl, EB5.out⟩
    · exact step_pureO hs (wants_none rfl) rfl fun L u W hG hdep => ⟨_, run_assign rfl, (show u 0 = .slice (some ⟨gB5, 0, none⟩) 32 cB5 from hG 0 (hdep 0 (by kernel_rfl)))⟩
  intro L5 u5 W5 hall hJ hG
  have hb := hJ.all rfl
  have hbel := Below.call hbel hb
  have hm1 := hm1.later hb
  have hm3 := hm3.later hb
  have hm4 := hm4.later hb
  have ht1 := there_later ht1 hb
  have ht3 := there_later ht3 hb
  have ht4 := there_later ht4 hb
  have HB5 := Lib.hid (HB5.out.below' hb)
  have HC2 := Lib.hid (show u5 1 = .slice (some ⟨gB5, 0, none⟩) 32 cB5 from hG 1 (by simp))
  have hbel0 := hbel
  clear hJ hG hall hb
  rw [HC2.out]
  go_wp2
  go_ret
  exact ⟨gB5, 32, cB5, rB5, rfl, hgB5, by rw [← enc_odd HP.out, ← HLB.out, HCD.out, HDD.out, ← set31 HLL.out]; exact HB5.out, encP_len _, hcB5, hmB5, hbel⟩
set_option maxRecDepth 100000 in
set_option maxHeartbeats 4000000 in
theorem qenc_e {v0 : Value} {P : EP} {X Y Z : F} (hp : ¬ P.x.val % 2 = 1) (hpp : Prep P X Y Z) (h0 : IsFs rR v0 [X, Y, Z]) (w : World) :
    Calls Try.prog 58 #[v0] w fun e w' => ∃ g n cap r, e = .returned (.slice (some ⟨g, 0, none⟩) n cap) ∧ w.heap.size ≤ g ∧ Blk w' g ((encP P).map bV ++ r) 5 ∧ (encP P).length = n ∧ n ≤ cap ∧ cap ≤ maxLen ∧ Below w.heap.size w w' := by
  have HP := Lib.hid hp; clear hp
  go_enter Try.func58, Try.ntmps58
  have hbel : Below w.heap.size w w := Below.refl _ _
  have hbel0 := hbel
  go_upto_region 0 with fail
  refine wp_region_turn (fun u => #[v0, u 0, u 1, undef, undef, undef, undef, undef, undef, undef, undef, undef, undef, undef, undef, undef, undef, undef, undef, undef, undef, undef, undef, undef, undef, undef, undef, undef, undef, undef]) (Holds [.box rR [X, Y, Z], .oth (fun v => v = .slice none 0 0)] w) (Keep [.box rR [X, Y, Z], .oth (fun v => v = .slice none 0 0)] w) (fun _ => undef) ?_ (by rfl) Keep.start (holds_soft (by kernel_rfl)) ?_ ?_
  · intro u i v h
    rcases i with _ | _ | i
    all_goals first | (simp [Act.put, putV]; done) | (exfalso; simp at h; omega)
  · intro hs
    refine ⟨?_, ?_, trivial⟩
    · exact step_box hs (wants_none rfl) rfl rfl (gives_c h0 (fun _ => rfl))
    · exact step_pureO hs (wants_none rfl) rfl fun L u W hG hdep => ⟨_, run_assign rfl, rfl⟩
  intro L0 u0 W0 hall hJ hG
  obtain ⟨q1, e1, ⟨hq1, _⟩, ht1, hm1⟩ := (show ∃ g, u0 0 = .pointer (some ⟨g, 0, none⟩) ∧ (w.heap.size ≤ g ∧ g < W0.heap.size) ∧ W0.there g 0 48 ∧ HasFs rR W0 g 0 [X, Y, Z] from hG 0 (by simp))
  have hq1 : w.heap.size ≤ q1 := by have := hbel0.size; omega
  have E1 := Lib.hid e1; clear e1
  have hb := hJ.all rfl
  have hbel := Below.call hbel hb
  have HC2 := Lib.hid (show u0 1 = .slice none 0 0 from hG 1 (by simp))
  have hbel0 := hbel
  clear hJ hG hall hb
  go_upto_region 1 with fail
  refine wp_region_turn (fun u => #[v0, u0 0, u0 1, u 3, undef, undef, u 0, u 1, u 2, undef, undef, undef, undef, undef, undef, undef, undef, undef, undef, undef, undef, undef, undef, undef, undef, undef, undef, undef, undef, undef]) (Holds [.ptr q1 32, .val rR [Z], .val rR [finv Z], .new 16, .st 3 rR [finv Z]] W0) (Keep [.ptr q1 32, .val rR [Z], .val rR [finv Z], .new 16, .st 3 rR [finv Z]] W0) (fun _ => undef) ?_ (by rfl) Keep.start (holds_soft (by kernel_rfl)) ?_ ?_
  · intro u i v h
    rcases i with _ | _ | _ | _ | _ | i
    all_goals first | (simp [Act.put, putV]; done) | (exfalso; simp at h; omega)
  · intro hs
    refine ⟨?_, ?_, ?_, ?_, ?_, trivial⟩
    · exact step_field hs (wants_none rfl) rfl rfl (fun _ => E1.out) (field_Pt2 _)
    · exact step_loadF 0 q1 32 hs (wants_none rfl) rfl rfl tyFe (fun _ => rfl) rfl (by kernel_rfl) hm1.lt (hm1.fld 2 1) (noSto_apart (by kernel_rfl))
    · refine step_call hs (wants_none rfl) rfl fun L u W hJ hG hL hdep K hK => ?_
      have a0 := (show IsFs rR (u 1) [Z] from hG 1 (hdep 1 (by kernel_rfl)))
      go_simp
      go_at_call 55
      (with_reducible refine (kInv a0 _).mono ?_); rintro e w1 ⟨r, rfl, hr, hb⟩
      have hk := hK.out _ _ hr hb
      exact hk
    · exact step_alloc hs (wants_none rfl) rfl rfl (by omega) rfl allocFe
    · exact step_store 3 hs (by kernel_rfl) (wants_none rfl) rfl rfl rfl (by kernel_rfl) (by kernel_rfl) (by kernel_rfl) (by kernel_rfl) (fun _ => rfl) (gives_op 2 rfl (by kernel_rfl) (fun _ => rfl)) tyFe rfl
  intro L1 u1 W1 hall hJ hG
  obtain ⟨q3, e3, hq3, _, ht3⟩ := (show ∃ g, u1 3 = .pointer (some ⟨g, 0, none⟩) ∧ W0.heap.size ≤ g ∧ 0 < 16 ∧ W1.there g 0 16 from hG 3 (by simp))
  have hm3 : HasFs rR W1 q3 0 [finv Z] := by
    obtain ⟨g, e, _, h⟩ := (show ∃ g, u1 3 = .pointer (some ⟨g, 0, none⟩) ∧ W0.heap.size ≤ g ∧ HasFs rR W1 g 0 [finv Z] from hG 4 (by simp))
    rw [e3] at e; cases e; exact h
  have HD3_q1 := Lib.hid (show q1 ≠ q3 by have := there_lt ht1 (by omega); omega)
  have hq3 : w.heap.size ≤ q3 := by have := hbel0.size; omega
  have E3 := Lib.hid e3; clear e3
  have hb := hJ.all rfl
  have hbel := Below.call hbel hb
  have hm1 := hm1.later hb
  have ht1 := there_later ht1 hb
  have hbel0 := hbel
  clear hJ hG hall hb
  go_upto_region 2 with fail
  refine wp_region_turn (fun u => #[v0, u0 0, u0 1, u1 3, u 4, undef, u1 0, u1 1, u1 2, u 0, u 1, u 2, u 3, undef, undef, undef, undef, undef, undef, undef, undef, undef, undef, undef, undef, undef, undef, undef, undef, undef]) (Holds [.ptr q1 0, .val rR [X], .val rR [finv Z], .val rR [X * (finv Z)], .new 16, .st 4 rR [X * (finv Z)]] W1) (Keep [.ptr q1 0, .val rR [X], .val rR [finv Z], .val rR [X * (finv Z)], .new 16, .st 4 rR [X * (finv Z)]] W1) (fun _ => undef) ?_ (by rfl) Keep.start (holds_soft (by kernel_rfl)) ?_ ?_
  · intro u i v h
    rcases i with _ | _ | _ | _ | _ | _ | i
    all_goals first | (simp [Act.put, putV]; done) | (exfalso; simp at h; omega)
  · intro hs
    refine ⟨?_, ?_, ?_, ?_, ?_, ?_, trivial⟩
    · exact step_field hs (wants_none rfl) rfl rfl (fun _ => E1.out) (field_Pt0 _)
    · exact step_loadF 0 q1 0 hs (wants_none rfl) rfl rfl tyFe (fun _ => rfl) rfl (by kernel_rfl) hm1.lt (hm1.fld 0 1) (noSto_apart (by kernel_rfl))
    · exact step_load q3 0 hs (wants_none rfl) rfl rfl tyFe (fun _ => E3.out) hm3.lt hm3 (noSto_apart (by kernel_rfl))
    · refine step_call hs (wants_none rfl) rfl fun L u W hJ hG hL hdep K hK => ?_
      have a0 := (show IsFs rR (u 1) [X] from hG 1 (hdep 1 (by kernel_rfl)))
      have a1 := (show IsFs rR (u 2) [finv Z] from hG 2 (hdep 2 (by kernel_rfl)))
      go_simp
      go_at_call 50
      (with_reducible refine (kMul a0 a1 _).mono ?_); rintro e w1 ⟨r, rfl, hr, hb⟩
      have hk := hK.out _ _ hr hb
      exact hk
    · exact step_alloc hs (wants_none rfl) rfl rfl (by omega) rfl allocFe
    · exact step_store 4 hs (by kernel_rfl) (wants_none rfl) rfl rfl rfl (by kernel_rfl) (by kernel_rfl) (by kernel_rfl) (by kernel_rfl) (fun _ => rfl) (gives_op 3 rfl (by kernel_rfl) (fun _ => rfl)) tyFe rfl
  intro L2 u2 W2 hall hJ hG
  obtain ⟨q4, e4, hq4, _, ht4⟩ := (show ∃ g, u2 4 = .pointer (some ⟨g, 0, none⟩) ∧ W1.heap.size ≤ g ∧ 0 < 16 ∧ W2.there g 0 16 from hG 4 (by simp))
  have hm4 : HasFs rR W2 q4 0 [X * (finv Z)] := by
    obtain ⟨g, e, _, h⟩ := (show ∃ g, u2 4 = .pointer (some ⟨g, 0, none⟩) ∧ W1.heap.size ≤ g ∧ HasFs rR W2 g 0 [X * (finv Z)] from hG 5 (by simp))
    rw [e4] at e; cases e; exact h
  have HD4_q1 := Lib.hid (show q1 ≠ q4 by have := there_lt ht1 (by omega); omega)
  have HD4_q3 := Lib.hid (show q3 ≠ q4 by have := there_lt ht3 (by omega); omega)
  have hq4 : w.heap.size ≤ q4 := by have := hbel0.size; omega
  have E4 := Lib.hid e4; clear e4
  have hb := hJ.all rfl
  have hbel := Below.call hbel hb
  have hm1 := hm1.later hb
  have hm3 := hm3.later hb
  have ht1 := there_later ht1 hb
  have ht3 := there_later ht3 hb
  have hbel0 := hbel
  clear hJ hG hall hb
  go_upto_region 3 with fail
  refine wp_region_turn (fun u => #[v0, u0 0, u0 1, u1 3, u2 4, u 5, u1 0, u1 1, u1 2, u2 0, u2 1, u2 2, u2 3, u 0, u 1, u 2, u 3, u 4, undef, undef, undef, undef, undef, undef, undef, undef, undef, undef, undef, undef]) (Holds [.ptr q1 16, .val rR [Y], .val rR [finv Z], .val rR [Y * (finv Z)], .rd (leB 32 (Y * (finv Z)).val), .rd (leB 32 (Y * (finv Z)).val)] W2) (Keep [.ptr q1 16, .val rR [Y], .val rR [finv Z], .val rR [Y * (finv Z)], .rd (leB 32 (Y * (finv Z)).val), .rd (leB 32 (Y * (finv Z)).val)] W2) (fun _ => undef) ?_ (by rfl) Keep.start (holds_soft (by kernel_rfl)) ?_ ?_
  · intro u i v h
    rcases i with _ | _ | _ | _ | _ | _ | i
    all_goals first | (simp [Act.put, putV]; done) | (exfalso; simp at h; omega)
  · intro hs
    refine ⟨?_, ?_, ?_, ?_, ?_, ?_, trivial⟩
    · exact step_field hs (wants_none rfl) rfl rfl (fun _ => E1.out) (field_Pt1 _)
    · exact step_loadF 0 q1 16 hs (wants_none rfl) rfl rfl tyFe (fun _ => rfl) rfl (by kernel_rfl) hm1.lt (hm1.fld 1 1) (noSto_apart (by kernel_rfl))
    · exact step_load q3 0 hs (wants_none rfl) rfl rfl tyFe (fun _ => E3.out) hm3.lt hm3 (noSto_apart (by kernel_rfl))
    · refine step_call hs (wants_none rfl) rfl fun L u W hJ hG hL hdep K hK => ?_
      have a0 := (show IsFs rR (u 1) [Y] from hG 1 (hdep 1 (by kernel_rfl)))
      have a1 := (show IsFs rR (u 2) [finv Z] from hG 2 (hdep 2 (by kernel_rfl)))
      go_simp
      go_at_call 50
      (with_reducible refine (kMul a0 a1 _).mono ?_); rintro e w1 ⟨r, rfl, hr, hb⟩
      have hk := hK.out _ _ hr hb
      exact hk
    · refine step_callB hs (wants_none rfl) rfl fun L u W hJ hG hL hdep K hK => ?_
      have a0 := (show IsFs rR (u 3) [Y * (finv Z)] from hG 3 (hdep 3 (by kernel_rfl)))
      go_simp
      go_at_call 69
      (with_reducible refine (kBytes a0 _).mono ?_); rintro e w1 ⟨g, n, cap, r, rfl, h1, h2, h3, h4, h5, hb⟩
      have hk := hK.out _ _ _ _ _ h1 h2 h3 h4 h5 hb
      exact hk
    · exact step_moveB 4 hs (wants_none rfl) rfl (by first | exact .inl rfl | exact .inr rfl) rfl (by kernel_rfl) (fun _ => rfl)
  intro L3 u3 W3 hall hJ hG
  obtain ⟨gB5, nB5, cB5, rB5, eB5, hgB5, hB5, hlB5, hcB5, hmB5⟩ := (show ∃ g n cap r, u3 5 = .slice (some ⟨g, 0, none⟩) n cap ∧ W2.heap.size ≤ g ∧ Blk W3 g ((leB 32 (Y * (finv Z)).val).map bV ++ r) 5 ∧ (leB 32 (Y * (finv Z)).val).length = n ∧ n ≤ cap ∧ cap ≤ maxLen from hG 5 (by simp))
  have hgB5 : w.heap.size ≤ gB5 := by have := hbel0.size; omega
  have EB5 := Lib.hid eB5; clear eB5
  obtain rfl : nB5 = 32 := by have h : (((leB 32 (Y * (finv Z)).val).length : Nat) : Int) = 32 := (by rw [leB_len]; rfl); omega
  have HB5 := Lib.hid hB5; clear hB5
  have HE5_q1 := Lib.hid (show q1 ≠ gB5 by have := there_lt ht1 (by omega); omega)
  have HE5_q3 := Lib.hid (show q3 ≠ gB5 by have := there_lt ht3 (by omega); omega)
  have HE5_q4 := Lib.hid (show q4 ≠ gB5 by have := there_lt ht4 (by omega); omega)
  have hb := hJ.all rfl
  have hbel := Below.call hbel hb
  have hm1 := hm1.later hb
  have hm3 := hm3.later hb
  have hm4 := hm4.later hb
  have ht1 := there_later ht1 hb
  have ht3 := there_later ht3 hb
  have ht4 := there_later ht4 hb
  have hbel0 := hbel
  clear hJ hG hall hb
  have HXV : Hid (X * finv Z = P.x) := Lib.hid hpp.xv
  have HLB : Hid (leB 32 (Y * finv Z).val = leB 32 P.y.val) := Lib.hid (by rw [hpp.yv])
  generalize leB 32 (Y * finv Z).val = LB at *
  have HLL : Hid (LB.length = 32) := Lib.hid (by rw [HLB.out, leB_len])
  have hcell := at31 HLL.out HB5.out
  have HCF : Hid (W3.frozen? ⟨gB5, 31, none⟩ = false) := Lib.hid (HB5.out.frozen 31)
  have HX0 := Lib.hid (hm4.cell0)
  have HA : Hid (bits BinOp.and IntKind.u64 ((d16 (X * finv Z).val 0 : Nat) : Int) 1 = 0) := Lib.hid (by rw [odd16, HXV.out]; have := HP.out; omega)
  generalize d16 (X * finv Z).val 0 = D at *
  generalize hcd : LB.getD 31 0 = c at *
  obtain ⟨d, hd⟩ : ∃ d, c = d := ⟨_, rfl⟩
  have HO : Hid (bits BinOp.or IntKind.u8 (c.toNat : Int) 0 = (d.toNat : Int)) := Lib.hid (by rw [← hd]; exact or_nil c)
  have HCC := Lib.hid hcell; have HCD := Lib.hid hcd; have HDD := Lib.hid hd
  clear hcell hcd hd
  go_upto_region 4 with fail
  refine wp_region_mid (fun u => #[v0, u0 0, u0 1, u1 3, u2 4, u3 5, u1 0, u1 1, u1 2, u2 0, u2 1, u2 2, u2 3, u3 0, u3 1, u3 2, u3 3, u3 4, u 0, u 1, u 2, u 3, u 4, u 5, u 6, u 7, u 8, u 9, u 10, undef]) (Holds [.oth (fun v => v = .slice (some ⟨gB5, 0, none⟩) 32 cB5), .oth (fun v => v = .slice (some ⟨gB5, 0, none⟩) 32 cB5), .oth (fun v => v = .pointer (some ⟨gB5, 31, none⟩)), .oth (fun v => v = .int .u8 (c.toNat : Int)), .oth (fun v => v = .pointer (some ⟨q4, 0, none⟩)), .oth (fun v => v = .int .u64 (D : Nat)), .oth (fun v => v = .int .u64 0), .oth (fun v => v = .int .u8 0), .oth (fun v => v = .int .u8 0), .oth (fun v => v = .int .u8 (d.toNat : Int)), .oth (fun v => v = .pointer (some ⟨gB5, 31, none⟩)), .cst gB5 31 (.int .u8 (d.toNat : Int))] W3) (Keep [.oth (fun v => v = .slice (some ⟨gB5, 0, none⟩) 32 cB5), .oth (fun v => v = .slice (some ⟨gB5, 0, none⟩) 32 cB5), .oth (fun v => v = .pointer (some ⟨gB5, 31, none⟩)), .oth (fun v => v = .int .u8 (c.toNat : Int)), .oth (fun v => v = .pointer (some ⟨q4, 0, none⟩)), .oth (fun v => v = .int .u64 (D : Nat)), .oth (fun v => v = .int .u64 0), .oth (fun v => v = .int .u8 0), .oth (fun v => v = .int .u8 0), .oth (fun v => v = .int .u8 (d.toNat : Int)), .oth (fun v => v = .pointer (some ⟨gB5, 31, none⟩)), .cst gB5 31 (.int .u8 (d.toNat : Int))] W3) (fun _ => undef) (by kernel_rfl) (by kernel_rfl) ?_ (by rfl) Keep.drew (holds_soft (by kernel_rfl)) ?_ ?_
  · intro u i v h
    rcases i with _ | _ | _ | _ | _ | _ | _ | _ | _ | _ | _ | _ | i
    all_goals first | (simp [Act.put, putV]; done) | (exfalso; simp at h; omega)
  · intro hs
    refine ⟨?_, ?_, ?_, ?_, ?_, ?_, ?_, ?_, ?_, ?_, ?_, ?_, trivial⟩
    · exact step_pureO hs (wants_none rfl) rfl fun L u W hG hdep => ⟨_, run_move rfl, EB5.out⟩
    · exact step_pureO hs (wants_none rfl) rfl fun L u W hG hdep => ⟨_, run_move rfl, EB5.out⟩
    · refine step_pureO hs (wants_none rfl) rfl fun L u W hG hdep => ⟨_, ?_, rfl⟩
      have e0 := (show u 1 = .slice (some ⟨gB5, 0, none⟩) 32 cB5 from hG 1 (hdep 1 (by kernel_rfl)))
      go_simp
    · exact step_cell gB5 31 hs (wants_none rfl) rfl rfl (fun _ h => load_u8 h) (fun L u W hG hdep => (show u 2 = .pointer (some ⟨gB5, 31, none⟩) from hG 2 (hdep 2 (by kernel_rfl)))) HCC.out (fun k g hk => by rcases k with _ | _ | _ | _ | _ | _ | _ | _ | _ | _ | _ | _ | k <;> first | (cases hk; done) | (cases hk; exact .inl (by kernel_rfl)))
    · refine step_pureO hs (wants_none rfl) rfl fun L u W hG hdep => ⟨_, ?_, rfl⟩
      have e0 := E4.out
      go_simp
    · exact step_cell q4 0 hs (wants_none rfl) rfl rfl (fun _ h => load_u64 h) (fun L u W hG hdep => (show u 4 = .pointer (some ⟨q4, 0, none⟩) from hG 4 (hdep 4 (by kernel_rfl)))) HX0.out (fun k g hk => by rcases k with _ | _ | _ | _ | _ | _ | _ | _ | _ | _ | _ | _ | k <;> first | (cases hk; done) | (cases hk; exact .inr (Ne.symm HE5_q4.out)))
    · refine step_pureO hs (wants_none rfl) rfl fun L u W hG hdep => ⟨_, ?_, rfl⟩
      have e0 := (show u 5 = .int .u64 (D : Nat) from hG 5 (hdep 5 (by kernel_rfl)))
      have e9 := HA.out
      go_simp
    · refine step_pureO hs (wants_none rfl) rfl fun L u W hG hdep => ⟨_, ?_, rfl⟩
      have e0 := (show u 6 = .int .u64 0 from hG 6 (hdep 6 (by kernel_rfl)))
      go_simp
      try rfl
    · refine step_pureO hs (wants_none rfl) rfl fun L u W hG hdep => ⟨_, ?_, rfl⟩
      have e0 := (show u 7 = .int .u8 0 from hG 7 (hdep 7 (by kernel_rfl)))
      go_simp
      try rfl
    · refine step_pureO hs (wants_none rfl) rfl fun L u W hG hdep => ⟨_, ?_, rfl⟩
      have e0 := (show u 3 = .int .u8 (c.toNat : Int) from hG 3 (hdep 3 (by kernel_rfl)))
      have e1 := (show u 8 = .int .u8 0 from hG 8 (hdep 8 (by kernel_rfl)))
      have e9 := HO.out
      go_simp
    · refine step_pureO hs (wants_none rfl) rfl fun L u W hG hdep => ⟨_, ?_, rfl⟩
      have e0 := (show u 0 = .slice (some ⟨gB5, 0, none⟩) 32 cB5 from hG 0 (hdep 0 (by kernel_rfl)))
      go_simp
    · refine step_cst (old := .int .u8 (c.toNat : Int)) gB5 31 hs (wants_none rfl) rfl rfl (by kernel_rfl) (fun k hk => ?_) (fun _ h1 h2 => store_u8 h1 h2) (fun L u W hG hdep => (show u 10 = .pointer (some ⟨gB5, 31, none⟩) from hG 10 (hdep 10 (by kernel_rfl)))) (fun L u W hG hdep => (show u 9 = .int .u8 (d.toNat : Int) from hG 9 (hdep 9 (by kernel_rfl)))) HCC.out HCF.out
      rcases k with _ | _ | _ | _ | _ | _ | _ | _ | _ | _ | _ | _ | k
      all_goals first | (exact absurd rfl hk) | (intro e; cases e; done)
  intro L4 u4 W4 hall hJ hG
  have hb : Below w.heap.size W3 W4 := hJ.below (by have := hbel.size; omega) (fun k b hf => by rcases k with _ | _ | _ | _ | _ | _ | _ | _ | _ | _ | _ | _ | k <;> first | (cases hf; done) | (cases hf; omega))
  have hbel := hbel.trans hb
  have hm1 := hm1.blk (hJ.block _ (hm1.lt) (fun k hk => by rcases k with _ | _ | _ | _ | _ | _ | _ | _ | _ | _ | _ | _ | k <;> first | (cases hk; done) | (cases hk; exact absurd rfl (Ne.symm HE5_q1.out))))
  have hm3 := hm3.blk (hJ.block _ (hm3.lt) (fun k hk => by rcases k with _ | _ | _ | _ | _ | _ | _ | _ | _ | _ | _ | _ | k <;> first | (cases hk; done) | (cases hk; exact absurd rfl (Ne.symm HE5_q3.out))))
  have hm4 := hm4.blk (hJ.block _ (hm4.lt) (fun k hk => by rcases k with _ | _ | _ | _ | _ | _ | _ | _ | _ | _ | _ | _ | k <;> first | (cases hk; done) | (cases hk; exact absurd rfl (Ne.symm HE5_q4.out))))
  have ht1 := there_blk ht1 (hJ.block _ (there_lt ht1 (by omega)) (fun k hk => by rcases k with _ | _ | _ | _ | _ | _ | _ | _ | _ | _ | _ | _ | k <;> first | (cases hk; done) | (cases hk; exact absurd rfl (Ne.symm HE5_q1.out))))
  have ht3 := there_blk ht3 (hJ.block _ (there_lt ht3 (by omega)) (fun k hk => by rcases k with _ | _ | _ | _ | _ | _ | _ | _ | _ | _ | _ | _ | k <;> first | (cases hk; done) | (cases hk; exact absurd rfl (Ne.symm HE5_q3.out))))
  have ht4 := there_blk ht4 (hJ.block _ (there_lt ht4 (by omega)) (fun k hk => by rcases k with _ | _ | _ | _ | _ | _ | _ | _ | _ | _ | _ | _ | k <;> first | (cases hk; done) | (cases hk; exact absurd rfl (Ne.symm HE5_q4.out))))
  have HB5 := Lib.hid (blk_keep (HB5.out.set 31 (.int .u8 (d.toNat : Int))) (show _ ∧ W4.heap[gB5]? = (W3.setCell ⟨gB5, 31, none⟩ (.int .u8 (d.toNat : Int))).heap[gB5]? from hG 11 (by simp)).2)
  have hbel0 := hbel
  clear hJ hG hall hb
  go_upto_region 5 with fail
  refine wp_region_turn (fun u => #[v0, u0 0, u 1, u1 3, u2 4, u3 5, u1 0, u1 1, u1 2, u2 0, u2 1, u2 2, u2 3, u3 0, u3 1, u3 2, u3 3, u3 4, u4 0, u4 1, u4 2, u4 3, u4 4, u4 5, u4 6, u4 7, u4 8, u4 9, u4 10, u 0]) (Holds [.oth (fun v => v = .slice (some ⟨gB5, 0, none⟩) 32 cB5), .oth (fun v => v = .slice (some ⟨gB5, 0, none⟩) 32 cB5)] W4) (Keep [.oth (fun v => v = .slice (some ⟨gB5, 0, none⟩) 32 cB5), .oth (fun v => v = .slice (some ⟨gB5, 0, none⟩) 32 cB5)] W4) (fun k => ((undef :: u0 1 :: []) : List Value).getD k undef) ?_ (by rfl) Keep.start (holds_soft (by kernel_rfl)) ?_ ?_
  · intro u i v h
    rcases i with _ | _ | i
    all_goals first | (simp [Act.put, putV]; done) | (exfalso; simp at h; omega)
  · intro hs
    refine ⟨?_, ?_, trivial⟩
    · exact step_pureO hs (wants_none rfl) rfl fun L u W hG hdep => ⟨_, run_move rfl, EB5.out⟩
    · exact step_pureO hs (wants_none rfl) rfl fun L u W hG hdep => ⟨_, run_assign rfl, (show u 0 = .slice (some ⟨gB5, 0, none⟩) 32 cB5 from hG 0 (hdep 0 (by kernel_rfl)))⟩
  intro L5 u5 W5 hall hJ hG
  have hb := hJ.all rfl
  have hbel := Below.call hbel hb
  have hm1 := hm1.later hb
  have hm3 := hm3.later hb
  have hm4 := hm4.later hb
  have ht1 := there_later ht1 hb
  have ht3 := there_later ht3 hb
  have ht4 := there_later ht4 hb
  have HB5 := Lib.hid (HB5.out.below' hb)
  have HC2 := Lib.hid (show u5 1 = .slice (some ⟨gB5, 0, none⟩) 32 cB5 from hG 1 (by simp))
  have hbel0 := hbel
  clear hJ hG hall hb
  rw [HC2.out]
  go_wp2
  go_ret
  exact ⟨gB5, 32, cB5, rB5, rfl, hgB5, by rw [← enc_even HP.out, ← HLB.out, ← set_same HLL.out (HCD.out.trans HDD.out), ← set31 HLL.out]; exact HB5.out, encP_len _, hcB5, hmB5, hbel⟩
theorem kEncode {v0 : Value} {P : EP} (h0 : IsFs rQ v0 [P]) (w : World) :
    Calls Try.prog 58 #[v0] w fun e w' => ∃ g n cap r, e = .returned (.slice (some ⟨g, 0, none⟩) n cap) ∧ w.heap.size ≤ g ∧ Blk w' g ((encP P).map bV ++ r) 5 ∧ (encP P).length = n ∧ n ≤ cap ∧ cap ≤ maxLen ∧ Below w.heap.size w w' := by
  obtain ⟨x, y, z, i0, hpp⟩ := of_isQ h0
  by_cases hp : P.x.val % 2 = 1
  · exact qenc_o hp hpp i0 w
  · exact qenc_e hp hpp i0 w
theorem xx_fsR {v : Value} {y : F} (h : IsFs rR v [(y * y - fn 1) * finv (dE * (y * y) + fn 1)]) : IsFs rR v [xx y] := by
  rw [F.mul_comm' dE] at h
  exact h
theorem rrootN {v : Value} {x X : F} {c : Int} (hX : rootV x = X) (hc : rootC x = c) (h : IsFs rR v [x]) (w : World) :
    Calls Try.prog 56 #[v] w fun e w' => ∃ r, e = .returned (.tuple #[r, .int .i64 c]) ∧ IsFs rR r [X] ∧ Below w.heap.size w w' := by subst hX hc; exact rrootM h w
theorem dec_prep {P : EP} {x y : F} (hx : P.x = x) (hy : P.y = y) : Prep P x y (fn 1) := by subst hx hy; exact Prep.one P
theorem odd_bit2 {l : List UInt8} {c : UInt8} {o : Bool} (h : l.length = 32) (hc : l.getD 31 0 = c) (ho : sgn l = o) : ((c.toNat : Int) / 128 == 1) = o := by
  rw [← ho, sgn_byte h, hc]
  exact odd_byte2 _ c.toNat_lt
theorem clr_bit2 {c d : UInt8} (h : c &&& 127 = d) : bits BinOp.and IntKind.u8 (c.toNat : Int) 127 = (d.toNat : Int) := by
  have := clr_byte3 c.toNat c.toNat_lt
  rw [UInt8.ofNat_toNat, h] at this
  exact this
set_option maxRecDepth 100000 in
set_option maxHeartbeats 4000000 in
theorem qdecode_len {a : Option Addr} {n cap : Nat} (w : World) (hn : n ≠ 32) :
    Calls Try.prog 11 #[.slice a n cap] w fun e w' => ∃ r, e = .returned (.tuple #[r, .int .i64 12]) ∧ IsFs rQ r [Cp.zero] ∧ Below w.heap.size w w' := by
  have HD : Hid (¬ ((n : Int) = 32)) := Lib.hid (by omega)
  clear hn
  go_enter Try.func11, Try.ntmps11
  have hbel : Below w.heap.size w w := Below.refl _ _
  have hbel0 := hbel
  go_upto_region 0 with fail
  refine wp_region_turn (fun u => (.slice a n cap :: undef :: u 0 :: u 1 :: undef :: undef :: undef :: undef :: undef :: undef :: undef :: undef :: undef :: undef :: undef :: undef :: undef :: undef :: undef :: undef :: undef :: undef :: undef :: undef :: undef :: undef :: undef :: undef :: undef :: undef :: undef :: undef :: undef :: undef :: undef :: undef :: undef :: undef :: undef :: undef :: undef :: undef :: undef :: undef :: undef :: undef :: undef :: undef :: undef :: undef :: undef :: undef :: undef :: undef :: undef :: undef :: undef :: undef :: undef :: undef :: undef :: undef :: undef :: undef :: undef :: undef :: undef :: undef :: undef :: undef :: undef :: undef :: undef :: undef :: undef :: undef :: []).toArray) (Holds [.new 48, .oth (fun v => v = .int .i64 0)] w) (Keep [.new 48, .oth (fun v => v = .int .i64 0)] w) (fun _ => undef) ?_ (by rfl) Keep.start (holds_soft (by kernel_rfl)) ?_ ?_
  · intro u i v h
    rcases i with _ | _ | i
    all_goals first | (simp [Act.put, putV]; done) | (exfalso; simp at h; omega)
  · intro hs
    refine ⟨?_, ?_, trivial⟩
    · exact step_alloc hs (wants_none rfl) rfl rfl (by omega) rfl allocPt
    · exact step_pureO hs (wants_none rfl) rfl fun L u W hG hdep => ⟨_, run_assign rfl, rfl⟩
  intro L0 u0 W0 hall hJ hG
  obtain ⟨q2, e2, hq2, _, ht2⟩ := (show ∃ g, u0 0 = .pointer (some ⟨g, 0, none⟩) ∧ w.heap.size ≤ g ∧ 0 < 48 ∧ W0.there g 0 48 from hG 0 (by simp))
  have hq2 : w.heap.size ≤ q2 := by have := hbel0.size; omega
  have E2 := Lib.hid e2; clear e2
  have hb := hJ.all rfl
  have hbel := Below.call hbel hb
  have HC3 := Lib.hid (show u0 1 = .int .i64 0 from hG 1 (by simp))
  have hbel0 := hbel
  clear hJ hG hall hb
  go_upto_region 1 with fail
  refine wp_region_turn (fun u => (.slice a n cap :: undef :: u0 0 :: u0 1 :: undef :: undef :: undef :: undef :: undef :: undef :: undef :: undef :: undef :: u 0 :: u 1 :: u 2 :: undef :: undef :: undef :: undef :: undef :: undef :: undef :: undef :: undef :: undef :: undef :: undef :: undef :: undef :: undef :: undef :: undef :: undef :: undef :: undef :: undef :: undef :: undef :: undef :: undef :: undef :: undef :: undef :: undef :: undef :: undef :: undef :: undef :: undef :: undef :: undef :: undef :: undef :: undef :: undef :: undef :: undef :: undef :: undef :: undef :: undef :: undef :: undef :: undef :: undef :: undef :: undef :: undef :: undef :: undef :: undef :: undef :: undef :: undef :: undef :: []).toArray) (Holds [.oth (fun v => v = .slice a n cap), .oth (fun v => v = .int .i64 (n : Nat)), .oth (fun v => v = .bool true)] W0) (Keep [.oth (fun v => v = .slice a n cap), .oth (fun v => v = .int .i64 (n : Nat)), .oth (fun v => v = .bool true)] W0) (fun _ => undef) ?_ (by rfl) Keep.start (holds_soft (by kernel_rfl)) ?_ ?_
  · intro u i v h
    rcases i with _ | _ | _ | i
    all_goals first | (simp [Act.put, putV]; done) | (exfalso; simp at h; omega)
  · intro hs
    refine ⟨?_, ?_, ?_, trivial⟩
    · exact step_pureO hs (wants_none rfl) rfl fun L u W hG hdep => ⟨_, run_move rfl, rfl⟩
    · refine step_pureO hs (wants_none rfl) rfl fun L u W hG hdep => ⟨_, ?_, rfl⟩
      have e0 := (show u 0 = .slice a n cap from hG 0 (hdep 0 (by kernel_rfl)))
      go_simp
    · refine step_pureO hs (wants_none rfl) rfl fun L u W hG hdep => ⟨_, ?_, rfl⟩
      have e0 := (show u 1 = .int .i64 (n : Nat) from hG 1 (hdep 1 (by kernel_rfl)))
      go_simp
      exact HD.out
  intro L1 u1 W1 hall hJ hG
  have hb := hJ.all rfl
  have hbel := Below.call hbel hb
  have ht2 := there_later ht2 hb
  have HC15 := Lib.hid (show u1 2 = .bool true from hG 2 (by simp))
  have hbel0 := hbel
  clear hJ hG hall hb
  have hx : u1 2 = .bool true := HC15.out
  go_wp2_with fail
  rw [hx]
  clear hx
  go_upto_region 2 with fail
  refine wp_region_turn (fun u => (.slice a n cap :: undef :: u0 0 :: u 2 :: undef :: undef :: undef :: undef :: undef :: undef :: undef :: undef :: undef :: u1 0 :: u1 1 :: .bool true :: u 0 :: undef :: undef :: undef :: undef :: undef :: undef :: undef :: undef :: undef :: undef :: undef :: undef :: undef :: undef :: undef :: undef :: undef :: undef :: undef :: undef :: undef :: undef :: undef :: undef :: undef :: undef :: undef :: undef :: undef :: undef :: undef :: undef :: undef :: undef :: undef :: undef :: undef :: undef :: undef :: undef :: undef :: undef :: undef :: undef :: undef :: undef :: undef :: undef :: undef :: undef :: undef :: undef :: undef :: undef :: undef :: undef :: undef :: undef :: undef :: []).toArray) (Holds [.val rQ [Cp.zero], .sto q2 rQ [Cp.zero], .oth (fun v => v = .int .i64 12)] W1) (Keep [.val rQ [Cp.zero], .sto q2 rQ [Cp.zero], .oth (fun v => v = .int .i64 12)] W1) (fun k => ((undef :: undef :: u0 1 :: []) : List Value).getD k undef) ?_ (by rfl) Keep.start (holds_soft (by kernel_rfl)) ?_ ?_
  · intro u i v h
    rcases i with _ | _ | _ | i
    all_goals first | (simp [Act.put, putV]; done) | (exfalso; simp at h; omega)
  · intro hs
    refine ⟨?_, ?_, ?_, trivial⟩
    · refine step_call hs (wants_none rfl) rfl fun L u W hJ hG hL hdep K hK => ?_
      go_simp
      go_at_call 48
      (with_reducible refine (kZero _).mono ?_); rintro e w1 ⟨r, rfl, hr, hb⟩
      have hk := hK.out _ _ hr hb
      exact hk
    · refine step_storeO q2 48 hs (wants_none rfl) rfl rfl (by kernel_rfl) (fun k hk => ?_) (fun _ => E2.out) (there_lt ht2 (by omega)) ht2 (gives_op 0 rfl (by kernel_rfl) (fun _ => rfl)) tyPt rfl
      rcases k with _ | _ | _ | k
      all_goals first | (exact absurd rfl hk) | (intro e; cases e; done)
    · exact step_pureO hs (wants_none rfl) rfl fun L u W hG hdep => ⟨_, run_assign rfl, rfl⟩
  intro L2 u2 W2 hall hJ hG
  have hb : Below w.heap.size W1 W2 := hJ.below (by have := hbel.size; omega) (fun k b hf => by rcases k with _ | _ | _ | k <;> first | (cases hf; done) | (cases hf; omega))
  have hbel := hbel.trans hb
  obtain ⟨_, hs2_1t, hs2_1⟩ := (show _ ∧ W2.there q2 0 48 ∧ HasFs rQ W2 q2 0 [Cp.zero] from hG 1 (by simp))
  have HC3 := Lib.hid (show u2 2 = .int .i64 12 from hG 2 (by simp))
  have hbel0 := hbel
  clear hJ hG hall hb
  go_wp2
  exact ret_cell_slot (R := rQ) Try.results11 (by exact E2.out) (by exact HC3.out) hs2_1 tyPt rfl (fun r hr => ⟨r, rfl, hr, hbel⟩)
set_option maxRecDepth 100000 in
set_option maxHeartbeats 8000000 in
theorem qdecode_32 {bb q cap : Nat} {l : List UInt8} {o : Bool} (w : World) (hs : sgn l = o) (h : RdB w (some ⟨bb, q, none⟩) 32 cap l) :
    Calls Try.prog 11 #[.slice (some ⟨bb, q, none⟩) 32 cap] w fun e w' => ∃ r, e = .returned (.tuple #[r, .int .i64 (decC l)]) ∧ IsFs rQ r [decV l] ∧ Below w.heap.size w w' := by
  have hl := h.hlen
  obtain ⟨b', q', hab, hc0⟩ := h.get 31 (by omega)
  obtain ⟨rfl, rfl⟩ : bb = b' ∧ q = q' := by simpa using hab
  clear hab
  obtain ⟨c, hc⟩ : ∃ c, c = l.getD 31 0 := ⟨_, rfl⟩
  have hc1 : w.cell? ⟨bb, q + 31, none⟩ = some (.int .u8 (c.toNat : Int)) := by
    rw [hc0, hc, List.getD_eq_getElem?_getD, List.getElem?_eq_getElem (by omega)]; rfl
  have HCL := Lib.hid hc1
  have HOB := Lib.hid (odd_bit2 hl hc.symm hs)
  obtain ⟨d, hd⟩ : ∃ d, c &&& 127 = d := ⟨_, rfl⟩
  have HDB := Lib.hid (clr_bit2 hd)
  have HK0 : Hid (l.set 31 d = clr l) := Lib.hid (by unfold clr; rw [← hc, hd])
  have HL := Lib.hid hl; have HS := Lib.hid hs; have HCC := Lib.hid hc
  clear hc0 hc1 hc hd hl hs
  go_enter Try.func11, Try.ntmps11
  have hbel : Below w.heap.size w w := Below.refl _ _
  have hbel0 := hbel
  go_upto_region 0 with fail
  refine wp_region_turn (fun u => (.slice (some ⟨bb, q, none⟩) 32 cap :: undef :: u 0 :: u 1 :: undef :: undef :: undef :: undef :: undef :: undef :: undef :: undef :: undef :: undef :: undef :: undef :: undef :: undef :: undef :: undef :: undef :: undef :: undef :: undef :: undef :: undef :: undef :: undef :: undef :: undef :: undef :: undef :: undef :: undef :: undef :: undef :: undef :: undef :: undef :: undef :: undef :: undef :: undef :: undef :: undef :: undef :: undef :: undef :: undef :: undef :: undef :: undef :: undef :: undef :: undef :: undef :: undef :: undef :: undef :: undef :: undef :: undef :: undef :: undef :: undef :: undef :: undef :: undef :: undef :: undef :: undef :: undef :: undef :: undef :: undef :: undef :: []).toArray) (Holds [.new 48, .oth (fun v => v = .int .i64 0)] w) (Keep [.new 48, .oth (fun v => v = .int .i64 0)] w) (fun _ => undef) ?_ (by rfl) Keep.start (holds_soft (by kernel_rfl)) ?_ ?_
  · intro u i v h
    rcases i with _ | _ | i
    all_goals first | (simp [Act.put, putV]; done) | (exfalso; simp at h; omega)
  · intro hs
    refine ⟨?_, ?_, trivial⟩
    · exact step_alloc hs (wants_none rfl) rfl rfl (by omega) rfl allocPt
    · exact step_pureO hs (wants_none rfl) rfl fun L u W hG hdep => ⟨_, run_assign rfl, rfl⟩
  intro L0 u0 W0 hall hJ hG
  obtain ⟨q2, e2, hq2, _, ht2⟩ := (show ∃ g, u0 0 = .pointer (some ⟨g, 0, none⟩) ∧ w.heap.size ≤ g ∧ 0 < 48 ∧ W0.there g 0 48 from hG 0 (by simp))
  have hq2 : w.heap.size ≤ q2 := by have := hbel0.size; omega
  have E2 := Lib.hid e2; clear e2
  have hb := hJ.all rfl
  have hbel := Below.call hbel hb
  have HC3 := Lib.hid (show u0 1 = .int .i64 0 from hG 1 (by simp))
  have hbel0 := hbel
  clear hJ hG hall hb
  go_upto_region 1 with fail
  refine wp_region_turn (fun u => (.slice (some ⟨bb, q, none⟩) 32 cap :: undef :: u0 0 :: u0 1 :: undef :: undef :: undef :: undef :: undef :: undef :: undef :: undef :: undef :: u 0 :: u 1 :: u 2 :: undef :: undef :: undef :: undef :: undef :: undef :: undef :: undef :: undef :: undef :: undef :: undef :: undef :: undef :: undef :: undef :: undef :: undef :: undef :: undef :: undef :: undef :: undef :: undef :: undef :: undef :: undef :: undef :: undef :: undef :: undef :: undef :: undef :: undef :: undef :: undef :: undef :: undef :: undef :: undef :: undef :: undef :: undef :: undef :: undef :: undef :: undef :: undef :: undef :: undef :: undef :: undef :: undef :: undef :: undef :: undef :: undef :: undef :: undef :: undef :: []).toArray) (Holds [.oth (fun v => v = .slice (some ⟨bb, q, none⟩) 32 cap), .oth (fun v => v = .int .i64 32), .oth (fun v => v = .bool false)] W0) (Keep [.oth (fun v => v = .slice (some ⟨bb, q, none⟩) 32 cap), .oth (fun v => v = .int .i64 32), .oth (fun v => v = .bool false)] W0) (fun _ => undef) ?_ (by rfl) Keep.start (holds_soft (by kernel_rfl)) ?_ ?_
  · intro u i v h
    rcases i with _ | _ | _ | i
    all_goals first | (simp [Act.put, putV]; done) | (exfalso; simp at h; omega)
  · intro hs
    refine ⟨?_, ?_, ?_, trivial⟩
    · exact step_pureO hs (wants_none rfl) rfl fun L u W hG hdep => ⟨_, run_move rfl, rfl⟩
    · refine step_pureO hs (wants_none rfl) rfl fun L u W hG hdep => ⟨_, ?_, rfl⟩
      have e0 := (show u 0 = .slice (some ⟨bb, q, none⟩) 32 cap from hG 0 (hdep 0 (by kernel_rfl)))
      go_simp
    · refine step_pureO hs (wants_none rfl) rfl fun L u W hG hdep => ⟨_, ?_, rfl⟩
      have e0 := (show u 1 = .int .i64 32 from hG 1 (hdep 1 (by kernel_rfl)))
      go_simp
      try simp [bne]
  intro L1 u1 W1 hall hJ hG
  have hb := hJ.all rfl
  have hbel := Below.call hbel hb
  have ht2 := there_later ht2 hb
  have HC15 := Lib.hid (show u1 2 = .bool false from hG 2 (by simp))
  have hbel0 := hbel
  clear hJ hG hall hb
  have hx : u1 2 = .bool false := HC15.out
  go_wp2_with fail
  rw [hx]
  clear hx
  have HR0 := h.below hbel
  go_upto_region 4 with (first | (at_builtin; go_must (refine app_bytes _ rfl (.tmp 17) (.tmp 18) rfl W1.heap.size _ 0 [] rfl (own_none W1 5 W1.heap.size (Nat.le_refl _)) _ _ _ l rfl (by exact HR0.below ((Below.refl _ _).alloc (Nat.le_refl _) _)) (by omega) (by simp) W1 (by exact (Below.refl _ _).alloc (Nat.le_refl _) _) ?_; intro v1 W3 hown hb)))
  clear HR0
  rw [Nat.zero_add, List.nil_append] at hown
  obtain ⟨gB, cB, rB, rfl, hgB0, hB, _, hcB, hmB⟩ := own_rdb (n := 32) (l := l) hown (by omega)
  clear hown
  have hgB : w.heap.size ≤ gB := by have := hbel.size; omega
  have HE_q2 := Lib.hid (show q2 ≠ gB by have := there_lt ht2 (by omega); omega)
  have ht2 := there_later ht2 hb
  have hbel := Below.call hbel hb
  have hbel0 := hbel
  have HB := Lib.hid hB
  have HWZ : Hid (W1.heap.size ≤ W3.heap.size) := Lib.hid hb.size
  clear hB hb
  have hcell : W3.cell? ⟨gB, 31, none⟩ = some (.int .u8 (c.toNat : Int)) := by rw [HCC.out]; exact at31 HL.out HB.out
  have HCX := Lib.hid hcell; have HCF : Hid (W3.frozen? ⟨gB, 31, none⟩ = false) := Lib.hid (HB.out.frozen 31)
  clear hcell
  refine wp_region_turn (fun u => (.slice (some ⟨bb, q, none⟩) 32 cap :: undef :: u0 0 :: u0 1 :: .slice (some ⟨gB, 0, none⟩) 32 cB :: undef :: undef :: undef :: undef :: undef :: undef :: undef :: undef :: u1 0 :: u1 1 :: .bool false :: undef :: .slice (some ⟨W1.heap.size, 0, none⟩) 0 0 :: .slice (some ⟨bb, q, none⟩) 32 cap :: .slice (some ⟨gB, 0, none⟩) 32 cB :: u 0 :: u 1 :: u 2 :: u 3 :: u 4 :: u 5 :: undef :: undef :: undef :: undef :: undef :: undef :: undef :: undef :: undef :: undef :: undef :: undef :: undef :: undef :: undef :: undef :: undef :: undef :: undef :: undef :: undef :: undef :: undef :: undef :: undef :: undef :: undef :: undef :: undef :: undef :: undef :: undef :: undef :: undef :: undef :: undef :: undef :: undef :: undef :: undef :: undef :: undef :: undef :: undef :: undef :: undef :: undef :: undef :: undef :: undef :: []).toArray) (Holds [.oth (fun v => v = .slice (some ⟨gB, 0, none⟩) 32 cB), .oth (fun v => v = .slice (some ⟨gB, 0, none⟩) 32 cB), .oth (fun v => v = .pointer (some ⟨gB, 31, none⟩)), .oth (fun v => v = .int .u8 (c.toNat : Int)), .oth (fun v => v = .int .u8 (d.toNat : Int)), .oth (fun v => v = .pointer (some ⟨gB, 31, none⟩)), .cst gB 31 (.int .u8 (d.toNat : Int))] W3) (Keep [.oth (fun v => v = .slice (some ⟨gB, 0, none⟩) 32 cB), .oth (fun v => v = .slice (some ⟨gB, 0, none⟩) 32 cB), .oth (fun v => v = .pointer (some ⟨gB, 31, none⟩)), .oth (fun v => v = .int .u8 (c.toNat : Int)), .oth (fun v => v = .int .u8 (d.toNat : Int)), .oth (fun v => v = .pointer (some ⟨gB, 31, none⟩)), .cst gB 31 (.int .u8 (d.toNat : Int))] W3) (fun _ => undef) ?_ (by rfl) Keep.start (holds_soft (by kernel_rfl)) ?_ ?_
  · intro u i v h
    rcases i with _ | _ | _ | _ | _ | _ | _ | i
    all_goals first | (simp [Act.put, putV]; done) | (exfalso; simp at h; omega)
  · intro hs
    refine ⟨?_, ?_, ?_, ?_, ?_, ?_, ?_, trivial⟩
    · exact step_pureO hs (wants_none rfl) rfl fun L u W hG hdep => ⟨_, run_move rfl, rfl⟩
    · exact step_pureO hs (wants_none rfl) rfl fun L u W hG hdep => ⟨_, run_move rfl, rfl⟩
    · refine step_pureO hs (wants_none rfl) rfl fun L u W hG hdep => ⟨_, ?_, rfl⟩
      have e0 := (show u 1 = .slice (some ⟨gB, 0, none⟩) 32 cB from hG 1 (hdep 1 (by kernel_rfl)))
      go_simp
    · exact step_cell gB 31 hs (wants_none rfl) rfl rfl (fun _ h => load_u8 h) (fun L u W hG hdep => (show u 2 = .pointer (some ⟨gB, 31, none⟩) from hG 2 (hdep 2 (by kernel_rfl)))) HCX.out (fun k g hk => by rcases k with _ | _ | _ | _ | _ | _ | _ | k <;> first | (cases hk; done) | (cases hk; exact .inl (by kernel_rfl)))
    · refine step_pureO hs (wants_none rfl) rfl fun L u W hG hdep => ⟨_, ?_, rfl⟩
      have e0 := (show u 3 = .int .u8 (c.toNat : Int) from hG 3 (hdep 3 (by kernel_rfl)))
      have e9 := HDB.out
      go_simp
    · refine step_pureO hs (wants_none rfl) rfl fun L u W hG hdep => ⟨_, ?_, rfl⟩
      have e0 := (show u 0 = .slice (some ⟨gB, 0, none⟩) 32 cB from hG 0 (hdep 0 (by kernel_rfl)))
      go_simp
    · refine step_cst (old := .int .u8 (c.toNat : Int)) gB 31 hs (wants_none rfl) rfl rfl (by kernel_rfl) (fun k hk => ?_) (fun _ h1 h2 => store_u8 h1 h2) (fun L u W hG hdep => (show u 5 = .pointer (some ⟨gB, 31, none⟩) from hG 5 (hdep 5 (by kernel_rfl)))) (fun L u W hG hdep => (show u 4 = .int .u8 (d.toNat : Int) from hG 4 (hdep 4 (by kernel_rfl)))) HCX.out HCF.out
      rcases k with _ | _ | _ | _ | _ | _ | _ | k
      all_goals first | (exact absurd rfl hk) | (intro e; cases e; done)
  intro L4 u4 W4 hall hJ hG
  have hb : Below w.heap.size W3 W4 := hJ.below (by have := hbel.size; omega) (fun k b hf => by rcases k with _ | _ | _ | _ | _ | _ | _ | k <;> first | (cases hf; done) | (cases hf; omega))
  have hbel := hbel.trans hb
  have ht2 := there_blk ht2 (hJ.block _ (there_lt ht2 (by omega)) (fun k hk => by rcases k with _ | _ | _ | _ | _ | _ | _ | k <;> first | (cases hk; done) | (cases hk; exact absurd rfl (Ne.symm HE_q2.out))))
  have HB := Lib.hid (blk_keep (HB.out.set 31 (.int .u8 (d.toNat : Int))) (show _ ∧ W4.heap[gB]? = (W3.setCell ⟨gB, 31, none⟩ (.int .u8 (d.toNat : Int))).heap[gB]? from hG 6 (by simp)).2)
  have hbel0 := hbel
  clear hJ hG hall hb
  have HKB : Hid (Blk W4 gB ((clr l).map bV ++ rB) 5) := Lib.hid (by rw [← HK0.out, ← set31 HL.out]; exact HB.out)
  clear HB HCX HCF HK0 HDB HCC
  have HKL : Hid ((clr l).length = 32) := Lib.hid (by rw [clr_len]; exact HL.out)
  by_cases hlow : lowN l < Pq
  rotate_left
  · have HLW := Lib.hid hlow; clear hlow
    have HC2 := Lib.hid (stC_no HL.out HLW.out)
    generalize clr l = K at *
    go_upto_region 5 with fail
    refine wp_region_turn (fun u => (.slice (some ⟨bb, q, none⟩) 32 cap :: undef :: u0 0 :: u0 1 :: .slice (some ⟨gB, 0, none⟩) 32 cB :: u 5 :: u 7 :: undef :: undef :: undef :: undef :: undef :: undef :: u1 0 :: u1 1 :: .bool false :: undef :: .slice (some ⟨W1.heap.size, 0, none⟩) 0 0 :: .slice (some ⟨bb, q, none⟩) 32 cap :: .slice (some ⟨gB, 0, none⟩) 32 cB :: u4 0 :: u4 1 :: u4 2 :: u4 3 :: u4 4 :: u4 5 :: u 2 :: u 0 :: u 1 :: u 3 :: u 4 :: undef :: undef :: undef :: undef :: undef :: undef :: undef :: undef :: undef :: undef :: undef :: undef :: undef :: undef :: undef :: undef :: undef :: undef :: undef :: undef :: undef :: undef :: undef :: undef :: undef :: undef :: undef :: undef :: undef :: undef :: undef :: undef :: undef :: undef :: undef :: undef :: undef :: undef :: undef :: undef :: undef :: undef :: undef :: undef :: undef :: []).toArray) (Holds [.oth (fun v => v = .slice (some ⟨gB, 0, none⟩) 32 cB), .oth (fun v => IsTV rR v [stV K] (.int .i64 2)), .oth (fun v => IsTV rR v [stV K] (.int .i64 2)), .val rR [stV K], .oth (fun v => v = .int .i64 2), .new 16, .st 5 rR [stV K], .oth (fun v => v = .int .i64 2)] W4) (Keep [.oth (fun v => v = .slice (some ⟨gB, 0, none⟩) 32 cB), .oth (fun v => IsTV rR v [stV K] (.int .i64 2)), .oth (fun v => IsTV rR v [stV K] (.int .i64 2)), .val rR [stV K], .oth (fun v => v = .int .i64 2), .new 16, .st 5 rR [stV K], .oth (fun v => v = .int .i64 2)] W4) (fun _ => undef) ?_ (by rfl) Keep.start (holds_soft (by kernel_rfl)) ?_ ?_
    · intro u i v h
      rcases i with _ | _ | _ | _ | _ | _ | _ | _ | i
      all_goals first | (simp [Act.put, putV]; done) | (exfalso; simp at h; omega)
    · intro hs
      refine ⟨?_, ?_, ?_, ?_, ?_, ?_, ?_, ?_, trivial⟩
      · exact step_pureO hs (wants_none rfl) rfl fun L u W hG hdep => ⟨_, run_move rfl, rfl⟩
      · refine step_callO hs (wants_none rfl) rfl fun L u W hJ hG hL hdep K hK => ?_
        have x0 := (show u 0 = .slice (some ⟨gB, 0, none⟩) 32 cB from hG 0 (hdep 0 (by kernel_rfl)))
        have hRB0 := (RdB.blk rB HKB.out HKL.out hcB hmB).below (hJ.all rfl)
        go_simp
        go_at_call 49
        (with_reducible refine (kStrict' rfl HC2.out hRB0).mono ?_); rintro e w1 ⟨r, rfl, hr, hb⟩
        have hk := hK.out _ _ ⟨r, rfl, hr⟩ hb
        simp only [x0] at hk
        exact hk
      · exact step_pureO hs (wants_none rfl) rfl fun L u W hG hdep => ⟨_, run_move rfl, (show IsTV rR (u 1) [stV K] (.int .i64 2) from hG 1 (hdep 1 (by kernel_rfl)))⟩
      · exact step_pure hs (wants_none rfl) rfl fun L u W hG hdep => run_extractV0 rfl (show IsTV rR (u 2) [stV K] (.int .i64 2) from hG 2 (hdep 2 (by kernel_rfl)))
      · exact step_pureO hs (wants_none rfl) rfl fun L u W hG hdep => run_extractV1 rfl (show IsTV rR (u 2) [stV K] (.int .i64 2) from hG 2 (hdep 2 (by kernel_rfl)))
      · exact step_alloc hs (wants_none rfl) rfl rfl (by omega) rfl allocFe
      · exact step_store 5 hs (by kernel_rfl) (wants_none rfl) rfl rfl rfl (by kernel_rfl) (by kernel_rfl) (by kernel_rfl) (by kernel_rfl) (fun _ => rfl) (gives_op 3 rfl (by kernel_rfl) (fun _ => rfl)) tyFe rfl
      · exact step_pureO hs (wants_none rfl) rfl fun L u W hG hdep => ⟨_, run_assign rfl, (show u 4 = .int .i64 2 from hG 4 (hdep 4 (by kernel_rfl)))⟩
    intro L5 u5a W5a hall hJ hG
    obtain ⟨q5, e5, hq5, _, ht5⟩ := (show ∃ g, u5a 5 = .pointer (some ⟨g, 0, none⟩) ∧ W4.heap.size ≤ g ∧ 0 < 16 ∧ W5a.there g 0 16 from hG 5 (by simp))
    have hm5 : HasFs rR W5a q5 0 [stV K] := by
      obtain ⟨g, e, _, h⟩ := (show ∃ g, u5a 5 = .pointer (some ⟨g, 0, none⟩) ∧ W4.heap.size ≤ g ∧ HasFs rR W5a g 0 [stV K] from hG 6 (by simp))
      rw [e5] at e; cases e; exact h
    have HD5_q2 := Lib.hid (show q2 ≠ q5 by have := there_lt ht2 (by omega); omega)
    have hq5 : w.heap.size ≤ q5 := by have := hbel0.size; omega
    have E5 := Lib.hid e5; clear e5
    have hb := hJ.all rfl
    have hbel := Below.call hbel hb
    have ht2 := there_later ht2 hb
    have HKB := Lib.hid (HKB.out.below' hb)
    have HC6 := Lib.hid (show u5a 7 = .int .i64 2 from hG 7 (by simp))
    have hbel0 := hbel
    clear hJ hG hall hb
    go_upto_region 6 with fail
    refine wp_region_turn (fun u => (.slice (some ⟨bb, q, none⟩) 32 cap :: undef :: u0 0 :: u0 1 :: .slice (some ⟨gB, 0, none⟩) 32 cB :: u5a 5 :: u5a 7 :: undef :: undef :: undef :: undef :: undef :: undef :: u1 0 :: u1 1 :: .bool false :: undef :: .slice (some ⟨W1.heap.size, 0, none⟩) 0 0 :: .slice (some ⟨bb, q, none⟩) 32 cap :: .slice (some ⟨gB, 0, none⟩) 32 cB :: u4 0 :: u4 1 :: u4 2 :: u4 3 :: u4 4 :: u4 5 :: u5a 2 :: u5a 0 :: u5a 1 :: u5a 3 :: u5a 4 :: u 0 :: u 1 :: undef :: undef :: undef :: undef :: undef :: undef :: undef :: undef :: undef :: undef :: undef :: undef :: undef :: undef :: undef :: undef :: undef :: undef :: undef :: undef :: undef :: undef :: undef :: undef :: undef :: undef :: undef :: undef :: undef :: undef :: undef :: undef :: undef :: undef :: undef :: undef :: undef :: undef :: undef :: undef :: undef :: undef :: undef :: []).toArray) (Holds [.oth (fun v => v = .int .i64 2), .oth (fun v => v = .bool true)] W5a) (Keep [.oth (fun v => v = .int .i64 2), .oth (fun v => v = .bool true)] W5a) (fun _ => undef) ?_ (by rfl) Keep.start (holds_soft (by kernel_rfl)) ?_ ?_
    · intro u i v h
      rcases i with _ | _ | i
      all_goals first | (simp [Act.put, putV]; done) | (exfalso; simp at h; omega)
    · intro hs
      refine ⟨?_, ?_, trivial⟩
      · exact step_pureO hs (wants_none rfl) rfl fun L u W hG hdep => ⟨_, run_move rfl, HC6.out⟩
      · refine step_pureO hs (wants_none rfl) rfl fun L u W hG hdep => ⟨_, ?_, rfl⟩
        have e0 := (show u 0 = .int .i64 2 from hG 0 (hdep 0 (by kernel_rfl)))
        go_simp
        try simp [bne]
    intro L6 u6a W6a hall hJ hG
    have hb := hJ.all rfl
    have hbel := Below.call hbel hb
    have hm5 := hm5.later hb
    have ht2 := there_later ht2 hb
    have ht5 := there_later ht5 hb
    have HKB := Lib.hid (HKB.out.below' hb)
    have HC32 := Lib.hid (show u6a 1 = .bool true from hG 1 (by simp))
    have hbel0 := hbel
    clear hJ hG hall hb
    have hx : u6a 1 = .bool true := HC32.out
    go_wp2_with fail
    rw [hx]
    clear hx
    go_upto_region 7 with fail
    refine wp_region_turn (fun u => (.slice (some ⟨bb, q, none⟩) 32 cap :: undef :: u0 0 :: u 2 :: .slice (some ⟨gB, 0, none⟩) 32 cB :: u5a 5 :: u5a 7 :: undef :: undef :: undef :: undef :: undef :: undef :: u1 0 :: u1 1 :: .bool false :: undef :: .slice (some ⟨W1.heap.size, 0, none⟩) 0 0 :: .slice (some ⟨bb, q, none⟩) 32 cap :: .slice (some ⟨gB, 0, none⟩) 32 cB :: u4 0 :: u4 1 :: u4 2 :: u4 3 :: u4 4 :: u4 5 :: u5a 2 :: u5a 0 :: u5a 1 :: u5a 3 :: u5a 4 :: u6a 0 :: .bool true :: u 0 :: undef :: undef :: undef :: undef :: undef :: undef :: undef :: undef :: undef :: undef :: undef :: undef :: undef :: undef :: undef :: undef :: undef :: undef :: undef :: undef :: undef :: undef :: undef :: undef :: undef :: undef :: undef :: undef :: undef :: undef :: undef :: undef :: undef :: undef :: undef :: undef :: undef :: undef :: undef :: undef :: undef :: undef :: []).toArray) (Holds [.val rQ [Cp.zero], .sto q2 rQ [Cp.zero], .oth (fun v => v = .int .i64 12)] W6a) (Keep [.val rQ [Cp.zero], .sto q2 rQ [Cp.zero], .oth (fun v => v = .int .i64 12)] W6a) (fun k => ((undef :: undef :: u0 1 :: []) : List Value).getD k undef) ?_ (by rfl) Keep.start (holds_soft (by kernel_rfl)) ?_ ?_
    · intro u i v h
      rcases i with _ | _ | _ | i
      all_goals first | (simp [Act.put, putV]; done) | (exfalso; simp at h; omega)
    · intro hs
      refine ⟨?_, ?_, ?_, trivial⟩
      · refine step_call hs (wants_none rfl) rfl fun L u W hJ hG hL hdep K hK => ?_
        go_simp
        go_at_call 48
        (with_reducible refine (kZero _).mono ?_); rintro e w1 ⟨r, rfl, hr, hb⟩
        have hk := hK.out _ _ hr hb
        exact hk
      · refine step_storeO q2 48 hs (wants_none rfl) rfl rfl (by kernel_rfl) (fun k hk => ?_) (fun _ => E2.out) (there_lt ht2 (by omega)) ht2 (gives_op 0 rfl (by kernel_rfl) (fun _ => rfl)) tyPt rfl
        rcases k with _ | _ | _ | k
        all_goals first | (exact absurd rfl hk) | (intro e; cases e; done)
      · exact step_pureO hs (wants_none rfl) rfl fun L u W hG hdep => ⟨_, run_assign rfl, rfl⟩
    intro L7 u7a W7a hall hJ hG
    have hb : Below w.heap.size W6a W7a := hJ.below (by have := hbel.size; omega) (fun k b hf => by rcases k with _ | _ | _ | k <;> first | (cases hf; done) | (cases hf; omega))
    have hbel := hbel.trans hb
    have hm5 := hm5.blk (hJ.block _ (hm5.lt) (fun k hk => by rcases k with _ | _ | _ | k <;> first | (cases hk; done) | (cases hk; exact absurd rfl HD5_q2.out)))
    have ht5 := there_blk ht5 (hJ.block _ (there_lt ht5 (by omega)) (fun k hk => by rcases k with _ | _ | _ | k <;> first | (cases hk; done) | (cases hk; exact absurd rfl HD5_q2.out)))
    have HKB := Lib.hid (blk_keep HKB.out (hJ.block _ (HKB.out.lt) (fun k hk => by rcases k with _ | _ | _ | k <;> first | (cases hk; done) | (cases hk; exact absurd rfl HE_q2.out))))
    obtain ⟨_, hs7_1t, hs7_1⟩ := (show _ ∧ W7a.there q2 0 48 ∧ HasFs rQ W7a q2 0 [Cp.zero] from hG 1 (by simp))
    have HC3 := Lib.hid (show u7a 2 = .int .i64 12 from hG 2 (by simp))
    have hbel0 := hbel
    clear hJ hG hall hb
    go_wp2
    exact ret_cell_slot (R := rQ) Try.results11 (by exact E2.out) (by exact HC3.out) hs7_1 tyPt rfl (fun r hr => ⟨r, by rw [(dec_big HLW.out).2], by rw [(dec_big HLW.out).1]; exact hr, hbel⟩)
  · have HLW := Lib.hid hlow; clear hlow
    have HC2 := Lib.hid (stC_clr HL.out HLW.out)
    have HV0 := Lib.hid (stV_clr HL.out HLW.out)
    generalize clr l = K at *
    generalize hy : fn (lowN l) = y at *
    have HY := Lib.hid hy; clear hy
    go_upto_region 5 with fail
    refine wp_region_turn (fun u => (.slice (some ⟨bb, q, none⟩) 32 cap :: undef :: u0 0 :: u0 1 :: .slice (some ⟨gB, 0, none⟩) 32 cB :: u 5 :: u 7 :: undef :: undef :: undef :: undef :: undef :: undef :: u1 0 :: u1 1 :: .bool false :: undef :: .slice (some ⟨W1.heap.size, 0, none⟩) 0 0 :: .slice (some ⟨bb, q, none⟩) 32 cap :: .slice (some ⟨gB, 0, none⟩) 32 cB :: u4 0 :: u4 1 :: u4 2 :: u4 3 :: u4 4 :: u4 5 :: u 2 :: u 0 :: u 1 :: u 3 :: u 4 :: undef :: undef :: undef :: undef :: undef :: undef :: undef :: undef :: undef :: undef :: undef :: undef :: undef :: undef :: undef :: undef :: undef :: undef :: undef :: undef :: undef :: undef :: undef :: undef :: undef :: undef :: undef :: undef :: undef :: undef :: undef :: undef :: undef :: undef :: undef :: undef :: undef :: undef :: undef :: undef :: undef :: undef :: undef :: undef :: undef :: []).toArray) (Holds [.oth (fun v => v = .slice (some ⟨gB, 0, none⟩) 32 cB), .oth (fun v => IsTV rR v [y] (.int .i64 0)), .oth (fun v => IsTV rR v [y] (.int .i64 0)), .val rR [y], .oth (fun v => v = .int .i64 0), .new 16, .st 5 rR [y], .oth (fun v => v = .int .i64 0)] W4) (Keep [.oth (fun v => v = .slice (some ⟨gB, 0, none⟩) 32 cB), .oth (fun v => IsTV rR v [y] (.int .i64 0)), .oth (fun v => IsTV rR v [y] (.int .i64 0)), .val rR [y], .oth (fun v => v = .int .i64 0), .new 16, .st 5 rR [y], .oth (fun v => v = .int .i64 0)] W4) (fun _ => undef) ?_ (by rfl) Keep.start (holds_soft (by kernel_rfl)) ?_ ?_
    · intro u i v h
      rcases i with _ | _ | _ | _ | _ | _ | _ | _ | i
      all_goals first | (simp [Act.put, putV]; done) | (exfalso; simp at h; omega)
    · intro hs
      refine ⟨?_, ?_, ?_, ?_, ?_, ?_, ?_, ?_, trivial⟩
      · exact step_pureO hs (wants_none rfl) rfl fun L u W hG hdep => ⟨_, run_move rfl, rfl⟩
      · refine step_callO hs (wants_none rfl) rfl fun L u W hJ hG hL hdep K hK => ?_
        have x0 := (show u 0 = .slice (some ⟨gB, 0, none⟩) 32 cB from hG 0 (hdep 0 (by kernel_rfl)))
        have hRB0 := (RdB.blk rB HKB.out HKL.out hcB hmB).below (hJ.all rfl)
        go_simp
        go_at_call 49
        (with_reducible refine (kStrict' HV0.out HC2.out hRB0).mono ?_); rintro e w1 ⟨r, rfl, hr, hb⟩
        have hk := hK.out _ _ ⟨r, rfl, hr⟩ hb
        simp only [x0] at hk
        exact hk
      · exact step_pureO hs (wants_none rfl) rfl fun L u W hG hdep => ⟨_, run_move rfl, (show IsTV rR (u 1) [y] (.int .i64 0) from hG 1 (hdep 1 (by kernel_rfl)))⟩
      · exact step_pure hs (wants_none rfl) rfl fun L u W hG hdep => run_extractV0 rfl (show IsTV rR (u 2) [y] (.int .i64 0) from hG 2 (hdep 2 (by kernel_rfl)))
      · exact step_pureO hs (wants_none rfl) rfl fun L u W hG hdep => run_extractV1 rfl (show IsTV rR (u 2) [y] (.int .i64 0) from hG 2 (hdep 2 (by kernel_rfl)))
      · exact step_alloc hs (wants_none rfl) rfl rfl (by omega) rfl allocFe
      · exact step_store 5 hs (by kernel_rfl) (wants_none rfl) rfl rfl rfl (by kernel_rfl) (by kernel_rfl) (by kernel_rfl) (by kernel_rfl) (fun _ => rfl) (gives_op 3 rfl (by kernel_rfl) (fun _ => rfl)) tyFe rfl
      · exact step_pureO hs (wants_none rfl) rfl fun L u W hG hdep => ⟨_, run_assign rfl, (show u 4 = .int .i64 0 from hG 4 (hdep 4 (by kernel_rfl)))⟩
    intro L5 u5b W5b hall hJ hG
    obtain ⟨q5, e5, hq5, _, ht5⟩ := (show ∃ g, u5b 5 = .pointer (some ⟨g, 0, none⟩) ∧ W4.heap.size ≤ g ∧ 0 < 16 ∧ W5b.there g 0 16 from hG 5 (by simp))
    have hm5 : HasFs rR W5b q5 0 [y] := by
      obtain ⟨g, e, _, h⟩ := (show ∃ g, u5b 5 = .pointer (some ⟨g, 0, none⟩) ∧ W4.heap.size ≤ g ∧ HasFs rR W5b g 0 [y] from hG 6 (by simp))
      rw [e5] at e; cases e; exact h
    have HD5_q2 := Lib.hid (show q2 ≠ q5 by have := there_lt ht2 (by omega); omega)
    have hq5 : w.heap.size ≤ q5 := by have := hbel0.size; omega
    have E5 := Lib.hid e5; clear e5
    have hb := hJ.all rfl
    have hbel := Below.call hbel hb
    have ht2 := there_later ht2 hb
    have HKB := Lib.hid (HKB.out.below' hb)
    have HC6 := Lib.hid (show u5b 7 = .int .i64 0 from hG 7 (by simp))
    have hbel0 := hbel
    clear hJ hG hall hb
    go_upto_region 6 with fail
    refine wp_region_turn (fun u => (.slice (some ⟨bb, q, none⟩) 32 cap :: undef :: u0 0 :: u0 1 :: .slice (some ⟨gB, 0, none⟩) 32 cB :: u5b 5 :: u5b 7 :: undef :: undef :: undef :: undef :: undef :: undef :: u1 0 :: u1 1 :: .bool false :: undef :: .slice (some ⟨W1.heap.size, 0, none⟩) 0 0 :: .slice (some ⟨bb, q, none⟩) 32 cap :: .slice (some ⟨gB, 0, none⟩) 32 cB :: u4 0 :: u4 1 :: u4 2 :: u4 3 :: u4 4 :: u4 5 :: u5b 2 :: u5b 0 :: u5b 1 :: u5b 3 :: u5b 4 :: u 0 :: u 1 :: undef :: undef :: undef :: undef :: undef :: undef :: undef :: undef :: undef :: undef :: undef :: undef :: undef :: undef :: undef :: undef :: undef :: undef :: undef :: undef :: undef :: undef :: undef :: undef :: undef :: undef :: undef :: undef :: undef :: undef :: undef :: undef :: undef :: undef :: undef :: undef :: undef :: undef :: undef :: undef :: undef :: undef :: undef :: []).toArray) (Holds [.oth (fun v => v = .int .i64 0), .oth (fun v => v = .bool false)] W5b) (Keep [.oth (fun v => v = .int .i64 0), .oth (fun v => v = .bool false)] W5b) (fun _ => undef) ?_ (by rfl) Keep.start (holds_soft (by kernel_rfl)) ?_ ?_
    · intro u i v h
      rcases i with _ | _ | i
      all_goals first | (simp [Act.put, putV]; done) | (exfalso; simp at h; omega)
    · intro hs
      refine ⟨?_, ?_, trivial⟩
      · exact step_pureO hs (wants_none rfl) rfl fun L u W hG hdep => ⟨_, run_move rfl, HC6.out⟩
      · refine step_pureO hs (wants_none rfl) rfl fun L u W hG hdep => ⟨_, ?_, rfl⟩
        have e0 := (show u 0 = .int .i64 0 from hG 0 (hdep 0 (by kernel_rfl)))
        go_simp
        try simp [bne]
    intro L6 u6b W6b hall hJ hG
    have hb := hJ.all rfl
    have hbel := Below.call hbel hb
    have hm5 := hm5.later hb
    have ht2 := there_later ht2 hb
    have ht5 := there_later ht5 hb
    have HKB := Lib.hid (HKB.out.below' hb)
    have HC32 := Lib.hid (show u6b 1 = .bool false from hG 1 (by simp))
    have hbel0 := hbel
    clear hJ hG hall hb
    have hx : u6b 1 = .bool false := HC32.out
    go_wp2_with fail
    rw [hx]
    clear hx
    go_upto_region 8 with fail
    refine wp_region_turn (fun u => (.slice (some ⟨bb, q, none⟩) 32 cap :: undef :: u0 0 :: u0 1 :: .slice (some ⟨gB, 0, none⟩) 32 cB :: u5b 5 :: u5b 7 :: u 3 :: undef :: undef :: undef :: undef :: undef :: u1 0 :: u1 1 :: .bool false :: undef :: .slice (some ⟨W1.heap.size, 0, none⟩) 0 0 :: .slice (some ⟨bb, q, none⟩) 32 cap :: .slice (some ⟨gB, 0, none⟩) 32 cB :: u4 0 :: u4 1 :: u4 2 :: u4 3 :: u4 4 :: u4 5 :: u5b 2 :: u5b 0 :: u5b 1 :: u5b 3 :: u5b 4 :: u6b 0 :: .bool false :: undef :: u 0 :: u 1 :: u 2 :: undef :: undef :: undef :: undef :: undef :: undef :: undef :: undef :: undef :: undef :: undef :: undef :: undef :: undef :: undef :: undef :: undef :: undef :: undef :: undef :: undef :: undef :: undef :: undef :: undef :: undef :: undef :: undef :: undef :: undef :: undef :: undef :: undef :: undef :: undef :: undef :: undef :: undef :: undef :: []).toArray) (Holds [.val rR [y], .val rR [y], .val rR [y * y], .new 16, .st 3 rR [y * y]] W6b) (Keep [.val rR [y], .val rR [y], .val rR [y * y], .new 16, .st 3 rR [y * y]] W6b) (fun _ => undef) ?_ (by rfl) Keep.start (holds_soft (by kernel_rfl)) ?_ ?_
    · intro u i v h
      rcases i with _ | _ | _ | _ | _ | i
      all_goals first | (simp [Act.put, putV]; done) | (exfalso; simp at h; omega)
    · intro hs
      refine ⟨?_, ?_, ?_, ?_, ?_, trivial⟩
      · exact step_load q5 0 hs (wants_none rfl) rfl rfl tyFe (fun _ => E5.out) hm5.lt hm5 (noSto_apart (by kernel_rfl))
      · exact step_load q5 0 hs (wants_none rfl) rfl rfl tyFe (fun _ => E5.out) hm5.lt hm5 (noSto_apart (by kernel_rfl))
      · refine step_call hs (wants_none rfl) rfl fun L u W hJ hG hL hdep K hK => ?_
        have a0 := (show IsFs rR (u 0) [y] from hG 0 (hdep 0 (by kernel_rfl)))
        have a1 := (show IsFs rR (u 1) [y] from hG 1 (hdep 1 (by kernel_rfl)))
        go_simp
        go_at_call 50
        (with_reducible refine (kMul a0 a1 _).mono ?_); rintro e w1 ⟨r, rfl, hr, hb⟩
        have hk := hK.out _ _ hr hb
        exact hk
      · exact step_alloc hs (wants_none rfl) rfl rfl (by omega) rfl allocFe
      · exact step_store 3 hs (by kernel_rfl) (wants_none rfl) rfl rfl rfl (by kernel_rfl) (by kernel_rfl) (by kernel_rfl) (by kernel_rfl) (fun _ => rfl) (gives_op 2 rfl (by kernel_rfl) (fun _ => rfl)) tyFe rfl
    intro L8 u8b W8b hall hJ hG
    obtain ⟨q7, e7, hq7, _, ht7⟩ := (show ∃ g, u8b 3 = .pointer (some ⟨g, 0, none⟩) ∧ W6b.heap.size ≤ g ∧ 0 < 16 ∧ W8b.there g 0 16 from hG 3 (by simp))
    have hm7 : HasFs rR W8b q7 0 [y * y] := by
      obtain ⟨g, e, _, h⟩ := (show ∃ g, u8b 3 = .pointer (some ⟨g, 0, none⟩) ∧ W6b.heap.size ≤ g ∧ HasFs rR W8b g 0 [y * y] from hG 4 (by simp))
      rw [e7] at e; cases e; exact h
    have HD7_q2 := Lib.hid (show q2 ≠ q7 by have := there_lt ht2 (by omega); omega)
    have HD7_q5 := Lib.hid (show q5 ≠ q7 by have := there_lt ht5 (by omega); omega)
    have hq7 : w.heap.size ≤ q7 := by have := hbel0.size; omega
    have E7 := Lib.hid e7; clear e7
    have hb := hJ.all rfl
    have hbel := Below.call hbel hb
    have hm5 := hm5.later hb
    have ht2 := there_later ht2 hb
    have ht5 := there_later ht5 hb
    have hbel0 := hbel
    clear hJ hG hall hb
    go_upto_region 9 with fail
    refine wp_region_mid (fun u => (.slice (some ⟨bb, q, none⟩) 32 cap :: undef :: u0 0 :: u0 1 :: .slice (some ⟨gB, 0, none⟩) 32 cB :: u5b 5 :: u5b 7 :: u8b 3 :: u 3 :: undef :: undef :: undef :: undef :: u1 0 :: u1 1 :: .bool false :: undef :: .slice (some ⟨W1.heap.size, 0, none⟩) 0 0 :: .slice (some ⟨bb, q, none⟩) 32 cap :: .slice (some ⟨gB, 0, none⟩) 32 cB :: u4 0 :: u4 1 :: u4 2 :: u4 3 :: u4 4 :: u4 5 :: u5b 2 :: u5b 0 :: u5b 1 :: u5b 3 :: u5b 4 :: u6b 0 :: .bool false :: undef :: u8b 0 :: u8b 1 :: u8b 2 :: u 0 :: u 1 :: u 2 :: undef :: undef :: undef :: undef :: undef :: undef :: undef :: undef :: undef :: undef :: undef :: undef :: undef :: undef :: undef :: undef :: undef :: undef :: undef :: undef :: undef :: undef :: undef :: undef :: undef :: undef :: undef :: undef :: undef :: undef :: undef :: undef :: undef :: undef :: undef :: undef :: []).toArray) (Holds [.val rR [y * y], .val rR [fn 1], .val rR [(y * y) - (fn 1)], .new 16, .st 3 rR [(y * y) - (fn 1)]] W8b) (Keep [.val rR [y * y], .val rR [fn 1], .val rR [(y * y) - (fn 1)], .new 16, .st 3 rR [(y * y) - (fn 1)]] W8b) (fun _ => undef) (by kernel_rfl) (by kernel_rfl) ?_ (by rfl) Keep.drew (holds_soft (by kernel_rfl)) ?_ ?_
    · intro u i v h
      rcases i with _ | _ | _ | _ | _ | i
      all_goals first | (simp [Act.put, putV]; done) | (exfalso; simp at h; omega)
    · intro hs
      refine ⟨?_, ?_, ?_, ?_, ?_, trivial⟩
      · exact step_load q7 0 hs (wants_none rfl) rfl rfl tyFe (fun _ => E7.out) hm7.lt hm7 (noSto_apart (by kernel_rfl))
      · refine step_call hs (wants_none rfl) rfl fun L u W hJ hG hL hdep K hK => ?_
        go_simp
        go_at_call 52
        (with_reducible refine (kSmallI (n := 1) (z := 1) rfl (by omega) _).mono ?_); rintro e w1 ⟨r, rfl, hr, hb⟩
        have hk := hK.out _ _ hr hb
        exact hk
      · refine step_call hs (wants_none rfl) rfl fun L u W hJ hG hL hdep K hK => ?_
        have a0 := (show IsFs rR (u 0) [y * y] from hG 0 (hdep 0 (by kernel_rfl)))
        have a1 := (show IsFs rR (u 1) [fn 1] from hG 1 (hdep 1 (by kernel_rfl)))
        go_simp
        go_at_call 51
        (with_reducible refine (kSub a0 a1 _).mono ?_); rintro e w1 ⟨r, rfl, hr, hb⟩
        have hk := hK.out _ _ hr hb
        exact hk
      · exact step_alloc hs (wants_none rfl) rfl rfl (by omega) rfl allocFe
      · exact step_store 3 hs (by kernel_rfl) (wants_none rfl) rfl rfl rfl (by kernel_rfl) (by kernel_rfl) (by kernel_rfl) (by kernel_rfl) (fun _ => rfl) (gives_op 2 rfl (by kernel_rfl) (fun _ => rfl)) tyFe rfl
    intro L9 u9b W9b hall hJ hG
    obtain ⟨q8, e8, hq8, _, ht8⟩ := (show ∃ g, u9b 3 = .pointer (some ⟨g, 0, none⟩) ∧ W8b.heap.size ≤ g ∧ 0 < 16 ∧ W9b.there g 0 16 from hG 3 (by simp))
    have hm8 : HasFs rR W9b q8 0 [(y * y) - (fn 1)] := by
      obtain ⟨g, e, _, h⟩ := (show ∃ g, u9b 3 = .pointer (some ⟨g, 0, none⟩) ∧ W8b.heap.size ≤ g ∧ HasFs rR W9b g 0 [(y * y) - (fn 1)] from hG 4 (by simp))
      rw [e8] at e; cases e; exact h
    have HD8_q2 := Lib.hid (show q2 ≠ q8 by have := there_lt ht2 (by omega); omega)
    have HD8_q5 := Lib.hid (show q5 ≠ q8 by have := there_lt ht5 (by omega); omega)
    have HD8_q7 := Lib.hid (show q7 ≠ q8 by have := there_lt ht7 (by omega); omega)
    have hq8 : w.heap.size ≤ q8 := by have := hbel0.size; omega
    have E8 := Lib.hid e8; clear e8
    have hb := hJ.all rfl
    have hbel := Below.call hbel hb
    have hm5 := hm5.later hb
    have hm7 := hm7.later hb
    have ht2 := there_later ht2 hb
    have ht5 := there_later ht5 hb
    have ht7 := there_later ht7 hb
    have hbel0 := hbel
    clear hJ hG hall hb
    go_upto_region 10 with fail
    refine wp_region_mid (fun u => (.slice (some ⟨bb, q, none⟩) 32 cap :: undef :: u0 0 :: u0 1 :: .slice (some ⟨gB, 0, none⟩) 32 cB :: u5b 5 :: u5b 7 :: u8b 3 :: u9b 3 :: u 5 :: undef :: undef :: undef :: u1 0 :: u1 1 :: .bool false :: undef :: .slice (some ⟨W1.heap.size, 0, none⟩) 0 0 :: .slice (some ⟨bb, q, none⟩) 32 cap :: .slice (some ⟨gB, 0, none⟩) 32 cB :: u4 0 :: u4 1 :: u4 2 :: u4 3 :: u4 4 :: u4 5 :: u5b 2 :: u5b 0 :: u5b 1 :: u5b 3 :: u5b 4 :: u6b 0 :: .bool false :: undef :: u8b 0 :: u8b 1 :: u8b 2 :: u9b 0 :: u9b 1 :: u9b 2 :: u 0 :: u 1 :: u 2 :: u 3 :: u 4 :: undef :: undef :: undef :: undef :: undef :: undef :: undef :: undef :: undef :: undef :: undef :: undef :: undef :: undef :: undef :: undef :: undef :: undef :: undef :: undef :: undef :: undef :: undef :: undef :: undef :: undef :: undef :: undef :: undef :: undef :: undef :: []).toArray) (Holds [.val rR [dE], .val rR [y * y], .val rR [dE * (y * y)], .val rR [fn 1], .val rR [(dE * (y * y)) + (fn 1)], .new 16, .st 5 rR [(dE * (y * y)) + (fn 1)]] W9b) (Keep [.val rR [dE], .val rR [y * y], .val rR [dE * (y * y)], .val rR [fn 1], .val rR [(dE * (y * y)) + (fn 1)], .new 16, .st 5 rR [(dE * (y * y)) + (fn 1)]] W9b) (fun _ => undef) (by kernel_rfl) (by kernel_rfl) ?_ (by rfl) Keep.drew (holds_soft (by kernel_rfl)) ?_ ?_
    · intro u i v h
      rcases i with _ | _ | _ | _ | _ | _ | _ | i
      all_goals first | (simp [Act.put, putV]; done) | (exfalso; simp at h; omega)
    · intro hs
      refine ⟨?_, ?_, ?_, ?_, ?_, ?_, ?_, trivial⟩
      · refine step_call hs (wants_none rfl) rfl fun L u W hJ hG hL hdep K hK => ?_
        go_simp
        go_at_call 53
        (with_reducible refine (kCurve _).mono ?_); rintro e w1 ⟨r, rfl, hr, hb⟩
        have hk := hK.out _ _ hr hb
        exact hk
      · exact step_load q7 0 hs (wants_none rfl) rfl rfl tyFe (fun _ => E7.out) hm7.lt hm7 (noSto_apart (by kernel_rfl))
      · refine step_call hs (wants_none rfl) rfl fun L u W hJ hG hL hdep K hK => ?_
        have a0 := (show IsFs rR (u 0) [dE] from hG 0 (hdep 0 (by kernel_rfl)))
        have a1 := (show IsFs rR (u 1) [y * y] from hG 1 (hdep 1 (by kernel_rfl)))
        go_simp
        go_at_call 50
        (with_reducible refine (kMul a0 a1 _).mono ?_); rintro e w1 ⟨r, rfl, hr, hb⟩
        have hk := hK.out _ _ hr hb
        exact hk
      · refine step_call hs (wants_none rfl) rfl fun L u W hJ hG hL hdep K hK => ?_
        go_simp
        go_at_call 52
        (with_reducible refine (kSmallI (n := 1) (z := 1) rfl (by omega) _).mono ?_); rintro e w1 ⟨r, rfl, hr, hb⟩
        have hk := hK.out _ _ hr hb
        exact hk
      · refine step_call hs (wants_none rfl) rfl fun L u W hJ hG hL hdep K hK => ?_
        have a0 := (show IsFs rR (u 2) [dE * (y * y)] from hG 2 (hdep 2 (by kernel_rfl)))
        have a1 := (show IsFs rR (u 3) [fn 1] from hG 3 (hdep 3 (by kernel_rfl)))
        go_simp
        go_at_call 54
        (with_reducible refine (kAdd a0 a1 _).mono ?_); rintro e w1 ⟨r, rfl, hr, hb⟩
        have hk := hK.out _ _ hr hb
        exact hk
      · exact step_alloc hs (wants_none rfl) rfl rfl (by omega) rfl allocFe
      · exact step_store 5 hs (by kernel_rfl) (wants_none rfl) rfl rfl rfl (by kernel_rfl) (by kernel_rfl) (by kernel_rfl) (by kernel_rfl) (fun _ => rfl) (gives_op 4 rfl (by kernel_rfl) (fun _ => rfl)) tyFe rfl
    intro L10 u10b W10b hall hJ hG
    obtain ⟨q9, e9, hq9, _, ht9⟩ := (show ∃ g, u10b 5 = .pointer (some ⟨g, 0, none⟩) ∧ W9b.heap.size ≤ g ∧ 0 < 16 ∧ W10b.there g 0 16 from hG 5 (by simp))
    have hm9 : HasFs rR W10b q9 0 [(dE * (y * y)) + (fn 1)] := by
      obtain ⟨g, e, _, h⟩ := (show ∃ g, u10b 5 = .pointer (some ⟨g, 0, none⟩) ∧ W9b.heap.size ≤ g ∧ HasFs rR W10b g 0 [(dE * (y * y)) + (fn 1)] from hG 6 (by simp))
      rw [e9] at e; cases e; exact h
    have HD9_q2 := Lib.hid (show q2 ≠ q9 by have := there_lt ht2 (by omega); omega)
    have HD9_q5 := Lib.hid (show q5 ≠ q9 by have := there_lt ht5 (by omega); omega)
    have HD9_q7 := Lib.hid (show q7 ≠ q9 by have := there_lt ht7 (by omega); omega)
    have HD9_q8 := Lib.hid (show q8 ≠ q9 by have := there_lt ht8 (by omega); omega)
    have hq9 : w.heap.size ≤ q9 := by have := hbel0.size; omega
    have E9 := Lib.hid e9; clear e9
    have hb := hJ.all rfl
    have hbel := Below.call hbel hb
    have hm5 := hm5.later hb
    have hm7 := hm7.later hb
    have hm8 := hm8.later hb
    have ht2 := there_later ht2 hb
    have ht5 := there_later ht5 hb
    have ht7 := there_later ht7 hb
    have ht8 := there_later ht8 hb
    have hbel0 := hbel
    clear hJ hG hall hb
    obtain ⟨X, hX⟩ : ∃ X, rootV (xx y) = X := ⟨_, rfl⟩
    have HX := Lib.hid hX; clear hX
    by_cases hrc : rootC (xx y) = 0
    rotate_left
    · have HR7 := Lib.hid hrc; have HRC := Lib.hid (root_7 hrc); clear hrc
      go_upto_region 11 with fail
      refine wp_region_mid (fun u => (.slice (some ⟨bb, q, none⟩) 32 cap :: undef :: u0 0 :: u0 1 :: .slice (some ⟨gB, 0, none⟩) 32 cB :: u5b 5 :: u5b 7 :: u8b 3 :: u9b 3 :: u10b 5 :: u 8 :: u 10 :: undef :: u1 0 :: u1 1 :: .bool false :: undef :: .slice (some ⟨W1.heap.size, 0, none⟩) 0 0 :: .slice (some ⟨bb, q, none⟩) 32 cap :: .slice (some ⟨gB, 0, none⟩) 32 cB :: u4 0 :: u4 1 :: u4 2 :: u4 3 :: u4 4 :: u4 5 :: u5b 2 :: u5b 0 :: u5b 1 :: u5b 3 :: u5b 4 :: u6b 0 :: .bool false :: undef :: u8b 0 :: u8b 1 :: u8b 2 :: u9b 0 :: u9b 1 :: u9b 2 :: u10b 0 :: u10b 1 :: u10b 2 :: u10b 3 :: u10b 4 :: u 5 :: u 0 :: u 1 :: u 2 :: u 3 :: u 4 :: u 6 :: u 7 :: undef :: undef :: undef :: undef :: undef :: undef :: undef :: undef :: undef :: undef :: undef :: undef :: undef :: undef :: undef :: undef :: undef :: undef :: undef :: undef :: undef :: undef :: undef :: []).toArray) (Holds [.val rR [(y * y) - (fn 1)], .val rR [(dE * (y * y)) + (fn 1)], .val rR [finv ((dE * (y * y)) + (fn 1))], .val rR [((y * y) - (fn 1)) * (finv ((dE * (y * y)) + (fn 1)))], .oth (fun v => IsTV rR v [X] (.int .i64 7)), .oth (fun v => IsTV rR v [X] (.int .i64 7)), .val rR [X], .oth (fun v => v = .int .i64 7), .new 16, .st 8 rR [X], .oth (fun v => v = .int .i64 7)] W10b) (Keep [.val rR [(y * y) - (fn 1)], .val rR [(dE * (y * y)) + (fn 1)], .val rR [finv ((dE * (y * y)) + (fn 1))], .val rR [((y * y) - (fn 1)) * (finv ((dE * (y * y)) + (fn 1)))], .oth (fun v => IsTV rR v [X] (.int .i64 7)), .oth (fun v => IsTV rR v [X] (.int .i64 7)), .val rR [X], .oth (fun v => v = .int .i64 7), .new 16, .st 8 rR [X], .oth (fun v => v = .int .i64 7)] W10b) (fun _ => undef) (by kernel_rfl) (by kernel_rfl) ?_ (by rfl) Keep.drew (holds_soft (by kernel_rfl)) ?_ ?_
      · intro u i v h
        rcases i with _ | _ | _ | _ | _ | _ | _ | _ | _ | _ | _ | i
        all_goals first | (simp [Act.put, putV]; done) | (exfalso; simp at h; omega)
      · intro hs
        refine ⟨?_, ?_, ?_, ?_, ?_, ?_, ?_, ?_, ?_, ?_, ?_, trivial⟩
        · exact step_load q8 0 hs (wants_none rfl) rfl rfl tyFe (fun _ => E8.out) hm8.lt hm8 (noSto_apart (by kernel_rfl))
        · exact step_load q9 0 hs (wants_none rfl) rfl rfl tyFe (fun _ => E9.out) hm9.lt hm9 (noSto_apart (by kernel_rfl))
        · refine step_call hs (wants_none rfl) rfl fun L u W hJ hG hL hdep K hK => ?_
          have a0 := (show IsFs rR (u 1) [(dE * (y * y)) + (fn 1)] from hG 1 (hdep 1 (by kernel_rfl)))
          go_simp
          go_at_call 55
          (with_reducible refine (kInv a0 _).mono ?_); rintro e w1 ⟨r, rfl, hr, hb⟩
          have hk := hK.out _ _ hr hb
          exact hk
        · refine step_call hs (wants_none rfl) rfl fun L u W hJ hG hL hdep K hK => ?_
          have a0 := (show IsFs rR (u 0) [(y * y) - (fn 1)] from hG 0 (hdep 0 (by kernel_rfl)))
          have a1 := (show IsFs rR (u 2) [finv ((dE * (y * y)) + (fn 1))] from hG 2 (hdep 2 (by kernel_rfl)))
          go_simp
          go_at_call 50
          (with_reducible refine (kMul a0 a1 _).mono ?_); rintro e w1 ⟨r, rfl, hr, hb⟩
          have hk := hK.out _ _ hr hb
          exact hk
        · refine step_callO hs (wants_none rfl) rfl fun L u W hJ hG hL hdep K hK => ?_
          have a0 := xx_fsR ((show IsFs rR (u 3) [((y * y) - (fn 1)) * (finv ((dE * (y * y)) + (fn 1)))] from hG 3 (hdep 3 (by kernel_rfl))))
          go_simp
          go_at_call 56
          (with_reducible refine (rrootN HX.out HRC.out a0 _).mono ?_); rintro e w1 ⟨r, rfl, hr, hb⟩
          have hk := hK.out _ _ ⟨r, rfl, hr⟩ hb
          exact hk
        · exact step_pureO hs (wants_none rfl) rfl fun L u W hG hdep => ⟨_, run_move rfl, (show IsTV rR (u 4) [X] (.int .i64 7) from hG 4 (hdep 4 (by kernel_rfl)))⟩
        · exact step_pure hs (wants_none rfl) rfl fun L u W hG hdep => run_extractV0 rfl (show IsTV rR (u 5) [X] (.int .i64 7) from hG 5 (hdep 5 (by kernel_rfl)))
        · exact step_pureO hs (wants_none rfl) rfl fun L u W hG hdep => run_extractV1 rfl (show IsTV rR (u 5) [X] (.int .i64 7) from hG 5 (hdep 5 (by kernel_rfl)))
        · exact step_alloc hs (wants_none rfl) rfl rfl (by omega) rfl allocFe
        · exact step_store 8 hs (by kernel_rfl) (wants_none rfl) rfl rfl rfl (by kernel_rfl) (by kernel_rfl) (by kernel_rfl) (by kernel_rfl) (fun _ => rfl) (gives_op 6 rfl (by kernel_rfl) (fun _ => rfl)) tyFe rfl
        · exact step_pureO hs (wants_none rfl) rfl fun L u W hG hdep => ⟨_, run_assign rfl, (show u 7 = .int .i64 7 from hG 7 (hdep 7 (by kernel_rfl)))⟩
      intro L11 u11c W11c hall hJ hG
      obtain ⟨q10, e10, hq10, _, ht10⟩ := (show ∃ g, u11c 8 = .pointer (some ⟨g, 0, none⟩) ∧ W10b.heap.size ≤ g ∧ 0 < 16 ∧ W11c.there g 0 16 from hG 8 (by simp))
      have hm10 : HasFs rR W11c q10 0 [X] := by
        obtain ⟨g, e, _, h⟩ := (show ∃ g, u11c 8 = .pointer (some ⟨g, 0, none⟩) ∧ W10b.heap.size ≤ g ∧ HasFs rR W11c g 0 [X] from hG 9 (by simp))
        rw [e10] at e; cases e; exact h
      have HD10_q2 := Lib.hid (show q2 ≠ q10 by have := there_lt ht2 (by omega); omega)
      have HD10_q5 := Lib.hid (show q5 ≠ q10 by have := there_lt ht5 (by omega); omega)
      have HD10_q7 := Lib.hid (show q7 ≠ q10 by have := there_lt ht7 (by omega); omega)
      have HD10_q8 := Lib.hid (show q8 ≠ q10 by have := there_lt ht8 (by omega); omega)
      have HD10_q9 := Lib.hid (show q9 ≠ q10 by have := there_lt ht9 (by omega); omega)
      have hq10 : w.heap.size ≤ q10 := by have := hbel0.size; omega
      have E10 := Lib.hid e10; clear e10
      have hb := hJ.all rfl
      have hbel := Below.call hbel hb
      have hm5 := hm5.later hb
      have hm7 := hm7.later hb
      have hm8 := hm8.later hb
      have hm9 := hm9.later hb
      have ht2 := there_later ht2 hb
      have ht5 := there_later ht5 hb
      have ht7 := there_later ht7 hb
      have ht8 := there_later ht8 hb
      have ht9 := there_later ht9 hb
      have HC11 := Lib.hid (show u11c 10 = .int .i64 7 from hG 10 (by simp))
      have hbel0 := hbel
      clear hJ hG hall hb
      go_upto_region 12 with fail
      refine wp_region_turn (fun u => (.slice (some ⟨bb, q, none⟩) 32 cap :: undef :: u0 0 :: u0 1 :: .slice (some ⟨gB, 0, none⟩) 32 cB :: u5b 5 :: u5b 7 :: u8b 3 :: u9b 3 :: u10b 5 :: u11c 8 :: u11c 10 :: u 5 :: u1 0 :: u1 1 :: .bool false :: undef :: .slice (some ⟨W1.heap.size, 0, none⟩) 0 0 :: .slice (some ⟨bb, q, none⟩) 32 cap :: .slice (some ⟨gB, 0, none⟩) 32 cB :: u4 0 :: u4 1 :: u4 2 :: u4 3 :: u4 4 :: u4 5 :: u5b 2 :: u5b 0 :: u5b 1 :: u5b 3 :: u5b 4 :: u6b 0 :: .bool false :: undef :: u8b 0 :: u8b 1 :: u8b 2 :: u9b 0 :: u9b 1 :: u9b 2 :: u10b 0 :: u10b 1 :: u10b 2 :: u10b 3 :: u10b 4 :: u11c 5 :: u11c 0 :: u11c 1 :: u11c 2 :: u11c 3 :: u11c 4 :: u11c 6 :: u11c 7 :: u 0 :: u 1 :: u 2 :: u 3 :: u 4 :: undef :: undef :: undef :: undef :: undef :: undef :: undef :: undef :: undef :: undef :: undef :: undef :: undef :: undef :: undef :: undef :: undef :: undef :: []).toArray) (Holds [.oth (fun v => v = .slice (some ⟨bb, q, none⟩) 32 cap), .oth (fun v => v = .pointer (some ⟨bb, q + 31, none⟩)), .oth (fun v => v = .int .u8 (c.toNat : Int)), .oth (fun v => v = .int .u8 ((c.toNat : Int) / 128)), .oth (fun v => v = .bool o), .oth (fun v => v = .bool o)] W11c) (Keep [.oth (fun v => v = .slice (some ⟨bb, q, none⟩) 32 cap), .oth (fun v => v = .pointer (some ⟨bb, q + 31, none⟩)), .oth (fun v => v = .int .u8 (c.toNat : Int)), .oth (fun v => v = .int .u8 ((c.toNat : Int) / 128)), .oth (fun v => v = .bool o), .oth (fun v => v = .bool o)] W11c) (fun _ => undef) ?_ (by rfl) Keep.start (holds_soft (by kernel_rfl)) ?_ ?_
      · intro u i v h
        rcases i with _ | _ | _ | _ | _ | _ | i
        all_goals first | (simp [Act.put, putV]; done) | (exfalso; simp at h; omega)
      · intro hs
        refine ⟨?_, ?_, ?_, ?_, ?_, ?_, trivial⟩
        · exact step_pureO hs (wants_none rfl) rfl fun L u W hG hdep => ⟨_, run_move rfl, rfl⟩
        · refine step_pureO hs (wants_none rfl) rfl fun L u W hG hdep => ⟨_, ?_, rfl⟩
          have e0 := (show u 0 = .slice (some ⟨bb, q, none⟩) 32 cap from hG 0 (hdep 0 (by kernel_rfl)))
          go_simp
        · exact step_cell bb (q + 31) hs (wants_none rfl) rfl rfl (fun _ h => load_u8 h) (fun L u W hG hdep => (show u 1 = .pointer (some ⟨bb, q + 31, none⟩) from hG 1 (hdep 1 (by kernel_rfl)))) (cell_keep HCL.out hbel) (noSto_apart (by kernel_rfl))
        · refine step_pureO hs (wants_none rfl) rfl fun L u W hG hdep => ⟨_, ?_, rfl⟩
          have e0 := (show u 2 = .int .u8 (c.toNat : Int) from hG 2 (hdep 2 (by kernel_rfl)))
          go_simp
        · refine step_pureO hs (wants_none rfl) rfl fun L u W hG hdep => ⟨_, ?_, rfl⟩
          have e0 := (show u 3 = .int .u8 ((c.toNat : Int) / 128) from hG 3 (hdep 3 (by kernel_rfl)))
          have e9 := HOB.out
          go_simp
          try exact e9
        · exact step_pureO hs (wants_none rfl) rfl fun L u W hG hdep => ⟨_, run_assign rfl, (show u 4 = .bool o from hG 4 (hdep 4 (by kernel_rfl)))⟩
      intro L12 u12c W12c hall hJ hG
      have hb := hJ.all rfl
      have hbel := Below.call hbel hb
      have hm5 := hm5.later hb
      have hm7 := hm7.later hb
      have hm8 := hm8.later hb
      have hm9 := hm9.later hb
      have hm10 := hm10.later hb
      have ht2 := there_later ht2 hb
      have ht5 := there_later ht5 hb
      have ht7 := there_later ht7 hb
      have ht8 := there_later ht8 hb
      have ht9 := there_later ht9 hb
      have ht10 := there_later ht10 hb
      have HC57 := Lib.hid (show u12c 4 = .bool o from hG 4 (by simp))
      have HC12 := Lib.hid (show u12c 5 = .bool o from hG 5 (by simp))
      have hbel0 := hbel
      clear hJ hG hall hb
      go_upto_region 13 with fail
      refine wp_region_turn (fun u => (.slice (some ⟨bb, q, none⟩) 32 cap :: undef :: u0 0 :: u0 1 :: .slice (some ⟨gB, 0, none⟩) 32 cB :: u5b 5 :: u5b 7 :: u8b 3 :: u9b 3 :: u10b 5 :: u11c 8 :: u11c 10 :: u12c 5 :: u1 0 :: u1 1 :: .bool false :: undef :: .slice (some ⟨W1.heap.size, 0, none⟩) 0 0 :: .slice (some ⟨bb, q, none⟩) 32 cap :: .slice (some ⟨gB, 0, none⟩) 32 cB :: u4 0 :: u4 1 :: u4 2 :: u4 3 :: u4 4 :: u4 5 :: u5b 2 :: u5b 0 :: u5b 1 :: u5b 3 :: u5b 4 :: u6b 0 :: .bool false :: undef :: u8b 0 :: u8b 1 :: u8b 2 :: u9b 0 :: u9b 1 :: u9b 2 :: u10b 0 :: u10b 1 :: u10b 2 :: u10b 3 :: u10b 4 :: u11c 5 :: u11c 0 :: u11c 1 :: u11c 2 :: u11c 3 :: u11c 4 :: u11c 6 :: u11c 7 :: u12c 0 :: u12c 1 :: u12c 2 :: u12c 3 :: u12c 4 :: u 0 :: u 1 :: u 2 :: u 3 :: u 4 :: u 5 :: u 6 :: u 7 :: u 8 :: u 9 :: undef :: undef :: undef :: undef :: undef :: undef :: undef :: undef :: []).toArray) (Holds [.oth (fun v => v = .int .i64 7), .oth (fun v => v = .bool true), .oth (fun v => v = .bool true), .oth (fun v => v = undef), .oth (fun v => v = undef), .oth (fun v => v = undef), .oth (fun v => v = undef), .oth (fun v => v = undef), .oth (fun v => v = undef), .oth (fun v => v = .bool true)] W12c) (Keep [.oth (fun v => v = .int .i64 7), .oth (fun v => v = .bool true), .oth (fun v => v = .bool true), .oth (fun v => v = undef), .oth (fun v => v = undef), .oth (fun v => v = undef), .oth (fun v => v = undef), .oth (fun v => v = undef), .oth (fun v => v = undef), .oth (fun v => v = .bool true)] W12c) (fun _ => undef) ?_ (by rfl) Keep.start (holds_soft (by kernel_rfl)) ?_ ?_
      · intro u i v h
        rcases i with _ | _ | _ | _ | _ | _ | _ | _ | _ | _ | i
        all_goals first | (simp [Act.put, putV]; done) | (exfalso; simp at h; omega)
      · intro hs
        refine ⟨?_, ?_, ?_, ?_, ?_, ?_, ?_, ?_, ?_, ?_, trivial⟩
        · exact step_pureO hs (wants_none rfl) rfl fun L u W hG hdep => ⟨_, run_move rfl, HC11.out⟩
        · refine step_pureO hs (wants_none rfl) rfl fun L u W hG hdep => ⟨_, ?_, rfl⟩
          have e0 := (show u 0 = .int .i64 7 from hG 0 (hdep 0 (by kernel_rfl)))
          go_simp
          try simp [bne]
        · exact step_pureO hs (wants_none rfl) rfl fun L u W hG hdep => ⟨_, run_move rfl, (show u 1 = .bool true from hG 1 (hdep 1 (by kernel_rfl)))⟩
        · exact step_outU hs (wants_off 2 rfl rfl rfl (by kernel_rfl) (fun _ => rfl)) rfl
        · exact step_outU hs (wants_off 2 rfl rfl rfl (by kernel_rfl) (fun _ => rfl)) rfl
        · exact step_outU hs (wants_off 2 rfl rfl rfl (by kernel_rfl) (fun _ => rfl)) rfl
        · exact step_outU hs (wants_off 2 rfl rfl rfl (by kernel_rfl) (fun _ => rfl)) rfl
        · exact step_outU hs (wants_offU 6 rfl rfl (by kernel_rfl) (fun _ => rfl)) rfl
        · exact step_outU hs (wants_off 2 rfl rfl rfl (by kernel_rfl) (fun _ => rfl)) rfl
        · exact step_pick true hs (wants_none rfl) rfl rfl (fun L u W hG hdep => (show u 2 = .bool true from hG 2 (hdep 2 (by kernel_rfl)))) (fun L u W hG hdep => rfl)
      intro L13 u13c W13c hall hJ hG
      have hb := hJ.all rfl
      have hbel := Below.call hbel hb
      have hm5 := hm5.later hb
      have hm7 := hm7.later hb
      have hm8 := hm8.later hb
      have hm9 := hm9.later hb
      have hm10 := hm10.later hb
      have ht2 := there_later ht2 hb
      have ht5 := there_later ht5 hb
      have ht7 := there_later ht7 hb
      have ht8 := there_later ht8 hb
      have ht9 := there_later ht9 hb
      have ht10 := there_later ht10 hb
      have HC59 := Lib.hid (show u13c 1 = .bool true from hG 1 (by simp))
      have HC60 := Lib.hid (show u13c 2 = .bool true from hG 2 (by simp))
      have HC67 := Lib.hid (show u13c 9 = .bool true from hG 9 (by simp))
      have hbel0 := hbel
      clear hJ hG hall hb
      have hx : u13c 9 = .bool true := HC67.out
      go_wp2_with fail
      rw [hx]
      clear hx
      go_upto_region 14 with fail
      refine wp_region_turn (fun u => (.slice (some ⟨bb, q, none⟩) 32 cap :: undef :: u0 0 :: u 2 :: .slice (some ⟨gB, 0, none⟩) 32 cB :: u5b 5 :: u5b 7 :: u8b 3 :: u9b 3 :: u10b 5 :: u11c 8 :: u11c 10 :: u12c 5 :: u1 0 :: u1 1 :: .bool false :: undef :: .slice (some ⟨W1.heap.size, 0, none⟩) 0 0 :: .slice (some ⟨bb, q, none⟩) 32 cap :: .slice (some ⟨gB, 0, none⟩) 32 cB :: u4 0 :: u4 1 :: u4 2 :: u4 3 :: u4 4 :: u4 5 :: u5b 2 :: u5b 0 :: u5b 1 :: u5b 3 :: u5b 4 :: u6b 0 :: .bool false :: undef :: u8b 0 :: u8b 1 :: u8b 2 :: u9b 0 :: u9b 1 :: u9b 2 :: u10b 0 :: u10b 1 :: u10b 2 :: u10b 3 :: u10b 4 :: u11c 5 :: u11c 0 :: u11c 1 :: u11c 2 :: u11c 3 :: u11c 4 :: u11c 6 :: u11c 7 :: u12c 0 :: u12c 1 :: u12c 2 :: u12c 3 :: u12c 4 :: u13c 0 :: u13c 1 :: u13c 2 :: u13c 3 :: u13c 4 :: u13c 5 :: u13c 6 :: u13c 7 :: u13c 8 :: .bool true :: u 0 :: undef :: undef :: undef :: undef :: undef :: undef :: undef :: []).toArray) (Holds [.val rQ [Cp.zero], .sto q2 rQ [Cp.zero], .oth (fun v => v = .int .i64 12)] W13c) (Keep [.val rQ [Cp.zero], .sto q2 rQ [Cp.zero], .oth (fun v => v = .int .i64 12)] W13c) (fun k => ((undef :: undef :: u0 1 :: []) : List Value).getD k undef) ?_ (by rfl) Keep.start (holds_soft (by kernel_rfl)) ?_ ?_
      · intro u i v h
        rcases i with _ | _ | _ | i
        all_goals first | (simp [Act.put, putV]; done) | (exfalso; simp at h; omega)
      · intro hs
        refine ⟨?_, ?_, ?_, trivial⟩
        · refine step_call hs (wants_none rfl) rfl fun L u W hJ hG hL hdep K hK => ?_
          go_simp
          go_at_call 48
          (with_reducible refine (kZero _).mono ?_); rintro e w1 ⟨r, rfl, hr, hb⟩
          have hk := hK.out _ _ hr hb
          exact hk
        · refine step_storeO q2 48 hs (wants_none rfl) rfl rfl (by kernel_rfl) (fun k hk => ?_) (fun _ => E2.out) (there_lt ht2 (by omega)) ht2 (gives_op 0 rfl (by kernel_rfl) (fun _ => rfl)) tyPt rfl
          rcases k with _ | _ | _ | k
          all_goals first | (exact absurd rfl hk) | (intro e; cases e; done)
        · exact step_pureO hs (wants_none rfl) rfl fun L u W hG hdep => ⟨_, run_assign rfl, rfl⟩
      intro L14 u14c W14c hall hJ hG
      have hb : Below w.heap.size W13c W14c := hJ.below (by have := hbel.size; omega) (fun k b hf => by rcases k with _ | _ | _ | k <;> first | (cases hf; done) | (cases hf; omega))
      have hbel := hbel.trans hb
      have hm5 := hm5.blk (hJ.block _ (hm5.lt) (fun k hk => by rcases k with _ | _ | _ | k <;> first | (cases hk; done) | (cases hk; exact absurd rfl HD5_q2.out)))
      have hm7 := hm7.blk (hJ.block _ (hm7.lt) (fun k hk => by rcases k with _ | _ | _ | k <;> first | (cases hk; done) | (cases hk; exact absurd rfl HD7_q2.out)))
      have hm8 := hm8.blk (hJ.block _ (hm8.lt) (fun k hk => by rcases k with _ | _ | _ | k <;> first | (cases hk; done) | (cases hk; exact absurd rfl HD8_q2.out)))
      have hm9 := hm9.blk (hJ.block _ (hm9.lt) (fun k hk => by rcases k with _ | _ | _ | k <;> first | (cases hk; done) | (cases hk; exact absurd rfl HD9_q2.out)))
      have hm10 := hm10.blk (hJ.block _ (hm10.lt) (fun k hk => by rcases k with _ | _ | _ | k <;> first | (cases hk; done) | (cases hk; exact absurd rfl HD10_q2.out)))
      have ht5 := there_blk ht5 (hJ.block _ (there_lt ht5 (by omega)) (fun k hk => by rcases k with _ | _ | _ | k <;> first | (cases hk; done) | (cases hk; exact absurd rfl HD5_q2.out)))
      have ht7 := there_blk ht7 (hJ.block _ (there_lt ht7 (by omega)) (fun k hk => by rcases k with _ | _ | _ | k <;> first | (cases hk; done) | (cases hk; exact absurd rfl HD7_q2.out)))
      have ht8 := there_blk ht8 (hJ.block _ (there_lt ht8 (by omega)) (fun k hk => by rcases k with _ | _ | _ | k <;> first | (cases hk; done) | (cases hk; exact absurd rfl HD8_q2.out)))
      have ht9 := there_blk ht9 (hJ.block _ (there_lt ht9 (by omega)) (fun k hk => by rcases k with _ | _ | _ | k <;> first | (cases hk; done) | (cases hk; exact absurd rfl HD9_q2.out)))
      have ht10 := there_blk ht10 (hJ.block _ (there_lt ht10 (by omega)) (fun k hk => by rcases k with _ | _ | _ | k <;> first | (cases hk; done) | (cases hk; exact absurd rfl HD10_q2.out)))
      obtain ⟨_, hs14_1t, hs14_1⟩ := (show _ ∧ W14c.there q2 0 48 ∧ HasFs rQ W14c q2 0 [Cp.zero] from hG 1 (by simp))
      have HC3 := Lib.hid (show u14c 2 = .int .i64 12 from hG 2 (by simp))
      have hbel0 := hbel
      clear hJ hG hall hb
      go_wp2
      exact ret_cell_slot (R := rQ) Try.results11 (by exact E2.out) (by exact HC3.out) hs14_1 tyPt rfl (fun r hr => ⟨r, by rw [(dec_root HL.out HLW.out HY.out HR7.out).2], by rw [(dec_root HL.out HLW.out HY.out HR7.out).1]; exact hr, hbel⟩)
    · have HRC := Lib.hid hrc; clear hrc
      go_upto_region 11 with fail
      refine wp_region_mid (fun u => (.slice (some ⟨bb, q, none⟩) 32 cap :: undef :: u0 0 :: u0 1 :: .slice (some ⟨gB, 0, none⟩) 32 cB :: u5b 5 :: u5b 7 :: u8b 3 :: u9b 3 :: u10b 5 :: u 8 :: u 10 :: undef :: u1 0 :: u1 1 :: .bool false :: undef :: .slice (some ⟨W1.heap.size, 0, none⟩) 0 0 :: .slice (some ⟨bb, q, none⟩) 32 cap :: .slice (some ⟨gB, 0, none⟩) 32 cB :: u4 0 :: u4 1 :: u4 2 :: u4 3 :: u4 4 :: u4 5 :: u5b 2 :: u5b 0 :: u5b 1 :: u5b 3 :: u5b 4 :: u6b 0 :: .bool false :: undef :: u8b 0 :: u8b 1 :: u8b 2 :: u9b 0 :: u9b 1 :: u9b 2 :: u10b 0 :: u10b 1 :: u10b 2 :: u10b 3 :: u10b 4 :: u 5 :: u 0 :: u 1 :: u 2 :: u 3 :: u 4 :: u 6 :: u 7 :: undef :: undef :: undef :: undef :: undef :: undef :: undef :: undef :: undef :: undef :: undef :: undef :: undef :: undef :: undef :: undef :: undef :: undef :: undef :: undef :: undef :: undef :: undef :: []).toArray) (Holds [.val rR [(y * y) - (fn 1)], .val rR [(dE * (y * y)) + (fn 1)], .val rR [finv ((dE * (y * y)) + (fn 1))], .val rR [((y * y) - (fn 1)) * (finv ((dE * (y * y)) + (fn 1)))], .oth (fun v => IsTV rR v [X] (.int .i64 0)), .oth (fun v => IsTV rR v [X] (.int .i64 0)), .val rR [X], .oth (fun v => v = .int .i64 0), .new 16, .st 8 rR [X], .oth (fun v => v = .int .i64 0)] W10b) (Keep [.val rR [(y * y) - (fn 1)], .val rR [(dE * (y * y)) + (fn 1)], .val rR [finv ((dE * (y * y)) + (fn 1))], .val rR [((y * y) - (fn 1)) * (finv ((dE * (y * y)) + (fn 1)))], .oth (fun v => IsTV rR v [X] (.int .i64 0)), .oth (fun v => IsTV rR v [X] (.int .i64 0)), .val rR [X], .oth (fun v => v = .int .i64 0), .new 16, .st 8 rR [X], .oth (fun v => v = .int .i64 0)] W10b) (fun _ => undef) (by kernel_rfl) (by kernel_rfl) ?_ (by rfl) Keep.drew (holds_soft (by kernel_rfl)) ?_ ?_
      · intro u i v h
        rcases i with _ | _ | _ | _ | _ | _ | _ | _ | _ | _ | _ | i
        all_goals first | (simp [Act.put, putV]; done) | (exfalso; simp at h; omega)
      · intro hs
        refine ⟨?_, ?_, ?_, ?_, ?_, ?_, ?_, ?_, ?_, ?_, ?_, trivial⟩
        · exact step_load q8 0 hs (wants_none rfl) rfl rfl tyFe (fun _ => E8.out) hm8.lt hm8 (noSto_apart (by kernel_rfl))
        · exact step_load q9 0 hs (wants_none rfl) rfl rfl tyFe (fun _ => E9.out) hm9.lt hm9 (noSto_apart (by kernel_rfl))
        · refine step_call hs (wants_none rfl) rfl fun L u W hJ hG hL hdep K hK => ?_
          have a0 := (show IsFs rR (u 1) [(dE * (y * y)) + (fn 1)] from hG 1 (hdep 1 (by kernel_rfl)))
          go_simp
          go_at_call 55
          (with_reducible refine (kInv a0 _).mono ?_); rintro e w1 ⟨r, rfl, hr, hb⟩
          have hk := hK.out _ _ hr hb
          exact hk
        · refine step_call hs (wants_none rfl) rfl fun L u W hJ hG hL hdep K hK => ?_
          have a0 := (show IsFs rR (u 0) [(y * y) - (fn 1)] from hG 0 (hdep 0 (by kernel_rfl)))
          have a1 := (show IsFs rR (u 2) [finv ((dE * (y * y)) + (fn 1))] from hG 2 (hdep 2 (by kernel_rfl)))
          go_simp
          go_at_call 50
          (with_reducible refine (kMul a0 a1 _).mono ?_); rintro e w1 ⟨r, rfl, hr, hb⟩
          have hk := hK.out _ _ hr hb
          exact hk
        · refine step_callO hs (wants_none rfl) rfl fun L u W hJ hG hL hdep K hK => ?_
          have a0 := xx_fsR ((show IsFs rR (u 3) [((y * y) - (fn 1)) * (finv ((dE * (y * y)) + (fn 1)))] from hG 3 (hdep 3 (by kernel_rfl))))
          go_simp
          go_at_call 56
          (with_reducible refine (rrootN HX.out HRC.out a0 _).mono ?_); rintro e w1 ⟨r, rfl, hr, hb⟩
          have hk := hK.out _ _ ⟨r, rfl, hr⟩ hb
          exact hk
        · exact step_pureO hs (wants_none rfl) rfl fun L u W hG hdep => ⟨_, run_move rfl, (show IsTV rR (u 4) [X] (.int .i64 0) from hG 4 (hdep 4 (by kernel_rfl)))⟩
        · exact step_pure hs (wants_none rfl) rfl fun L u W hG hdep => run_extractV0 rfl (show IsTV rR (u 5) [X] (.int .i64 0) from hG 5 (hdep 5 (by kernel_rfl)))
        · exact step_pureO hs (wants_none rfl) rfl fun L u W hG hdep => run_extractV1 rfl (show IsTV rR (u 5) [X] (.int .i64 0) from hG 5 (hdep 5 (by kernel_rfl)))
        · exact step_alloc hs (wants_none rfl) rfl rfl (by omega) rfl allocFe
        · exact step_store 8 hs (by kernel_rfl) (wants_none rfl) rfl rfl rfl (by kernel_rfl) (by kernel_rfl) (by kernel_rfl) (by kernel_rfl) (fun _ => rfl) (gives_op 6 rfl (by kernel_rfl) (fun _ => rfl)) tyFe rfl
        · exact step_pureO hs (wants_none rfl) rfl fun L u W hG hdep => ⟨_, run_assign rfl, (show u 7 = .int .i64 0 from hG 7 (hdep 7 (by kernel_rfl)))⟩
      intro L11 u11d W11d hall hJ hG
      obtain ⟨q10, e10, hq10, _, ht10⟩ := (show ∃ g, u11d 8 = .pointer (some ⟨g, 0, none⟩) ∧ W10b.heap.size ≤ g ∧ 0 < 16 ∧ W11d.there g 0 16 from hG 8 (by simp))
      have hm10 : HasFs rR W11d q10 0 [X] := by
        obtain ⟨g, e, _, h⟩ := (show ∃ g, u11d 8 = .pointer (some ⟨g, 0, none⟩) ∧ W10b.heap.size ≤ g ∧ HasFs rR W11d g 0 [X] from hG 9 (by simp))
        rw [e10] at e; cases e; exact h
      have HD10_q2 := Lib.hid (show q2 ≠ q10 by have := there_lt ht2 (by omega); omega)
      have HD10_q5 := Lib.hid (show q5 ≠ q10 by have := there_lt ht5 (by omega); omega)
      have HD10_q7 := Lib.hid (show q7 ≠ q10 by have := there_lt ht7 (by omega); omega)
      have HD10_q8 := Lib.hid (show q8 ≠ q10 by have := there_lt ht8 (by omega); omega)
      have HD10_q9 := Lib.hid (show q9 ≠ q10 by have := there_lt ht9 (by omega); omega)
      have hq10 : w.heap.size ≤ q10 := by have := hbel0.size; omega
      have E10 := Lib.hid e10; clear e10
      have hb := hJ.all rfl
      have hbel := Below.call hbel hb
      have hm5 := hm5.later hb
      have hm7 := hm7.later hb
      have hm8 := hm8.later hb
      have hm9 := hm9.later hb
      have ht2 := there_later ht2 hb
      have ht5 := there_later ht5 hb
      have ht7 := there_later ht7 hb
      have ht8 := there_later ht8 hb
      have ht9 := there_later ht9 hb
      have HC11 := Lib.hid (show u11d 10 = .int .i64 0 from hG 10 (by simp))
      have hbel0 := hbel
      clear hJ hG hall hb
      go_upto_region 12 with fail
      refine wp_region_turn (fun u => (.slice (some ⟨bb, q, none⟩) 32 cap :: undef :: u0 0 :: u0 1 :: .slice (some ⟨gB, 0, none⟩) 32 cB :: u5b 5 :: u5b 7 :: u8b 3 :: u9b 3 :: u10b 5 :: u11d 8 :: u11d 10 :: u 5 :: u1 0 :: u1 1 :: .bool false :: undef :: .slice (some ⟨W1.heap.size, 0, none⟩) 0 0 :: .slice (some ⟨bb, q, none⟩) 32 cap :: .slice (some ⟨gB, 0, none⟩) 32 cB :: u4 0 :: u4 1 :: u4 2 :: u4 3 :: u4 4 :: u4 5 :: u5b 2 :: u5b 0 :: u5b 1 :: u5b 3 :: u5b 4 :: u6b 0 :: .bool false :: undef :: u8b 0 :: u8b 1 :: u8b 2 :: u9b 0 :: u9b 1 :: u9b 2 :: u10b 0 :: u10b 1 :: u10b 2 :: u10b 3 :: u10b 4 :: u11d 5 :: u11d 0 :: u11d 1 :: u11d 2 :: u11d 3 :: u11d 4 :: u11d 6 :: u11d 7 :: u 0 :: u 1 :: u 2 :: u 3 :: u 4 :: undef :: undef :: undef :: undef :: undef :: undef :: undef :: undef :: undef :: undef :: undef :: undef :: undef :: undef :: undef :: undef :: undef :: undef :: []).toArray) (Holds [.oth (fun v => v = .slice (some ⟨bb, q, none⟩) 32 cap), .oth (fun v => v = .pointer (some ⟨bb, q + 31, none⟩)), .oth (fun v => v = .int .u8 (c.toNat : Int)), .oth (fun v => v = .int .u8 ((c.toNat : Int) / 128)), .oth (fun v => v = .bool o), .oth (fun v => v = .bool o)] W11d) (Keep [.oth (fun v => v = .slice (some ⟨bb, q, none⟩) 32 cap), .oth (fun v => v = .pointer (some ⟨bb, q + 31, none⟩)), .oth (fun v => v = .int .u8 (c.toNat : Int)), .oth (fun v => v = .int .u8 ((c.toNat : Int) / 128)), .oth (fun v => v = .bool o), .oth (fun v => v = .bool o)] W11d) (fun _ => undef) ?_ (by rfl) Keep.start (holds_soft (by kernel_rfl)) ?_ ?_
      · intro u i v h
        rcases i with _ | _ | _ | _ | _ | _ | i
        all_goals first | (simp [Act.put, putV]; done) | (exfalso; simp at h; omega)
      · intro hs
        refine ⟨?_, ?_, ?_, ?_, ?_, ?_, trivial⟩
        · exact step_pureO hs (wants_none rfl) rfl fun L u W hG hdep => ⟨_, run_move rfl, rfl⟩
        · refine step_pureO hs (wants_none rfl) rfl fun L u W hG hdep => ⟨_, ?_, rfl⟩
          have e0 := (show u 0 = .slice (some ⟨bb, q, none⟩) 32 cap from hG 0 (hdep 0 (by kernel_rfl)))
          go_simp
        · exact step_cell bb (q + 31) hs (wants_none rfl) rfl rfl (fun _ h => load_u8 h) (fun L u W hG hdep => (show u 1 = .pointer (some ⟨bb, q + 31, none⟩) from hG 1 (hdep 1 (by kernel_rfl)))) (cell_keep HCL.out hbel) (noSto_apart (by kernel_rfl))
        · refine step_pureO hs (wants_none rfl) rfl fun L u W hG hdep => ⟨_, ?_, rfl⟩
          have e0 := (show u 2 = .int .u8 (c.toNat : Int) from hG 2 (hdep 2 (by kernel_rfl)))
          go_simp
        · refine step_pureO hs (wants_none rfl) rfl fun L u W hG hdep => ⟨_, ?_, rfl⟩
          have e0 := (show u 3 = .int .u8 ((c.toNat : Int) / 128) from hG 3 (hdep 3 (by kernel_rfl)))
          have e9 := HOB.out
          go_simp
          try exact e9
        · exact step_pureO hs (wants_none rfl) rfl fun L u W hG hdep => ⟨_, run_assign rfl, (show u 4 = .bool o from hG 4 (hdep 4 (by kernel_rfl)))⟩
      intro L12 u12d W12d hall hJ hG
      have hb := hJ.all rfl
      have hbel := Below.call hbel hb
      have hm5 := hm5.later hb
      have hm7 := hm7.later hb
      have hm8 := hm8.later hb
      have hm9 := hm9.later hb
      have hm10 := hm10.later hb
      have ht2 := there_later ht2 hb
      have ht5 := there_later ht5 hb
      have ht7 := there_later ht7 hb
      have ht8 := there_later ht8 hb
      have ht9 := there_later ht9 hb
      have ht10 := there_later ht10 hb
      have HC57 := Lib.hid (show u12d 4 = .bool o from hG 4 (by simp))
      have HC12 := Lib.hid (show u12d 5 = .bool o from hG 5 (by simp))
      have hbel0 := hbel
      clear hJ hG hall hb
      cases o
      · skip
        by_cases hx0 : X = 0
        · have HX0 := Lib.hid hx0; clear hx0
          go_upto_region 13 with fail
          refine wp_region_turn (fun u => (.slice (some ⟨bb, q, none⟩) 32 cap :: undef :: u0 0 :: u0 1 :: .slice (some ⟨gB, 0, none⟩) 32 cB :: u5b 5 :: u5b 7 :: u8b 3 :: u9b 3 :: u10b 5 :: u11d 8 :: u11d 10 :: u12d 5 :: u1 0 :: u1 1 :: .bool false :: undef :: .slice (some ⟨W1.heap.size, 0, none⟩) 0 0 :: .slice (some ⟨bb, q, none⟩) 32 cap :: .slice (some ⟨gB, 0, none⟩) 32 cB :: u4 0 :: u4 1 :: u4 2 :: u4 3 :: u4 4 :: u4 5 :: u5b 2 :: u5b 0 :: u5b 1 :: u5b 3 :: u5b 4 :: u6b 0 :: .bool false :: undef :: u8b 0 :: u8b 1 :: u8b 2 :: u9b 0 :: u9b 1 :: u9b 2 :: u10b 0 :: u10b 1 :: u10b 2 :: u10b 3 :: u10b 4 :: u11d 5 :: u11d 0 :: u11d 1 :: u11d 2 :: u11d 3 :: u11d 4 :: u11d 6 :: u11d 7 :: u12d 0 :: u12d 1 :: u12d 2 :: u12d 3 :: u12d 4 :: u 0 :: u 1 :: u 2 :: u 3 :: u 4 :: u 5 :: u 6 :: u 7 :: u 8 :: u 9 :: undef :: undef :: undef :: undef :: undef :: undef :: undef :: undef :: []).toArray) (Holds [.oth (fun v => v = .int .i64 0), .oth (fun v => v = .bool false), .oth (fun v => v = .bool false), .val rR [X], .val rR [0], .oth (fun v => v = .bool true), .oth (fun v => v = .bool true), .oth (fun v => v = .bool false), .oth (fun v => v = .bool false), .oth (fun v => v = .bool false)] W12d) (Keep [.oth (fun v => v = .int .i64 0), .oth (fun v => v = .bool false), .oth (fun v => v = .bool false), .val rR [X], .val rR [0], .oth (fun v => v = .bool true), .oth (fun v => v = .bool true), .oth (fun v => v = .bool false), .oth (fun v => v = .bool false), .oth (fun v => v = .bool false)] W12d) (fun _ => undef) ?_ (by rfl) Keep.start (holds_soft (by kernel_rfl)) ?_ ?_
          · intro u i v h
            rcases i with _ | _ | _ | _ | _ | _ | _ | _ | _ | _ | i
            all_goals first | (simp [Act.put, putV]; done) | (exfalso; simp at h; omega)
          · intro hs
            refine ⟨?_, ?_, ?_, ?_, ?_, ?_, ?_, ?_, ?_, ?_, trivial⟩
            · exact step_pureO hs (wants_none rfl) rfl fun L u W hG hdep => ⟨_, run_move rfl, HC11.out⟩
            · refine step_pureO hs (wants_none rfl) rfl fun L u W hG hdep => ⟨_, ?_, rfl⟩
              have e0 := (show u 0 = .int .i64 0 from hG 0 (hdep 0 (by kernel_rfl)))
              go_simp
              try simp [bne]
            · exact step_pureO hs (wants_none rfl) rfl fun L u W hG hdep => ⟨_, run_move rfl, (show u 1 = .bool false from hG 1 (hdep 1 (by kernel_rfl)))⟩
            · exact step_load q10 0 hs (wants_on 2 rfl rfl (by kernel_rfl) (fun _ => rfl)) rfl rfl tyFe (fun _ => E10.out) hm10.lt hm10 (noSto_apart (by kernel_rfl))
            · exact step_pure hs (wants_on 2 rfl rfl (by kernel_rfl) (fun _ => rfl)) rfl fun L u W hG hdep => run_build0 rfl (buildFe0 W)
            · exact step_pureO hs (wants_on 2 rfl rfl (by kernel_rfl) (fun _ => rfl)) rfl fun L u W hG hdep => ⟨_, run_eqlR rfl (show IsFs rR (u 3) [X] from hG 3 (hdep 3 (by kernel_rfl))) (show IsFs rR (u 4) [0] from hG 4 (hdep 4 (by kernel_rfl))), by rw [decide_eq_true HX0.out]⟩
            · exact step_pureO hs (wants_on 2 rfl rfl (by kernel_rfl) (fun _ => rfl)) rfl fun L u W hG hdep => ⟨_, run_move rfl, (show u 5 = .bool true from hG 5 (hdep 5 (by kernel_rfl)))⟩
            · exact step_pureO hs (wants_on 6 rfl rfl (by kernel_rfl) (fun _ => rfl)) rfl fun L u W hG hdep => ⟨_, run_move rfl, HC12.out⟩
            · exact step_pick true hs (wants_on 2 rfl rfl (by kernel_rfl) (fun _ => rfl)) rfl rfl (fun L u W hG hdep => (show u 6 = .bool true from hG 6 (hdep 6 (by kernel_rfl)))) (fun L u W hG hdep => (show u 7 = .bool false from hG 7 (hdep 7 (by kernel_rfl))))
            · exact step_pick false hs (wants_none rfl) rfl rfl (fun L u W hG hdep => (show u 2 = .bool false from hG 2 (hdep 2 (by kernel_rfl)))) (fun L u W hG hdep => (show u 8 = .bool false from hG 8 (hdep 8 (by kernel_rfl))))
          intro L13 u13e W13e hall hJ hG
          have hb := hJ.all rfl
          have hbel := Below.call hbel hb
          have hm5 := hm5.later hb
          have hm7 := hm7.later hb
          have hm8 := hm8.later hb
          have hm9 := hm9.later hb
          have hm10 := hm10.later hb
          have ht2 := there_later ht2 hb
          have ht5 := there_later ht5 hb
          have ht7 := there_later ht7 hb
          have ht8 := there_later ht8 hb
          have ht9 := there_later ht9 hb
          have ht10 := there_later ht10 hb
          have HC59 := Lib.hid (show u13e 1 = .bool false from hG 1 (by simp))
          have HC60 := Lib.hid (show u13e 2 = .bool false from hG 2 (by simp))
          have HC63 := Lib.hid (show u13e 5 = .bool true from hG 5 (by simp))
          have HC64 := Lib.hid (show u13e 6 = .bool true from hG 6 (by simp))
          have HC65 := Lib.hid (show u13e 7 = .bool false from hG 7 (by simp))
          have HC66 := Lib.hid (show u13e 8 = .bool false from hG 8 (by simp))
          have HC67 := Lib.hid (show u13e 9 = .bool false from hG 9 (by simp))
          have hbel0 := hbel
          clear hJ hG hall hb
          have hx : u13e 9 = .bool false := HC67.out
          go_wp2_with fail
          rw [hx]
          clear hx
          go_upto_region 15 with fail
          refine wp_region_turn (fun u => (.slice (some ⟨bb, q, none⟩) 32 cap :: undef :: u0 0 :: u0 1 :: .slice (some ⟨gB, 0, none⟩) 32 cB :: u5b 5 :: u5b 7 :: u8b 3 :: u9b 3 :: u10b 5 :: u11d 8 :: u11d 10 :: u12d 5 :: u1 0 :: u1 1 :: .bool false :: undef :: .slice (some ⟨W1.heap.size, 0, none⟩) 0 0 :: .slice (some ⟨bb, q, none⟩) 32 cap :: .slice (some ⟨gB, 0, none⟩) 32 cB :: u4 0 :: u4 1 :: u4 2 :: u4 3 :: u4 4 :: u4 5 :: u5b 2 :: u5b 0 :: u5b 1 :: u5b 3 :: u5b 4 :: u6b 0 :: .bool false :: undef :: u8b 0 :: u8b 1 :: u8b 2 :: u9b 0 :: u9b 1 :: u9b 2 :: u10b 0 :: u10b 1 :: u10b 2 :: u10b 3 :: u10b 4 :: u11d 5 :: u11d 0 :: u11d 1 :: u11d 2 :: u11d 3 :: u11d 4 :: u11d 6 :: u11d 7 :: u12d 0 :: u12d 1 :: u12d 2 :: u12d 3 :: u12d 4 :: u13e 0 :: u13e 1 :: u13e 2 :: u13e 3 :: u13e 4 :: u13e 5 :: u13e 6 :: u13e 7 :: u13e 8 :: .bool false :: undef :: u 0 :: undef :: undef :: undef :: undef :: undef :: undef :: []).toArray) (Holds [.oth (fun v => v = .bool false)] W13e) (Keep [.oth (fun v => v = .bool false)] W13e) (fun _ => undef) ?_ (by rfl) Keep.start (holds_soft (by kernel_rfl)) ?_ ?_
          · intro u i v h
            rcases i with _ | i
            all_goals first | (simp [Act.put, putV]; done) | (exfalso; simp at h; omega)
          · intro hs
            refine ⟨?_, trivial⟩
            · exact step_pureO hs (wants_none rfl) rfl fun L u W hG hdep => ⟨_, run_move rfl, HC12.out⟩
          intro L15 u15e W15e hall hJ hG
          have hb := hJ.all rfl
          have hbel := Below.call hbel hb
          have hm5 := hm5.later hb
          have hm7 := hm7.later hb
          have hm8 := hm8.later hb
          have hm9 := hm9.later hb
          have hm10 := hm10.later hb
          have ht2 := there_later ht2 hb
          have ht5 := there_later ht5 hb
          have ht7 := there_later ht7 hb
          have ht8 := there_later ht8 hb
          have ht9 := there_later ht9 hb
          have ht10 := there_later ht10 hb
          have HC69 := Lib.hid (show u15e 0 = .bool false from hG 0 (by simp))
          have hbel0 := hbel
          clear hJ hG hall hb
          have hx : u15e 0 = .bool false := HC69.out
          go_wp2_with fail
          rw [hx]
          clear hx
          go_upto_region 17 with fail
          refine wp_region_mid (fun u => (.slice (some ⟨bb, q, none⟩) 32 cap :: undef :: u0 0 :: u 5 :: .slice (some ⟨gB, 0, none⟩) 32 cB :: u5b 5 :: u5b 7 :: u8b 3 :: u9b 3 :: u10b 5 :: u11d 8 :: u11d 10 :: u12d 5 :: u1 0 :: u1 1 :: .bool false :: undef :: .slice (some ⟨W1.heap.size, 0, none⟩) 0 0 :: .slice (some ⟨bb, q, none⟩) 32 cap :: .slice (some ⟨gB, 0, none⟩) 32 cB :: u4 0 :: u4 1 :: u4 2 :: u4 3 :: u4 4 :: u4 5 :: u5b 2 :: u5b 0 :: u5b 1 :: u5b 3 :: u5b 4 :: u6b 0 :: .bool false :: undef :: u8b 0 :: u8b 1 :: u8b 2 :: u9b 0 :: u9b 1 :: u9b 2 :: u10b 0 :: u10b 1 :: u10b 2 :: u10b 3 :: u10b 4 :: u11d 5 :: u11d 0 :: u11d 1 :: u11d 2 :: u11d 3 :: u11d 4 :: u11d 6 :: u11d 7 :: u12d 0 :: u12d 1 :: u12d 2 :: u12d 3 :: u12d 4 :: u13e 0 :: u13e 1 :: u13e 2 :: u13e 3 :: u13e 4 :: u13e 5 :: u13e 6 :: u13e 7 :: u13e 8 :: .bool false :: undef :: .bool false :: undef :: undef :: u 0 :: u 1 :: u 2 :: u 3 :: []).toArray) (Holds [.val rR [X], .val rR [y], .val rR [fn 1], .val rR [X, y, fn 1], .sto q2 rR [X, y, fn 1], .oth (fun v => v = .int .i64 0)] W15e) (Keep [.val rR [X], .val rR [y], .val rR [fn 1], .val rR [X, y, fn 1], .sto q2 rR [X, y, fn 1], .oth (fun v => v = .int .i64 0)] W15e) (fun k => ((undef :: undef :: undef :: undef :: undef :: u0 1 :: []) : List Value).getD k undef) (by kernel_rfl) (by kernel_rfl) ?_ (by rfl) Keep.drew (holds_soft (by kernel_rfl)) ?_ ?_
          · intro u i v h
            rcases i with _ | _ | _ | _ | _ | _ | i
            all_goals first | (simp [Act.put, putV]; done) | (exfalso; simp at h; omega)
          · intro hs
            refine ⟨?_, ?_, ?_, ?_, ?_, ?_, trivial⟩
            · exact step_load q10 0 hs (wants_none rfl) rfl rfl tyFe (fun _ => E10.out) hm10.lt hm10 (fun k g hk => by rcases k with _ | _ | _ | _ | _ | _ | k <;> first | (cases hk; done) | (cases hk; exact .inr HD10_q2.out))
            · exact step_load q5 0 hs (wants_none rfl) rfl rfl tyFe (fun _ => E5.out) hm5.lt hm5 (fun k g hk => by rcases k with _ | _ | _ | _ | _ | _ | k <;> first | (cases hk; done) | (cases hk; exact .inr HD5_q2.out))
            · refine step_call hs (wants_none rfl) rfl fun L u W hJ hG hL hdep K hK => ?_
              go_simp
              go_at_call 52
              (with_reducible refine (kSmallI (n := 1) (z := 1) rfl (by omega) _).mono ?_); rintro e w1 ⟨r, rfl, hr, hb⟩
              have hk := hK.out _ _ hr hb
              exact hk
            · refine step_pure hs (wants_none rfl) rfl fun L u W hG hdep => ?_
              have a0 := (show IsFs rR (u 0) [X] from hG 0 (hdep 0 (by kernel_rfl)))
              have a1 := (show IsFs rR (u 1) [y] from hG 1 (hdep 1 (by kernel_rfl)))
              have a2 := (show IsFs rR (u 2) [fn 1] from hG 2 (hdep 2 (by kernel_rfl)))
              obtain ⟨r, hr, hx⟩ := build_Pt a0 a1 a2 W
              exact ⟨r, run_build3 rfl hr, hx⟩
            · refine step_storeO q2 48 hs (wants_none rfl) rfl rfl (by kernel_rfl) (fun k hk => ?_) (fun _ => E2.out) (there_lt ht2 (by omega)) ht2 (gives_op 3 rfl (by kernel_rfl) (fun _ => rfl)) tyPt3 rfl
              rcases k with _ | _ | _ | _ | _ | _ | k
              all_goals first | (exact absurd rfl hk) | (intro e; cases e; done)
            · exact step_pureO hs (wants_none rfl) rfl fun L u W hG hdep => ⟨_, run_assign rfl, rfl⟩
          intro L17 u17e W17e hall hJ hG
          have hb : Below w.heap.size W15e W17e := hJ.below (by have := hbel.size; omega) (fun k b hf => by rcases k with _ | _ | _ | _ | _ | _ | k <;> first | (cases hf; done) | (cases hf; omega))
          have hbel := hbel.trans hb
          have hm5 := hm5.blk (hJ.block _ (hm5.lt) (fun k hk => by rcases k with _ | _ | _ | _ | _ | _ | k <;> first | (cases hk; done) | (cases hk; exact absurd rfl HD5_q2.out)))
          have hm7 := hm7.blk (hJ.block _ (hm7.lt) (fun k hk => by rcases k with _ | _ | _ | _ | _ | _ | k <;> first | (cases hk; done) | (cases hk; exact absurd rfl HD7_q2.out)))
          have hm8 := hm8.blk (hJ.block _ (hm8.lt) (fun k hk => by rcases k with _ | _ | _ | _ | _ | _ | k <;> first | (cases hk; done) | (cases hk; exact absurd rfl HD8_q2.out)))
          have hm9 := hm9.blk (hJ.block _ (hm9.lt) (fun k hk => by rcases k with _ | _ | _ | _ | _ | _ | k <;> first | (cases hk; done) | (cases hk; exact absurd rfl HD9_q2.out)))
          have hm10 := hm10.blk (hJ.block _ (hm10.lt) (fun k hk => by rcases k with _ | _ | _ | _ | _ | _ | k <;> first | (cases hk; done) | (cases hk; exact absurd rfl HD10_q2.out)))
          have ht5 := there_blk ht5 (hJ.block _ (there_lt ht5 (by omega)) (fun k hk => by rcases k with _ | _ | _ | _ | _ | _ | k <;> first | (cases hk; done) | (cases hk; exact absurd rfl HD5_q2.out)))
          have ht7 := there_blk ht7 (hJ.block _ (there_lt ht7 (by omega)) (fun k hk => by rcases k with _ | _ | _ | _ | _ | _ | k <;> first | (cases hk; done) | (cases hk; exact absurd rfl HD7_q2.out)))
          have ht8 := there_blk ht8 (hJ.block _ (there_lt ht8 (by omega)) (fun k hk => by rcases k with _ | _ | _ | _ | _ | _ | k <;> first | (cases hk; done) | (cases hk; exact absurd rfl HD8_q2.out)))
          have ht9 := there_blk ht9 (hJ.block _ (there_lt ht9 (by omega)) (fun k hk => by rcases k with _ | _ | _ | _ | _ | _ | k <;> first | (cases hk; done) | (cases hk; exact absurd rfl HD9_q2.out)))
          have ht10 := there_blk ht10 (hJ.block _ (there_lt ht10 (by omega)) (fun k hk => by rcases k with _ | _ | _ | _ | _ | _ | k <;> first | (cases hk; done) | (cases hk; exact absurd rfl HD10_q2.out)))
          obtain ⟨_, hs17_4t, hs17_4⟩ := (show _ ∧ W17e.there q2 0 48 ∧ HasFs rR W17e q2 0 [X, y, fn 1] from hG 4 (by simp))
          have HC3 := Lib.hid (show u17e 5 = .int .i64 0 from hG 5 (by simp))
          have hbel0 := hbel
          clear hJ hG hall hb
          go_wp2
          exact ret_cell_slot (R := rR) Try.results11 (by exact E2.out) (by exact HC3.out) hs17_4 tyPt3 rfl (fun r hr => ⟨r, by rw [(dec_yes HL.out HLW.out HY.out HRC.out HS.out (fun k => by cases k.1)).1], isQ hr (dec_prep (by rw [(dec_yes HL.out HLW.out HY.out HRC.out HS.out (fun k => by cases k.1)).2.1, HX.out]; rfl) (dec_yes HL.out HLW.out HY.out HRC.out HS.out (fun k => by cases k.1)).2.2), hbel⟩)
        · have HX0 := Lib.hid hx0; clear hx0
          go_upto_region 13 with fail
          refine wp_region_turn (fun u => (.slice (some ⟨bb, q, none⟩) 32 cap :: undef :: u0 0 :: u0 1 :: .slice (some ⟨gB, 0, none⟩) 32 cB :: u5b 5 :: u5b 7 :: u8b 3 :: u9b 3 :: u10b 5 :: u11d 8 :: u11d 10 :: u12d 5 :: u1 0 :: u1 1 :: .bool false :: undef :: .slice (some ⟨W1.heap.size, 0, none⟩) 0 0 :: .slice (some ⟨bb, q, none⟩) 32 cap :: .slice (some ⟨gB, 0, none⟩) 32 cB :: u4 0 :: u4 1 :: u4 2 :: u4 3 :: u4 4 :: u4 5 :: u5b 2 :: u5b 0 :: u5b 1 :: u5b 3 :: u5b 4 :: u6b 0 :: .bool false :: undef :: u8b 0 :: u8b 1 :: u8b 2 :: u9b 0 :: u9b 1 :: u9b 2 :: u10b 0 :: u10b 1 :: u10b 2 :: u10b 3 :: u10b 4 :: u11d 5 :: u11d 0 :: u11d 1 :: u11d 2 :: u11d 3 :: u11d 4 :: u11d 6 :: u11d 7 :: u12d 0 :: u12d 1 :: u12d 2 :: u12d 3 :: u12d 4 :: u 0 :: u 1 :: u 2 :: u 3 :: u 4 :: u 5 :: u 6 :: u 7 :: u 8 :: u 9 :: undef :: undef :: undef :: undef :: undef :: undef :: undef :: undef :: []).toArray) (Holds [.oth (fun v => v = .int .i64 0), .oth (fun v => v = .bool false), .oth (fun v => v = .bool false), .val rR [X], .val rR [0], .oth (fun v => v = .bool false), .oth (fun v => v = .bool false), .oth (fun v => v = undef), .oth (fun v => v = .bool false), .oth (fun v => v = .bool false)] W12d) (Keep [.oth (fun v => v = .int .i64 0), .oth (fun v => v = .bool false), .oth (fun v => v = .bool false), .val rR [X], .val rR [0], .oth (fun v => v = .bool false), .oth (fun v => v = .bool false), .oth (fun v => v = undef), .oth (fun v => v = .bool false), .oth (fun v => v = .bool false)] W12d) (fun _ => undef) ?_ (by rfl) Keep.start (holds_soft (by kernel_rfl)) ?_ ?_
          · intro u i v h
            rcases i with _ | _ | _ | _ | _ | _ | _ | _ | _ | _ | i
            all_goals first | (simp [Act.put, putV]; done) | (exfalso; simp at h; omega)
          · intro hs
            refine ⟨?_, ?_, ?_, ?_, ?_, ?_, ?_, ?_, ?_, ?_, trivial⟩
            · exact step_pureO hs (wants_none rfl) rfl fun L u W hG hdep => ⟨_, run_move rfl, HC11.out⟩
            · refine step_pureO hs (wants_none rfl) rfl fun L u W hG hdep => ⟨_, ?_, rfl⟩
              have e0 := (show u 0 = .int .i64 0 from hG 0 (hdep 0 (by kernel_rfl)))
              go_simp
              try simp [bne]
            · exact step_pureO hs (wants_none rfl) rfl fun L u W hG hdep => ⟨_, run_move rfl, (show u 1 = .bool false from hG 1 (hdep 1 (by kernel_rfl)))⟩
            · exact step_load q10 0 hs (wants_on 2 rfl rfl (by kernel_rfl) (fun _ => rfl)) rfl rfl tyFe (fun _ => E10.out) hm10.lt hm10 (noSto_apart (by kernel_rfl))
            · exact step_pure hs (wants_on 2 rfl rfl (by kernel_rfl) (fun _ => rfl)) rfl fun L u W hG hdep => run_build0 rfl (buildFe0 W)
            · exact step_pureO hs (wants_on 2 rfl rfl (by kernel_rfl) (fun _ => rfl)) rfl fun L u W hG hdep => ⟨_, run_eqlR rfl (show IsFs rR (u 3) [X] from hG 3 (hdep 3 (by kernel_rfl))) (show IsFs rR (u 4) [0] from hG 4 (hdep 4 (by kernel_rfl))), by rw [decide_eq_false HX0.out]⟩
            · exact step_pureO hs (wants_on 2 rfl rfl (by kernel_rfl) (fun _ => rfl)) rfl fun L u W hG hdep => ⟨_, run_move rfl, (show u 5 = .bool false from hG 5 (hdep 5 (by kernel_rfl)))⟩
            · exact step_outU hs (wants_off 6 rfl rfl rfl (by kernel_rfl) (fun _ => rfl)) rfl
            · exact step_pick false hs (wants_on 2 rfl rfl (by kernel_rfl) (fun _ => rfl)) rfl rfl (fun L u W hG hdep => (show u 6 = .bool false from hG 6 (hdep 6 (by kernel_rfl)))) (fun L u W hG hdep => rfl)
            · exact step_pick false hs (wants_none rfl) rfl rfl (fun L u W hG hdep => (show u 2 = .bool false from hG 2 (hdep 2 (by kernel_rfl)))) (fun L u W hG hdep => (show u 8 = .bool false from hG 8 (hdep 8 (by kernel_rfl))))
          intro L13 u13f W13f hall hJ hG
          have hb := hJ.all rfl
          have hbel := Below.call hbel hb
          have hm5 := hm5.later hb
          have hm7 := hm7.later hb
          have hm8 := hm8.later hb
          have hm9 := hm9.later hb
          have hm10 := hm10.later hb
          have ht2 := there_later ht2 hb
          have ht5 := there_later ht5 hb
          have ht7 := there_later ht7 hb
          have ht8 := there_later ht8 hb
          have ht9 := there_later ht9 hb
          have ht10 := there_later ht10 hb
          have HC59 := Lib.hid (show u13f 1 = .bool false from hG 1 (by simp))
          have HC60 := Lib.hid (show u13f 2 = .bool false from hG 2 (by simp))
          have HC63 := Lib.hid (show u13f 5 = .bool false from hG 5 (by simp))
          have HC64 := Lib.hid (show u13f 6 = .bool false from hG 6 (by simp))
          have HC66 := Lib.hid (show u13f 8 = .bool false from hG 8 (by simp))
          have HC67 := Lib.hid (show u13f 9 = .bool false from hG 9 (by simp))
          have hbel0 := hbel
          clear hJ hG hall hb
          have hx : u13f 9 = .bool false := HC67.out
          go_wp2_with fail
          rw [hx]
          clear hx
          go_upto_region 15 with fail
          refine wp_region_turn (fun u => (.slice (some ⟨bb, q, none⟩) 32 cap :: undef :: u0 0 :: u0 1 :: .slice (some ⟨gB, 0, none⟩) 32 cB :: u5b 5 :: u5b 7 :: u8b 3 :: u9b 3 :: u10b 5 :: u11d 8 :: u11d 10 :: u12d 5 :: u1 0 :: u1 1 :: .bool false :: undef :: .slice (some ⟨W1.heap.size, 0, none⟩) 0 0 :: .slice (some ⟨bb, q, none⟩) 32 cap :: .slice (some ⟨gB, 0, none⟩) 32 cB :: u4 0 :: u4 1 :: u4 2 :: u4 3 :: u4 4 :: u4 5 :: u5b 2 :: u5b 0 :: u5b 1 :: u5b 3 :: u5b 4 :: u6b 0 :: .bool false :: undef :: u8b 0 :: u8b 1 :: u8b 2 :: u9b 0 :: u9b 1 :: u9b 2 :: u10b 0 :: u10b 1 :: u10b 2 :: u10b 3 :: u10b 4 :: u11d 5 :: u11d 0 :: u11d 1 :: u11d 2 :: u11d 3 :: u11d 4 :: u11d 6 :: u11d 7 :: u12d 0 :: u12d 1 :: u12d 2 :: u12d 3 :: u12d 4 :: u13f 0 :: u13f 1 :: u13f 2 :: u13f 3 :: u13f 4 :: u13f 5 :: u13f 6 :: u13f 7 :: u13f 8 :: .bool false :: undef :: u 0 :: undef :: undef :: undef :: undef :: undef :: undef :: []).toArray) (Holds [.oth (fun v => v = .bool false)] W13f) (Keep [.oth (fun v => v = .bool false)] W13f) (fun _ => undef) ?_ (by rfl) Keep.start (holds_soft (by kernel_rfl)) ?_ ?_
          · intro u i v h
            rcases i with _ | i
            all_goals first | (simp [Act.put, putV]; done) | (exfalso; simp at h; omega)
          · intro hs
            refine ⟨?_, trivial⟩
            · exact step_pureO hs (wants_none rfl) rfl fun L u W hG hdep => ⟨_, run_move rfl, HC12.out⟩
          intro L15 u15f W15f hall hJ hG
          have hb := hJ.all rfl
          have hbel := Below.call hbel hb
          have hm5 := hm5.later hb
          have hm7 := hm7.later hb
          have hm8 := hm8.later hb
          have hm9 := hm9.later hb
          have hm10 := hm10.later hb
          have ht2 := there_later ht2 hb
          have ht5 := there_later ht5 hb
          have ht7 := there_later ht7 hb
          have ht8 := there_later ht8 hb
          have ht9 := there_later ht9 hb
          have ht10 := there_later ht10 hb
          have HC69 := Lib.hid (show u15f 0 = .bool false from hG 0 (by simp))
          have hbel0 := hbel
          clear hJ hG hall hb
          have hx : u15f 0 = .bool false := HC69.out
          go_wp2_with fail
          rw [hx]
          clear hx
          go_upto_region 17 with fail
          refine wp_region_mid (fun u => (.slice (some ⟨bb, q, none⟩) 32 cap :: undef :: u0 0 :: u 5 :: .slice (some ⟨gB, 0, none⟩) 32 cB :: u5b 5 :: u5b 7 :: u8b 3 :: u9b 3 :: u10b 5 :: u11d 8 :: u11d 10 :: u12d 5 :: u1 0 :: u1 1 :: .bool false :: undef :: .slice (some ⟨W1.heap.size, 0, none⟩) 0 0 :: .slice (some ⟨bb, q, none⟩) 32 cap :: .slice (some ⟨gB, 0, none⟩) 32 cB :: u4 0 :: u4 1 :: u4 2 :: u4 3 :: u4 4 :: u4 5 :: u5b 2 :: u5b 0 :: u5b 1 :: u5b 3 :: u5b 4 :: u6b 0 :: .bool false :: undef :: u8b 0 :: u8b 1 :: u8b 2 :: u9b 0 :: u9b 1 :: u9b 2 :: u10b 0 :: u10b 1 :: u10b 2 :: u10b 3 :: u10b 4 :: u11d 5 :: u11d 0 :: u11d 1 :: u11d 2 :: u11d 3 :: u11d 4 :: u11d 6 :: u11d 7 :: u12d 0 :: u12d 1 :: u12d 2 :: u12d 3 :: u12d 4 :: u13f 0 :: u13f 1 :: u13f 2 :: u13f 3 :: u13f 4 :: u13f 5 :: u13f 6 :: u13f 7 :: u13f 8 :: .bool false :: undef :: .bool false :: undef :: undef :: u 0 :: u 1 :: u 2 :: u 3 :: []).toArray) (Holds [.val rR [X], .val rR [y], .val rR [fn 1], .val rR [X, y, fn 1], .sto q2 rR [X, y, fn 1], .oth (fun v => v = .int .i64 0)] W15f) (Keep [.val rR [X], .val rR [y], .val rR [fn 1], .val rR [X, y, fn 1], .sto q2 rR [X, y, fn 1], .oth (fun v => v = .int .i64 0)] W15f) (fun k => ((undef :: undef :: undef :: undef :: undef :: u0 1 :: []) : List Value).getD k undef) (by kernel_rfl) (by kernel_rfl) ?_ (by rfl) Keep.drew (holds_soft (by kernel_rfl)) ?_ ?_
          · intro u i v h
            rcases i with _ | _ | _ | _ | _ | _ | i
            all_goals first | (simp [Act.put, putV]; done) | (exfalso; simp at h; omega)
          · intro hs
            refine ⟨?_, ?_, ?_, ?_, ?_, ?_, trivial⟩
            · exact step_load q10 0 hs (wants_none rfl) rfl rfl tyFe (fun _ => E10.out) hm10.lt hm10 (fun k g hk => by rcases k with _ | _ | _ | _ | _ | _ | k <;> first | (cases hk; done) | (cases hk; exact .inr HD10_q2.out))
            · exact step_load q5 0 hs (wants_none rfl) rfl rfl tyFe (fun _ => E5.out) hm5.lt hm5 (fun k g hk => by rcases k with _ | _ | _ | _ | _ | _ | k <;> first | (cases hk; done) | (cases hk; exact .inr HD5_q2.out))
            · refine step_call hs (wants_none rfl) rfl fun L u W hJ hG hL hdep K hK => ?_
              go_simp
              go_at_call 52
              (with_reducible refine (kSmallI (n := 1) (z := 1) rfl (by omega) _).mono ?_); rintro e w1 ⟨r, rfl, hr, hb⟩
              have hk := hK.out _ _ hr hb
              exact hk
            · refine step_pure hs (wants_none rfl) rfl fun L u W hG hdep => ?_
              have a0 := (show IsFs rR (u 0) [X] from hG 0 (hdep 0 (by kernel_rfl)))
              have a1 := (show IsFs rR (u 1) [y] from hG 1 (hdep 1 (by kernel_rfl)))
              have a2 := (show IsFs rR (u 2) [fn 1] from hG 2 (hdep 2 (by kernel_rfl)))
              obtain ⟨r, hr, hx⟩ := build_Pt a0 a1 a2 W
              exact ⟨r, run_build3 rfl hr, hx⟩
            · refine step_storeO q2 48 hs (wants_none rfl) rfl rfl (by kernel_rfl) (fun k hk => ?_) (fun _ => E2.out) (there_lt ht2 (by omega)) ht2 (gives_op 3 rfl (by kernel_rfl) (fun _ => rfl)) tyPt3 rfl
              rcases k with _ | _ | _ | _ | _ | _ | k
              all_goals first | (exact absurd rfl hk) | (intro e; cases e; done)
            · exact step_pureO hs (wants_none rfl) rfl fun L u W hG hdep => ⟨_, run_assign rfl, rfl⟩
          intro L17 u17f W17f hall hJ hG
          have hb : Below w.heap.size W15f W17f := hJ.below (by have := hbel.size; omega) (fun k b hf => by rcases k with _ | _ | _ | _ | _ | _ | k <;> first | (cases hf; done) | (cases hf; omega))
          have hbel := hbel.trans hb
          have hm5 := hm5.blk (hJ.block _ (hm5.lt) (fun k hk => by rcases k with _ | _ | _ | _ | _ | _ | k <;> first | (cases hk; done) | (cases hk; exact absurd rfl HD5_q2.out)))
          have hm7 := hm7.blk (hJ.block _ (hm7.lt) (fun k hk => by rcases k with _ | _ | _ | _ | _ | _ | k <;> first | (cases hk; done) | (cases hk; exact absurd rfl HD7_q2.out)))
          have hm8 := hm8.blk (hJ.block _ (hm8.lt) (fun k hk => by rcases k with _ | _ | _ | _ | _ | _ | k <;> first | (cases hk; done) | (cases hk; exact absurd rfl HD8_q2.out)))
          have hm9 := hm9.blk (hJ.block _ (hm9.lt) (fun k hk => by rcases k with _ | _ | _ | _ | _ | _ | k <;> first | (cases hk; done) | (cases hk; exact absurd rfl HD9_q2.out)))
          have hm10 := hm10.blk (hJ.block _ (hm10.lt) (fun k hk => by rcases k with _ | _ | _ | _ | _ | _ | k <;> first | (cases hk; done) | (cases hk; exact absurd rfl HD10_q2.out)))
          have ht5 := there_blk ht5 (hJ.block _ (there_lt ht5 (by omega)) (fun k hk => by rcases k with _ | _ | _ | _ | _ | _ | k <;> first | (cases hk; done) | (cases hk; exact absurd rfl HD5_q2.out)))
          have ht7 := there_blk ht7 (hJ.block _ (there_lt ht7 (by omega)) (fun k hk => by rcases k with _ | _ | _ | _ | _ | _ | k <;> first | (cases hk; done) | (cases hk; exact absurd rfl HD7_q2.out)))
          have ht8 := there_blk ht8 (hJ.block _ (there_lt ht8 (by omega)) (fun k hk => by rcases k with _ | _ | _ | _ | _ | _ | k <;> first | (cases hk; done) | (cases hk; exact absurd rfl HD8_q2.out)))
          have ht9 := there_blk ht9 (hJ.block _ (there_lt ht9 (by omega)) (fun k hk => by rcases k with _ | _ | _ | _ | _ | _ | k <;> first | (cases hk; done) | (cases hk; exact absurd rfl HD9_q2.out)))
          have ht10 := there_blk ht10 (hJ.block _ (there_lt ht10 (by omega)) (fun k hk => by rcases k with _ | _ | _ | _ | _ | _ | k <;> first | (cases hk; done) | (cases hk; exact absurd rfl HD10_q2.out)))
          obtain ⟨_, hs17_4t, hs17_4⟩ := (show _ ∧ W17f.there q2 0 48 ∧ HasFs rR W17f q2 0 [X, y, fn 1] from hG 4 (by simp))
          have HC3 := Lib.hid (show u17f 5 = .int .i64 0 from hG 5 (by simp))
          have hbel0 := hbel
          clear hJ hG hall hb
          go_wp2
          exact ret_cell_slot (R := rR) Try.results11 (by exact E2.out) (by exact HC3.out) hs17_4 tyPt3 rfl (fun r hr => ⟨r, by rw [(dec_yes HL.out HLW.out HY.out HRC.out HS.out (fun k => HX0.out (HX.out.symm.trans k.2))).1], isQ hr (dec_prep (by rw [(dec_yes HL.out HLW.out HY.out HRC.out HS.out (fun k => HX0.out (HX.out.symm.trans k.2))).2.1, HX.out]; rfl) (dec_yes HL.out HLW.out HY.out HRC.out HS.out (fun k => HX0.out (HX.out.symm.trans k.2))).2.2), hbel⟩)
      · skip
        by_cases hx0 : X = 0
        · have HX0 := Lib.hid hx0; clear hx0
          go_upto_region 13 with fail
          refine wp_region_turn (fun u => (.slice (some ⟨bb, q, none⟩) 32 cap :: undef :: u0 0 :: u0 1 :: .slice (some ⟨gB, 0, none⟩) 32 cB :: u5b 5 :: u5b 7 :: u8b 3 :: u9b 3 :: u10b 5 :: u11d 8 :: u11d 10 :: u12d 5 :: u1 0 :: u1 1 :: .bool false :: undef :: .slice (some ⟨W1.heap.size, 0, none⟩) 0 0 :: .slice (some ⟨bb, q, none⟩) 32 cap :: .slice (some ⟨gB, 0, none⟩) 32 cB :: u4 0 :: u4 1 :: u4 2 :: u4 3 :: u4 4 :: u4 5 :: u5b 2 :: u5b 0 :: u5b 1 :: u5b 3 :: u5b 4 :: u6b 0 :: .bool false :: undef :: u8b 0 :: u8b 1 :: u8b 2 :: u9b 0 :: u9b 1 :: u9b 2 :: u10b 0 :: u10b 1 :: u10b 2 :: u10b 3 :: u10b 4 :: u11d 5 :: u11d 0 :: u11d 1 :: u11d 2 :: u11d 3 :: u11d 4 :: u11d 6 :: u11d 7 :: u12d 0 :: u12d 1 :: u12d 2 :: u12d 3 :: u12d 4 :: u 0 :: u 1 :: u 2 :: u 3 :: u 4 :: u 5 :: u 6 :: u 7 :: u 8 :: u 9 :: undef :: undef :: undef :: undef :: undef :: undef :: undef :: undef :: []).toArray) (Holds [.oth (fun v => v = .int .i64 0), .oth (fun v => v = .bool false), .oth (fun v => v = .bool false), .val rR [X], .val rR [0], .oth (fun v => v = .bool true), .oth (fun v => v = .bool true), .oth (fun v => v = .bool true), .oth (fun v => v = .bool true), .oth (fun v => v = .bool true)] W12d) (Keep [.oth (fun v => v = .int .i64 0), .oth (fun v => v = .bool false), .oth (fun v => v = .bool false), .val rR [X], .val rR [0], .oth (fun v => v = .bool true), .oth (fun v => v = .bool true), .oth (fun v => v = .bool true), .oth (fun v => v = .bool true), .oth (fun v => v = .bool true)] W12d) (fun _ => undef) ?_ (by rfl) Keep.start (holds_soft (by kernel_rfl)) ?_ ?_
          · intro u i v h
            rcases i with _ | _ | _ | _ | _ | _ | _ | _ | _ | _ | i
            all_goals first | (simp [Act.put, putV]; done) | (exfalso; simp at h; omega)
          · intro hs
            refine ⟨?_, ?_, ?_, ?_, ?_, ?_, ?_, ?_, ?_, ?_, trivial⟩
            · exact step_pureO hs (wants_none rfl) rfl fun L u W hG hdep => ⟨_, run_move rfl, HC11.out⟩
            · refine step_pureO hs (wants_none rfl) rfl fun L u W hG hdep => ⟨_, ?_, rfl⟩
              have e0 := (show u 0 = .int .i64 0 from hG 0 (hdep 0 (by kernel_rfl)))
              go_simp
              try simp [bne]
            · exact step_pureO hs (wants_none rfl) rfl fun L u W hG hdep => ⟨_, run_move rfl, (show u 1 = .bool false from hG 1 (hdep 1 (by kernel_rfl)))⟩
            · exact step_load q10 0 hs (wants_on 2 rfl rfl (by kernel_rfl) (fun _ => rfl)) rfl rfl tyFe (fun _ => E10.out) hm10.lt hm10 (noSto_apart (by kernel_rfl))
            · exact step_pure hs (wants_on 2 rfl rfl (by kernel_rfl) (fun _ => rfl)) rfl fun L u W hG hdep => run_build0 rfl (buildFe0 W)
            · exact step_pureO hs (wants_on 2 rfl rfl (by kernel_rfl) (fun _ => rfl)) rfl fun L u W hG hdep => ⟨_, run_eqlR rfl (show IsFs rR (u 3) [X] from hG 3 (hdep 3 (by kernel_rfl))) (show IsFs rR (u 4) [0] from hG 4 (hdep 4 (by kernel_rfl))), by rw [decide_eq_true HX0.out]⟩
            · exact step_pureO hs (wants_on 2 rfl rfl (by kernel_rfl) (fun _ => rfl)) rfl fun L u W hG hdep => ⟨_, run_move rfl, (show u 5 = .bool true from hG 5 (hdep 5 (by kernel_rfl)))⟩
            · exact step_pureO hs (wants_on 6 rfl rfl (by kernel_rfl) (fun _ => rfl)) rfl fun L u W hG hdep => ⟨_, run_move rfl, HC12.out⟩
            · exact step_pick true hs (wants_on 2 rfl rfl (by kernel_rfl) (fun _ => rfl)) rfl rfl (fun L u W hG hdep => (show u 6 = .bool true from hG 6 (hdep 6 (by kernel_rfl)))) (fun L u W hG hdep => (show u 7 = .bool true from hG 7 (hdep 7 (by kernel_rfl))))
            · exact step_pick false hs (wants_none rfl) rfl rfl (fun L u W hG hdep => (show u 2 = .bool false from hG 2 (hdep 2 (by kernel_rfl)))) (fun L u W hG hdep => (show u 8 = .bool true from hG 8 (hdep 8 (by kernel_rfl))))
          intro L13 u13e W13e hall hJ hG
          have hb := hJ.all rfl
          have hbel := Below.call hbel hb
          have hm5 := hm5.later hb
          have hm7 := hm7.later hb
          have hm8 := hm8.later hb
          have hm9 := hm9.later hb
          have hm10 := hm10.later hb
          have ht2 := there_later ht2 hb
          have ht5 := there_later ht5 hb
          have ht7 := there_later ht7 hb
          have ht8 := there_later ht8 hb
          have ht9 := there_later ht9 hb
          have ht10 := there_later ht10 hb
          have HC59 := Lib.hid (show u13e 1 = .bool false from hG 1 (by simp))
          have HC60 := Lib.hid (show u13e 2 = .bool false from hG 2 (by simp))
          have HC63 := Lib.hid (show u13e 5 = .bool true from hG 5 (by simp))
          have HC64 := Lib.hid (show u13e 6 = .bool true from hG 6 (by simp))
          have HC65 := Lib.hid (show u13e 7 = .bool true from hG 7 (by simp))
          have HC66 := Lib.hid (show u13e 8 = .bool true from hG 8 (by simp))
          have HC67 := Lib.hid (show u13e 9 = .bool true from hG 9 (by simp))
          have hbel0 := hbel
          clear hJ hG hall hb
          have hx : u13e 9 = .bool true := HC67.out
          go_wp2_with fail
          rw [hx]
          clear hx
          go_upto_region 14 with fail
          refine wp_region_turn (fun u => (.slice (some ⟨bb, q, none⟩) 32 cap :: undef :: u0 0 :: u 2 :: .slice (some ⟨gB, 0, none⟩) 32 cB :: u5b 5 :: u5b 7 :: u8b 3 :: u9b 3 :: u10b 5 :: u11d 8 :: u11d 10 :: u12d 5 :: u1 0 :: u1 1 :: .bool false :: undef :: .slice (some ⟨W1.heap.size, 0, none⟩) 0 0 :: .slice (some ⟨bb, q, none⟩) 32 cap :: .slice (some ⟨gB, 0, none⟩) 32 cB :: u4 0 :: u4 1 :: u4 2 :: u4 3 :: u4 4 :: u4 5 :: u5b 2 :: u5b 0 :: u5b 1 :: u5b 3 :: u5b 4 :: u6b 0 :: .bool false :: undef :: u8b 0 :: u8b 1 :: u8b 2 :: u9b 0 :: u9b 1 :: u9b 2 :: u10b 0 :: u10b 1 :: u10b 2 :: u10b 3 :: u10b 4 :: u11d 5 :: u11d 0 :: u11d 1 :: u11d 2 :: u11d 3 :: u11d 4 :: u11d 6 :: u11d 7 :: u12d 0 :: u12d 1 :: u12d 2 :: u12d 3 :: u12d 4 :: u13e 0 :: u13e 1 :: u13e 2 :: u13e 3 :: u13e 4 :: u13e 5 :: u13e 6 :: u13e 7 :: u13e 8 :: .bool true :: u 0 :: undef :: undef :: undef :: undef :: undef :: undef :: undef :: []).toArray) (Holds [.val rQ [Cp.zero], .sto q2 rQ [Cp.zero], .oth (fun v => v = .int .i64 12)] W13e) (Keep [.val rQ [Cp.zero], .sto q2 rQ [Cp.zero], .oth (fun v => v = .int .i64 12)] W13e) (fun k => ((undef :: undef :: u0 1 :: []) : List Value).getD k undef) ?_ (by rfl) Keep.start (holds_soft (by kernel_rfl)) ?_ ?_
          · intro u i v h
            rcases i with _ | _ | _ | i
            all_goals first | (simp [Act.put, putV]; done) | (exfalso; simp at h; omega)
          · intro hs
            refine ⟨?_, ?_, ?_, trivial⟩
            · refine step_call hs (wants_none rfl) rfl fun L u W hJ hG hL hdep K hK => ?_
              go_simp
              go_at_call 48
              (with_reducible refine (kZero _).mono ?_); rintro e w1 ⟨r, rfl, hr, hb⟩
              have hk := hK.out _ _ hr hb
              exact hk
            · refine step_storeO q2 48 hs (wants_none rfl) rfl rfl (by kernel_rfl) (fun k hk => ?_) (fun _ => E2.out) (there_lt ht2 (by omega)) ht2 (gives_op 0 rfl (by kernel_rfl) (fun _ => rfl)) tyPt rfl
              rcases k with _ | _ | _ | k
              all_goals first | (exact absurd rfl hk) | (intro e; cases e; done)
            · exact step_pureO hs (wants_none rfl) rfl fun L u W hG hdep => ⟨_, run_assign rfl, rfl⟩
          intro L14 u14e W14e hall hJ hG
          have hb : Below w.heap.size W13e W14e := hJ.below (by have := hbel.size; omega) (fun k b hf => by rcases k with _ | _ | _ | k <;> first | (cases hf; done) | (cases hf; omega))
          have hbel := hbel.trans hb
          have hm5 := hm5.blk (hJ.block _ (hm5.lt) (fun k hk => by rcases k with _ | _ | _ | k <;> first | (cases hk; done) | (cases hk; exact absurd rfl HD5_q2.out)))
          have hm7 := hm7.blk (hJ.block _ (hm7.lt) (fun k hk => by rcases k with _ | _ | _ | k <;> first | (cases hk; done) | (cases hk; exact absurd rfl HD7_q2.out)))
          have hm8 := hm8.blk (hJ.block _ (hm8.lt) (fun k hk => by rcases k with _ | _ | _ | k <;> first | (cases hk; done) | (cases hk; exact absurd rfl HD8_q2.out)))
          have hm9 := hm9.blk (hJ.block _ (hm9.lt) (fun k hk => by rcases k with _ | _ | _ | k <;> first | (cases hk; done) | (cases hk; exact absurd rfl HD9_q2.out)))
          have hm10 := hm10.blk (hJ.block _ (hm10.lt) (fun k hk => by rcases k with _ | _ | _ | k <;> first | (cases hk; done) | (cases hk; exact absurd rfl HD10_q2.out)))
          have ht5 := there_blk ht5 (hJ.block _ (there_lt ht5 (by omega)) (fun k hk => by rcases k with _ | _ | _ | k <;> first | (cases hk; done) | (cases hk; exact absurd rfl HD5_q2.out)))
          have ht7 := there_blk ht7 (hJ.block _ (there_lt ht7 (by omega)) (fun k hk => by rcases k with _ | _ | _ | k <;> first | (cases hk; done) | (cases hk; exact absurd rfl HD7_q2.out)))
          have ht8 := there_blk ht8 (hJ.block _ (there_lt ht8 (by omega)) (fun k hk => by rcases k with _ | _ | _ | k <;> first | (cases hk; done) | (cases hk; exact absurd rfl HD8_q2.out)))
          have ht9 := there_blk ht9 (hJ.block _ (there_lt ht9 (by omega)) (fun k hk => by rcases k with _ | _ | _ | k <;> first | (cases hk; done) | (cases hk; exact absurd rfl HD9_q2.out)))
          have ht10 := there_blk ht10 (hJ.block _ (there_lt ht10 (by omega)) (fun k hk => by rcases k with _ | _ | _ | k <;> first | (cases hk; done) | (cases hk; exact absurd rfl HD10_q2.out)))
          obtain ⟨_, hs14_1t, hs14_1⟩ := (show _ ∧ W14e.there q2 0 48 ∧ HasFs rQ W14e q2 0 [Cp.zero] from hG 1 (by simp))
          have HC3 := Lib.hid (show u14e 2 = .int .i64 12 from hG 2 (by simp))
          have hbel0 := hbel
          clear hJ hG hall hb
          go_wp2
          exact ret_cell_slot (R := rQ) Try.results11 (by exact E2.out) (by exact HC3.out) hs14_1 tyPt rfl (fun r hr => ⟨r, by rw [(dec_sgn HL.out HLW.out HY.out HRC.out HS.out (HX.out.trans HX0.out)).2], by rw [(dec_sgn HL.out HLW.out HY.out HRC.out HS.out (HX.out.trans HX0.out)).1]; exact hr, hbel⟩)
        · have HX0 := Lib.hid hx0; clear hx0
          go_upto_region 13 with fail
          refine wp_region_turn (fun u => (.slice (some ⟨bb, q, none⟩) 32 cap :: undef :: u0 0 :: u0 1 :: .slice (some ⟨gB, 0, none⟩) 32 cB :: u5b 5 :: u5b 7 :: u8b 3 :: u9b 3 :: u10b 5 :: u11d 8 :: u11d 10 :: u12d 5 :: u1 0 :: u1 1 :: .bool false :: undef :: .slice (some ⟨W1.heap.size, 0, none⟩) 0 0 :: .slice (some ⟨bb, q, none⟩) 32 cap :: .slice (some ⟨gB, 0, none⟩) 32 cB :: u4 0 :: u4 1 :: u4 2 :: u4 3 :: u4 4 :: u4 5 :: u5b 2 :: u5b 0 :: u5b 1 :: u5b 3 :: u5b 4 :: u6b 0 :: .bool false :: undef :: u8b 0 :: u8b 1 :: u8b 2 :: u9b 0 :: u9b 1 :: u9b 2 :: u10b 0 :: u10b 1 :: u10b 2 :: u10b 3 :: u10b 4 :: u11d 5 :: u11d 0 :: u11d 1 :: u11d 2 :: u11d 3 :: u11d 4 :: u11d 6 :: u11d 7 :: u12d 0 :: u12d 1 :: u12d 2 :: u12d 3 :: u12d 4 :: u 0 :: u 1 :: u 2 :: u 3 :: u 4 :: u 5 :: u 6 :: u 7 :: u 8 :: u 9 :: undef :: undef :: undef :: undef :: undef :: undef :: undef :: undef :: []).toArray) (Holds [.oth (fun v => v = .int .i64 0), .oth (fun v => v = .bool false), .oth (fun v => v = .bool false), .val rR [X], .val rR [0], .oth (fun v => v = .bool false), .oth (fun v => v = .bool false), .oth (fun v => v = undef), .oth (fun v => v = .bool false), .oth (fun v => v = .bool false)] W12d) (Keep [.oth (fun v => v = .int .i64 0), .oth (fun v => v = .bool false), .oth (fun v => v = .bool false), .val rR [X], .val rR [0], .oth (fun v => v = .bool false), .oth (fun v => v = .bool false), .oth (fun v => v = undef), .oth (fun v => v = .bool false), .oth (fun v => v = .bool false)] W12d) (fun _ => undef) ?_ (by rfl) Keep.start (holds_soft (by kernel_rfl)) ?_ ?_
          · intro u i v h
            rcases i with _ | _ | _ | _ | _ | _ | _ | _ | _ | _ | i
            all_goals first | (simp [Act.put, putV]; done) | (exfalso; simp at h; omega)
          · intro hs
            refine ⟨?_, ?_, ?_, ?_, ?_, ?_, ?_, ?_, ?_, ?_, trivial⟩
            · exact step_pureO hs (wants_none rfl) rfl fun L u W hG hdep => ⟨_, run_move rfl, HC11.out⟩
            · refine step_pureO hs (wants_none rfl) rfl fun L u W hG hdep => ⟨_, ?_, rfl⟩
              have e0 := (show u 0 = .int .i64 0 from hG 0 (hdep 0 (by kernel_rfl)))
              go_simp
              try simp [bne]
            · exact step_pureO hs (wants_none rfl) rfl fun L u W hG hdep => ⟨_, run_move rfl, (show u 1 = .bool false from hG 1 (hdep 1 (by kernel_rfl)))⟩
            · exact step_load q10 0 hs (wants_on 2 rfl rfl (by kernel_rfl) (fun _ => rfl)) rfl rfl tyFe (fun _ => E10.out) hm10.lt hm10 (noSto_apart (by kernel_rfl))
            · exact step_pure hs (wants_on 2 rfl rfl (by kernel_rfl) (fun _ => rfl)) rfl fun L u W hG hdep => run_build0 rfl (buildFe0 W)
            · exact step_pureO hs (wants_on 2 rfl rfl (by kernel_rfl) (fun _ => rfl)) rfl fun L u W hG hdep => ⟨_, run_eqlR rfl (show IsFs rR (u 3) [X] from hG 3 (hdep 3 (by kernel_rfl))) (show IsFs rR (u 4) [0] from hG 4 (hdep 4 (by kernel_rfl))), by rw [decide_eq_false HX0.out]⟩
            · exact step_pureO hs (wants_on 2 rfl rfl (by kernel_rfl) (fun _ => rfl)) rfl fun L u W hG hdep => ⟨_, run_move rfl, (show u 5 = .bool false from hG 5 (hdep 5 (by kernel_rfl)))⟩
            · exact step_outU hs (wants_off 6 rfl rfl rfl (by kernel_rfl) (fun _ => rfl)) rfl
            · exact step_pick false hs (wants_on 2 rfl rfl (by kernel_rfl) (fun _ => rfl)) rfl rfl (fun L u W hG hdep => (show u 6 = .bool false from hG 6 (hdep 6 (by kernel_rfl)))) (fun L u W hG hdep => rfl)
            · exact step_pick false hs (wants_none rfl) rfl rfl (fun L u W hG hdep => (show u 2 = .bool false from hG 2 (hdep 2 (by kernel_rfl)))) (fun L u W hG hdep => (show u 8 = .bool false from hG 8 (hdep 8 (by kernel_rfl))))
          intro L13 u13f W13f hall hJ hG
          have hb := hJ.all rfl
          have hbel := Below.call hbel hb
          have hm5 := hm5.later hb
          have hm7 := hm7.later hb
          have hm8 := hm8.later hb
          have hm9 := hm9.later hb
          have hm10 := hm10.later hb
          have ht2 := there_later ht2 hb
          have ht5 := there_later ht5 hb
          have ht7 := there_later ht7 hb
          have ht8 := there_later ht8 hb
          have ht9 := there_later ht9 hb
          have ht10 := there_later ht10 hb
          have HC59 := Lib.hid (show u13f 1 = .bool false from hG 1 (by simp))
          have HC60 := Lib.hid (show u13f 2 = .bool false from hG 2 (by simp))
          have HC63 := Lib.hid (show u13f 5 = .bool false from hG 5 (by simp))
          have HC64 := Lib.hid (show u13f 6 = .bool false from hG 6 (by simp))
          have HC66 := Lib.hid (show u13f 8 = .bool false from hG 8 (by simp))
          have HC67 := Lib.hid (show u13f 9 = .bool false from hG 9 (by simp))
          have hbel0 := hbel
          clear hJ hG hall hb
          have hx : u13f 9 = .bool false := HC67.out
          go_wp2_with fail
          rw [hx]
          clear hx
          go_upto_region 15 with fail
          refine wp_region_turn (fun u => (.slice (some ⟨bb, q, none⟩) 32 cap :: undef :: u0 0 :: u0 1 :: .slice (some ⟨gB, 0, none⟩) 32 cB :: u5b 5 :: u5b 7 :: u8b 3 :: u9b 3 :: u10b 5 :: u11d 8 :: u11d 10 :: u12d 5 :: u1 0 :: u1 1 :: .bool false :: undef :: .slice (some ⟨W1.heap.size, 0, none⟩) 0 0 :: .slice (some ⟨bb, q, none⟩) 32 cap :: .slice (some ⟨gB, 0, none⟩) 32 cB :: u4 0 :: u4 1 :: u4 2 :: u4 3 :: u4 4 :: u4 5 :: u5b 2 :: u5b 0 :: u5b 1 :: u5b 3 :: u5b 4 :: u6b 0 :: .bool false :: undef :: u8b 0 :: u8b 1 :: u8b 2 :: u9b 0 :: u9b 1 :: u9b 2 :: u10b 0 :: u10b 1 :: u10b 2 :: u10b 3 :: u10b 4 :: u11d 5 :: u11d 0 :: u11d 1 :: u11d 2 :: u11d 3 :: u11d 4 :: u11d 6 :: u11d 7 :: u12d 0 :: u12d 1 :: u12d 2 :: u12d 3 :: u12d 4 :: u13f 0 :: u13f 1 :: u13f 2 :: u13f 3 :: u13f 4 :: u13f 5 :: u13f 6 :: u13f 7 :: u13f 8 :: .bool false :: undef :: u 0 :: undef :: undef :: undef :: undef :: undef :: undef :: []).toArray) (Holds [.oth (fun v => v = .bool true)] W13f) (Keep [.oth (fun v => v = .bool true)] W13f) (fun _ => undef) ?_ (by rfl) Keep.start (holds_soft (by kernel_rfl)) ?_ ?_
          · intro u i v h
            rcases i with _ | i
            all_goals first | (simp [Act.put, putV]; done) | (exfalso; simp at h; omega)
          · intro hs
            refine ⟨?_, trivial⟩
            · exact step_pureO hs (wants_none rfl) rfl fun L u W hG hdep => ⟨_, run_move rfl, HC12.out⟩
          intro L15 u15f W15f hall hJ hG
          have hb := hJ.all rfl
          have hbel := Below.call hbel hb
          have hm5 := hm5.later hb
          have hm7 := hm7.later hb
          have hm8 := hm8.later hb
          have hm9 := hm9.later hb
          have hm10 := hm10.later hb
          have ht2 := there_later ht2 hb
          have ht5 := there_later ht5 hb
          have ht7 := there_later ht7 hb
          have ht8 := there_later ht8 hb
          have ht9 := there_later ht9 hb
          have ht10 := there_later ht10 hb
          have HC69 := Lib.hid (show u15f 0 = .bool true from hG 0 (by simp))
          have hbel0 := hbel
          clear hJ hG hall hb
          have hx : u15f 0 = .bool true := HC69.out
          go_wp2_with fail
          rw [hx]
          clear hx
          go_upto_region 16 with fail
          refine wp_region_turn (fun u => (.slice (some ⟨bb, q, none⟩) 32 cap :: undef :: u0 0 :: u0 1 :: .slice (some ⟨gB, 0, none⟩) 32 cB :: u5b 5 :: u5b 7 :: u8b 3 :: u9b 3 :: u10b 5 :: u11d 8 :: u11d 10 :: u12d 5 :: u1 0 :: u1 1 :: .bool false :: undef :: .slice (some ⟨W1.heap.size, 0, none⟩) 0 0 :: .slice (some ⟨bb, q, none⟩) 32 cap :: .slice (some ⟨gB, 0, none⟩) 32 cB :: u4 0 :: u4 1 :: u4 2 :: u4 3 :: u4 4 :: u4 5 :: u5b 2 :: u5b 0 :: u5b 1 :: u5b 3 :: u5b 4 :: u6b 0 :: .bool false :: undef :: u8b 0 :: u8b 1 :: u8b 2 :: u9b 0 :: u9b 1 :: u9b 2 :: u10b 0 :: u10b 1 :: u10b 2 :: u10b 3 :: u10b 4 :: u11d 5 :: u11d 0 :: u11d 1 :: u11d 2 :: u11d 3 :: u11d 4 :: u11d 6 :: u11d 7 :: u12d 0 :: u12d 1 :: u12d 2 :: u12d 3 :: u12d 4 :: u13f 0 :: u13f 1 :: u13f 2 :: u13f 3 :: u13f 4 :: u13f 5 :: u13f 6 :: u13f 7 :: u13f 8 :: .bool false :: undef :: .bool true :: u 0 :: u 1 :: undef :: undef :: undef :: undef :: []).toArray) (Holds [.val rR [X], .val rR [-X], .sto q10 rR [-X]] W15f) (Keep [.val rR [X], .val rR [-X], .sto q10 rR [-X]] W15f) (fun _ => undef) ?_ (by rfl) Keep.start (holds_soft (by kernel_rfl)) ?_ ?_
          · intro u i v h
            rcases i with _ | _ | _ | i
            all_goals first | (simp [Act.put, putV]; done) | (exfalso; simp at h; omega)
          · intro hs
            refine ⟨?_, ?_, ?_, trivial⟩
            · exact step_load q10 0 hs (wants_none rfl) rfl rfl tyFe (fun _ => E10.out) hm10.lt hm10 (fun k g hk => by rcases k with _ | _ | _ | k <;> first | (cases hk; done) | (cases hk; exact .inl (by kernel_rfl)))
            · refine step_call hs (wants_none rfl) rfl fun L u W hJ hG hL hdep K hK => ?_
              have a0 := (show IsFs rR (u 0) [X] from hG 0 (hdep 0 (by kernel_rfl)))
              go_simp
              go_at_call 57
              (with_reducible refine (kNeg a0 _).mono ?_); rintro e w1 ⟨r, rfl, hr, hb⟩
              have hk := hK.out _ _ hr hb
              exact hk
            · refine step_storeO q10 16 hs (wants_none rfl) rfl rfl (by kernel_rfl) (fun k hk => ?_) (fun _ => E10.out) (there_lt ht10 (by omega)) ht10 (gives_op 1 rfl (by kernel_rfl) (fun _ => rfl)) tyFe rfl
              rcases k with _ | _ | _ | k
              all_goals first | (exact absurd rfl hk) | (intro e; cases e; done)
          intro L16 u16f W16f hall hJ hG
          have hb : Below w.heap.size W15f W16f := hJ.below (by have := hbel.size; omega) (fun k b hf => by rcases k with _ | _ | _ | k <;> first | (cases hf; done) | (cases hf; omega))
          have hbel := hbel.trans hb
          have hm5 := hm5.blk (hJ.block _ (hm5.lt) (fun k hk => by rcases k with _ | _ | _ | k <;> first | (cases hk; done) | (cases hk; exact absurd rfl (Ne.symm HD10_q5.out))))
          have hm7 := hm7.blk (hJ.block _ (hm7.lt) (fun k hk => by rcases k with _ | _ | _ | k <;> first | (cases hk; done) | (cases hk; exact absurd rfl (Ne.symm HD10_q7.out))))
          have hm8 := hm8.blk (hJ.block _ (hm8.lt) (fun k hk => by rcases k with _ | _ | _ | k <;> first | (cases hk; done) | (cases hk; exact absurd rfl (Ne.symm HD10_q8.out))))
          have hm9 := hm9.blk (hJ.block _ (hm9.lt) (fun k hk => by rcases k with _ | _ | _ | k <;> first | (cases hk; done) | (cases hk; exact absurd rfl (Ne.symm HD10_q9.out))))
          have ht2 := there_blk ht2 (hJ.block _ (there_lt ht2 (by omega)) (fun k hk => by rcases k with _ | _ | _ | k <;> first | (cases hk; done) | (cases hk; exact absurd rfl (Ne.symm HD10_q2.out))))
          have ht5 := there_blk ht5 (hJ.block _ (there_lt ht5 (by omega)) (fun k hk => by rcases k with _ | _ | _ | k <;> first | (cases hk; done) | (cases hk; exact absurd rfl (Ne.symm HD10_q5.out))))
          have ht7 := there_blk ht7 (hJ.block _ (there_lt ht7 (by omega)) (fun k hk => by rcases k with _ | _ | _ | k <;> first | (cases hk; done) | (cases hk; exact absurd rfl (Ne.symm HD10_q7.out))))
          have ht8 := there_blk ht8 (hJ.block _ (there_lt ht8 (by omega)) (fun k hk => by rcases k with _ | _ | _ | k <;> first | (cases hk; done) | (cases hk; exact absurd rfl (Ne.symm HD10_q8.out))))
          have ht9 := there_blk ht9 (hJ.block _ (there_lt ht9 (by omega)) (fun k hk => by rcases k with _ | _ | _ | k <;> first | (cases hk; done) | (cases hk; exact absurd rfl (Ne.symm HD10_q9.out))))
          obtain ⟨_, hs16_2t, hs16_2⟩ := (show _ ∧ W16f.there q10 0 16 ∧ HasFs rR W16f q10 0 [-X] from hG 2 (by simp))
          have hbel0 := hbel
          clear hJ hG hall hb
          go_upto_region 17 with fail
          refine wp_region_mid (fun u => (.slice (some ⟨bb, q, none⟩) 32 cap :: undef :: u0 0 :: u 5 :: .slice (some ⟨gB, 0, none⟩) 32 cB :: u5b 5 :: u5b 7 :: u8b 3 :: u9b 3 :: u10b 5 :: u11d 8 :: u11d 10 :: u12d 5 :: u1 0 :: u1 1 :: .bool false :: undef :: .slice (some ⟨W1.heap.size, 0, none⟩) 0 0 :: .slice (some ⟨bb, q, none⟩) 32 cap :: .slice (some ⟨gB, 0, none⟩) 32 cB :: u4 0 :: u4 1 :: u4 2 :: u4 3 :: u4 4 :: u4 5 :: u5b 2 :: u5b 0 :: u5b 1 :: u5b 3 :: u5b 4 :: u6b 0 :: .bool false :: undef :: u8b 0 :: u8b 1 :: u8b 2 :: u9b 0 :: u9b 1 :: u9b 2 :: u10b 0 :: u10b 1 :: u10b 2 :: u10b 3 :: u10b 4 :: u11d 5 :: u11d 0 :: u11d 1 :: u11d 2 :: u11d 3 :: u11d 4 :: u11d 6 :: u11d 7 :: u12d 0 :: u12d 1 :: u12d 2 :: u12d 3 :: u12d 4 :: u13f 0 :: u13f 1 :: u13f 2 :: u13f 3 :: u13f 4 :: u13f 5 :: u13f 6 :: u13f 7 :: u13f 8 :: .bool false :: undef :: .bool true :: u16f 0 :: u16f 1 :: u 0 :: u 1 :: u 2 :: u 3 :: []).toArray) (Holds [.val rR [-X], .val rR [y], .val rR [fn 1], .val rR [-X, y, fn 1], .sto q2 rR [-X, y, fn 1], .oth (fun v => v = .int .i64 0)] W16f) (Keep [.val rR [-X], .val rR [y], .val rR [fn 1], .val rR [-X, y, fn 1], .sto q2 rR [-X, y, fn 1], .oth (fun v => v = .int .i64 0)] W16f) (fun k => ((undef :: undef :: undef :: undef :: undef :: u0 1 :: []) : List Value).getD k undef) (by kernel_rfl) (by kernel_rfl) ?_ (by rfl) Keep.drew (holds_soft (by kernel_rfl)) ?_ ?_
          · intro u i v h
            rcases i with _ | _ | _ | _ | _ | _ | i
            all_goals first | (simp [Act.put, putV]; done) | (exfalso; simp at h; omega)
          · intro hs
            refine ⟨?_, ?_, ?_, ?_, ?_, ?_, trivial⟩
            · exact step_load q10 0 hs (wants_none rfl) rfl rfl tyFe (fun _ => E10.out) hs16_2.lt hs16_2 (fun k g hk => by rcases k with _ | _ | _ | _ | _ | _ | k <;> first | (cases hk; done) | (cases hk; exact .inr HD10_q2.out))
            · exact step_load q5 0 hs (wants_none rfl) rfl rfl tyFe (fun _ => E5.out) hm5.lt hm5 (fun k g hk => by rcases k with _ | _ | _ | _ | _ | _ | k <;> first | (cases hk; done) | (cases hk; exact .inr HD5_q2.out))
            · refine step_call hs (wants_none rfl) rfl fun L u W hJ hG hL hdep K hK => ?_
              go_simp
              go_at_call 52
              (with_reducible refine (kSmallI (n := 1) (z := 1) rfl (by omega) _).mono ?_); rintro e w1 ⟨r, rfl, hr, hb⟩
              have hk := hK.out _ _ hr hb
              exact hk
            · refine step_pure hs (wants_none rfl) rfl fun L u W hG hdep => ?_
              have a0 := (show IsFs rR (u 0) [-X] from hG 0 (hdep 0 (by kernel_rfl)))
              have a1 := (show IsFs rR (u 1) [y] from hG 1 (hdep 1 (by kernel_rfl)))
              have a2 := (show IsFs rR (u 2) [fn 1] from hG 2 (hdep 2 (by kernel_rfl)))
              obtain ⟨r, hr, hx⟩ := build_Pt a0 a1 a2 W
              exact ⟨r, run_build3 rfl hr, hx⟩
            · refine step_storeO q2 48 hs (wants_none rfl) rfl rfl (by kernel_rfl) (fun k hk => ?_) (fun _ => E2.out) (there_lt ht2 (by omega)) ht2 (gives_op 3 rfl (by kernel_rfl) (fun _ => rfl)) tyPt3 rfl
              rcases k with _ | _ | _ | _ | _ | _ | k
              all_goals first | (exact absurd rfl hk) | (intro e; cases e; done)
            · exact step_pureO hs (wants_none rfl) rfl fun L u W hG hdep => ⟨_, run_assign rfl, rfl⟩
          intro L17 u17f W17f hall hJ hG
          have hb : Below w.heap.size W16f W17f := hJ.below (by have := hbel.size; omega) (fun k b hf => by rcases k with _ | _ | _ | _ | _ | _ | k <;> first | (cases hf; done) | (cases hf; omega))
          have hbel := hbel.trans hb
          have hm5 := hm5.blk (hJ.block _ (hm5.lt) (fun k hk => by rcases k with _ | _ | _ | _ | _ | _ | k <;> first | (cases hk; done) | (cases hk; exact absurd rfl HD5_q2.out)))
          have hm7 := hm7.blk (hJ.block _ (hm7.lt) (fun k hk => by rcases k with _ | _ | _ | _ | _ | _ | k <;> first | (cases hk; done) | (cases hk; exact absurd rfl HD7_q2.out)))
          have hm8 := hm8.blk (hJ.block _ (hm8.lt) (fun k hk => by rcases k with _ | _ | _ | _ | _ | _ | k <;> first | (cases hk; done) | (cases hk; exact absurd rfl HD8_q2.out)))
          have hm9 := hm9.blk (hJ.block _ (hm9.lt) (fun k hk => by rcases k with _ | _ | _ | _ | _ | _ | k <;> first | (cases hk; done) | (cases hk; exact absurd rfl HD9_q2.out)))
          have hs16_2 := hs16_2.blk (hJ.block _ (hs16_2.lt) (fun k hk => by rcases k with _ | _ | _ | _ | _ | _ | k <;> first | (cases hk; done) | (cases hk; exact absurd rfl HD10_q2.out)))
          have ht5 := there_blk ht5 (hJ.block _ (there_lt ht5 (by omega)) (fun k hk => by rcases k with _ | _ | _ | _ | _ | _ | k <;> first | (cases hk; done) | (cases hk; exact absurd rfl HD5_q2.out)))
          have ht7 := there_blk ht7 (hJ.block _ (there_lt ht7 (by omega)) (fun k hk => by rcases k with _ | _ | _ | _ | _ | _ | k <;> first | (cases hk; done) | (cases hk; exact absurd rfl HD7_q2.out)))
          have ht8 := there_blk ht8 (hJ.block _ (there_lt ht8 (by omega)) (fun k hk => by rcases k with _ | _ | _ | _ | _ | _ | k <;> first | (cases hk; done) | (cases hk; exact absurd rfl HD8_q2.out)))
          have ht9 := there_blk ht9 (hJ.block _ (there_lt ht9 (by omega)) (fun k hk => by rcases k with _ | _ | _ | _ | _ | _ | k <;> first | (cases hk; done) | (cases hk; exact absurd rfl HD9_q2.out)))
          have hs16_2t := there_blk hs16_2t (hJ.block _ (there_lt hs16_2t (by omega)) (fun k hk => by rcases k with _ | _ | _ | _ | _ | _ | k <;> first | (cases hk; done) | (cases hk; exact absurd rfl HD10_q2.out)))
          obtain ⟨_, hs17_4t, hs17_4⟩ := (show _ ∧ W17f.there q2 0 48 ∧ HasFs rR W17f q2 0 [-X, y, fn 1] from hG 4 (by simp))
          have HC3 := Lib.hid (show u17f 5 = .int .i64 0 from hG 5 (by simp))
          have hbel0 := hbel
          clear hJ hG hall hb
          go_wp2
          exact ret_cell_slot (R := rR) Try.results11 (by exact E2.out) (by exact HC3.out) hs17_4 tyPt3 rfl (fun r hr => ⟨r, by rw [(dec_yes HL.out HLW.out HY.out HRC.out HS.out (fun k => HX0.out (HX.out.symm.trans k.2))).1], isQ hr (dec_prep (by rw [(dec_yes HL.out HLW.out HY.out HRC.out HS.out (fun k => HX0.out (HX.out.symm.trans k.2))).2.1, HX.out]; rfl) (dec_yes HL.out HLW.out HY.out HRC.out HS.out (fun k => HX0.out (HX.out.symm.trans k.2))).2.2), hbel⟩)
theorem kDecode {a : Option Addr} {n cap : Nat} {l : List UInt8} {P : EP} {c : Int} {w : World} (hP : decV l = P) (hc : decC l = c) (h : RdB w a n cap l) :
    Calls Try.prog 11 #[.slice a n cap] w fun e w' => ∃ r, e = .returned (.tuple #[r, .int .i64 c]) ∧ IsFs rQ r [P] ∧ Below w.heap.size w w' := by
  subst hP hc
  by_cases hn : n = 32
  · subst hn
    obtain ⟨b, q, rfl, hc0⟩ := h.get 31 (by rw [h.hlen]; omega)
    exact qdecode_32 w rfl h
  · obtain ⟨e1, e2⟩ := dec_len (b := l) (by rw [h.hlen]; exact hn)
    rw [e1, e2]
    exact qdecode_len w hn
theorem base_y : fn 4 * finv (fn 5) = base.y := by
  have h1 : base.y * fn 5 = fn 4 := by show baseY * fn 5 = fn 4; decide +kernel
  have h3 := finv_mul (x := fn 5) (by decide +kernel)
  rw [← h1]
  generalize finv (fn 5) = u at *
  generalize fn 5 = v at *
  generalize base.y = b at *
  clear h1
  grind
theorem base_even : ¬ base.x.val % 2 = 1 := by show ¬ baseX.val % 2 = 1; decide +kernel
theorem dec_base2 : decV (leB 32 (fn 4 * finv (fn 5)).val) = base ∧ decC (leB 32 (fn 4 * finv (fn 5)).val) = 0 := by
  rw [base_y, enc_even base_even]
  unfold decV decC
  rw [decP_enc]
  exact ⟨rfl, rfl⟩
set_option maxRecDepth 100000 in
set_option maxHeartbeats 4000000 in
theorem kBase  (w : World) :
    Calls Try.prog 22 #[] w fun e w' => ∃ r, e = .returned r ∧ IsFs rQ r [base] ∧ Below w.heap.size w w' := by
  go_enter Try.func22, Try.ntmps22
  have hbel : Below w.heap.size w w := Below.refl _ _
  have hbel0 := hbel
  go_upto_region 0 with fail
  refine wp_region_turn (fun u => #[u 0, undef, undef, undef, undef, undef, undef, undef, undef, undef, undef, undef, undef, undef, undef]) (Holds [.new 48] w) (Keep [.new 48] w) (fun _ => undef) ?_ (by rfl) Keep.start (holds_soft (by kernel_rfl)) ?_ ?_
  · intro u i v h
    rcases i with _ | i
    all_goals first | (simp [Act.put, putV]; done) | (exfalso; simp at h; omega)
  · intro hs
    refine ⟨?_, trivial⟩
    · exact step_alloc hs (wants_none rfl) rfl rfl (by omega) rfl allocPt
  intro L0 u0 W0 hall hJ hG
  obtain ⟨q0, e0, hq0, _, ht0⟩ := (show ∃ g, u0 0 = .pointer (some ⟨g, 0, none⟩) ∧ w.heap.size ≤ g ∧ 0 < 48 ∧ W0.there g 0 48 from hG 0 (by simp))
  have hq0 : w.heap.size ≤ q0 := by have := hbel0.size; omega
  have E0 := Lib.hid e0; clear e0
  have hb := hJ.all rfl
  have hbel := Below.call hbel hb
  have hbel0 := hbel
  clear hJ hG hall hb
  go_upto_region 1 with fail
  refine wp_region_turn (fun u => #[u0 0, u 4, undef, undef, u 0, u 1, u 2, u 3, undef, undef, undef, undef, undef, undef, undef]) (Holds [.val rR [fn 4], .val rR [fn 5], .val rR [finv (fn 5)], .val rR [(fn 4) * (finv (fn 5))], .new 16, .st 4 rR [(fn 4) * (finv (fn 5))]] W0) (Keep [.val rR [fn 4], .val rR [fn 5], .val rR [finv (fn 5)], .val rR [(fn 4) * (finv (fn 5))], .new 16, .st 4 rR [(fn 4) * (finv (fn 5))]] W0) (fun _ => undef) ?_ (by rfl) Keep.start (holds_soft (by kernel_rfl)) ?_ ?_
  · intro u i v h
    rcases i with _ | _ | _ | _ | _ | _ | i
    all_goals first | (simp [Act.put, putV]; done) | (exfalso; simp at h; omega)
  · intro hs
    refine ⟨?_, ?_, ?_, ?_, ?_, ?_, trivial⟩
    · refine step_call hs (wants_none rfl) rfl fun L u W hJ hG hL hdep K hK => ?_
      go_simp
      go_at_call 52
      (with_reducible refine (kSmallI (n := 4) (z := 4) rfl (by omega) _).mono ?_); rintro e w1 ⟨r, rfl, hr, hb⟩
      have hk := hK.out _ _ hr hb
      exact hk
    · refine step_call hs (wants_none rfl) rfl fun L u W hJ hG hL hdep K hK => ?_
      go_simp
      go_at_call 52
      (with_reducible refine (kSmallI (n := 5) (z := 5) rfl (by omega) _).mono ?_); rintro e w1 ⟨r, rfl, hr, hb⟩
      have hk := hK.out _ _ hr hb
      exact hk
    · refine step_call hs (wants_none rfl) rfl fun L u W hJ hG hL hdep K hK => ?_
      have a0 := (show IsFs rR (u 1) [fn 5] from hG 1 (hdep 1 (by kernel_rfl)))
      go_simp
      go_at_call 55
      (with_reducible refine (kInv a0 _).mono ?_); rintro e w1 ⟨r, rfl, hr, hb⟩
      have hk := hK.out _ _ hr hb
      exact hk
    · refine step_call hs (wants_none rfl) rfl fun L u W hJ hG hL hdep K hK => ?_
      have a0 := (show IsFs rR (u 0) [fn 4] from hG 0 (hdep 0 (by kernel_rfl)))
      have a1 := (show IsFs rR (u 2) [finv (fn 5)] from hG 2 (hdep 2 (by kernel_rfl)))
      go_simp
      go_at_call 50
      (with_reducible refine (kMul a0 a1 _).mono ?_); rintro e w1 ⟨r, rfl, hr, hb⟩
      have hk := hK.out _ _ hr hb
      exact hk
    · exact step_alloc hs (wants_none rfl) rfl rfl (by omega) rfl allocFe
    · exact step_store 4 hs (by kernel_rfl) (wants_none rfl) rfl rfl rfl (by kernel_rfl) (by kernel_rfl) (by kernel_rfl) (by kernel_rfl) (fun _ => rfl) (gives_op 3 rfl (by kernel_rfl) (fun _ => rfl)) tyFe rfl
  intro L1 u1 W1 hall hJ hG
  obtain ⟨q1, e1, hq1, _, ht1⟩ := (show ∃ g, u1 4 = .pointer (some ⟨g, 0, none⟩) ∧ W0.heap.size ≤ g ∧ 0 < 16 ∧ W1.there g 0 16 from hG 4 (by simp))
  have hm1 : HasFs rR W1 q1 0 [(fn 4) * (finv (fn 5))] := by
    obtain ⟨g, e, _, h⟩ := (show ∃ g, u1 4 = .pointer (some ⟨g, 0, none⟩) ∧ W0.heap.size ≤ g ∧ HasFs rR W1 g 0 [(fn 4) * (finv (fn 5))] from hG 5 (by simp))
    rw [e1] at e; cases e; exact h
  have HD1_q0 := Lib.hid (show q0 ≠ q1 by have := there_lt ht0 (by omega); omega)
  have hq1 : w.heap.size ≤ q1 := by have := hbel0.size; omega
  have E1 := Lib.hid e1; clear e1
  have hb := hJ.all rfl
  have hbel := Below.call hbel hb
  have ht0 := there_later ht0 hb
  have hbel0 := hbel
  clear hJ hG hall hb
  go_upto_region 2 with fail
  refine wp_region_turn (fun u => #[u0 0, u1 4, u 6, u 8, u1 0, u1 1, u1 2, u1 3, u 3, u 0, u 1, u 2, u 4, u 5, undef]) (Holds [.val rR [(fn 4) * (finv (fn 5))], .rdt (leB 32 ((fn 4) * (finv (fn 5))).val) 2, .oth (fun v => IsTV rQ v [base] (.int .i64 0)), .oth (fun v => IsTV rQ v [base] (.int .i64 0)), .val rQ [base], .oth (fun v => v = .int .i64 0), .new 48, .st 6 rQ [base], .oth (fun v => v = .int .i64 0)] W1) (Keep [.val rR [(fn 4) * (finv (fn 5))], .rdt (leB 32 ((fn 4) * (finv (fn 5))).val) 2, .oth (fun v => IsTV rQ v [base] (.int .i64 0)), .oth (fun v => IsTV rQ v [base] (.int .i64 0)), .val rQ [base], .oth (fun v => v = .int .i64 0), .new 48, .st 6 rQ [base], .oth (fun v => v = .int .i64 0)] W1) (fun _ => undef) ?_ (by rfl) Keep.start (holds_soft (by kernel_rfl)) ?_ ?_
  · intro u i v h
    rcases i with _ | _ | _ | _ | _ | _ | _ | _ | _ | i
    all_goals first | (simp [Act.put, putV]; done) | (exfalso; simp at h; omega)
  · intro hs
    refine ⟨?_, ?_, ?_, ?_, ?_, ?_, ?_, ?_, ?_, trivial⟩
    · exact step_load q1 0 hs (wants_none rfl) rfl rfl tyFe (fun _ => E1.out) hm1.lt hm1 (noSto_apart (by kernel_rfl))
    · refine step_callRt hs (wants_none rfl) rfl fun L u W hJ hG hL hdep K hK => ?_
      have a0 := (show IsFs rR (u 0) [(fn 4) * (finv (fn 5))] from hG 0 (hdep 0 (by kernel_rfl)))
      go_simp
      go_at_call 69
      (with_reducible refine (kBytes a0 _).mono ?_); rintro e w1 ⟨g, n, cap, r, rfl, h1, h2, h3, h4, h5, hb⟩
      have hk := hK.out _ _ _ _ _ h1 h2 h3 h4 h5 hb
      exact hk
    · refine step_callO hs (wants_none rfl) rfl fun L u W hJ hG hL hdep K hK => ?_
      obtain ⟨gR0, nR0, cR0, rR0, x0, _, hRn0, hRc0, hRm0, hR0⟩ := (show ∃ g n cap r, u 1 = .slice (some ⟨g, 0, none⟩) n cap ∧ W1.heap.size ≤ g ∧ (leB 32 ((fn 4) * (finv (fn 5))).val).length = n ∧ n ≤ cap ∧ cap ≤ maxLen ∧ (L 2 = false → Blk W g ((leB 32 ((fn 4) * (finv (fn 5))).val).map bV ++ r) 5) from hG 1 (hdep 1 (by kernel_rfl)))
      have hB0 := RdB.blk rR0 (hR0 hL) hRn0 hRc0 hRm0
      go_simp
      go_at_call 11
      (with_reducible refine (kDecode dec_base2.1 dec_base2.2 hB0).mono ?_); rintro e w1 ⟨r, rfl, hr, hb⟩
      have hk := hK.out _ _ ⟨r, rfl, hr⟩ hb
      simp only [x0] at hk
      exact hk
    · exact step_pureO hs (wants_none rfl) rfl fun L u W hG hdep => ⟨_, run_move rfl, (show IsTV rQ (u 2) [base] (.int .i64 0) from hG 2 (hdep 2 (by kernel_rfl)))⟩
    · exact step_pure hs (wants_none rfl) rfl fun L u W hG hdep => run_extractV0 rfl (show IsTV rQ (u 3) [base] (.int .i64 0) from hG 3 (hdep 3 (by kernel_rfl)))
    · exact step_pureO hs (wants_none rfl) rfl fun L u W hG hdep => run_extractV1 rfl (show IsTV rQ (u 3) [base] (.int .i64 0) from hG 3 (hdep 3 (by kernel_rfl)))
    · exact step_alloc hs (wants_none rfl) rfl rfl (by omega) rfl allocPt
    · exact step_store 6 hs (by kernel_rfl) (wants_none rfl) rfl rfl rfl (by kernel_rfl) (by kernel_rfl) (by kernel_rfl) (by kernel_rfl) (fun _ => rfl) (gives_op 4 rfl (by kernel_rfl) (fun _ => rfl)) tyPt rfl
    · exact step_pureO hs (wants_none rfl) rfl fun L u W hG hdep => ⟨_, run_assign rfl, (show u 5 = .int .i64 0 from hG 5 (hdep 5 (by kernel_rfl)))⟩
  intro L2 u2 W2 hall hJ hG
  obtain ⟨q2, e2, hq2, _, ht2⟩ := (show ∃ g, u2 6 = .pointer (some ⟨g, 0, none⟩) ∧ W1.heap.size ≤ g ∧ 0 < 48 ∧ W2.there g 0 48 from hG 6 (by simp))
  have hm2 : HasFs rQ W2 q2 0 [base] := by
    obtain ⟨g, e, _, h⟩ := (show ∃ g, u2 6 = .pointer (some ⟨g, 0, none⟩) ∧ W1.heap.size ≤ g ∧ HasFs rQ W2 g 0 [base] from hG 7 (by simp))
    rw [e2] at e; cases e; exact h
  have HD2_q0 := Lib.hid (show q0 ≠ q2 by have := there_lt ht0 (by omega); omega)
  have HD2_q1 := Lib.hid (show q1 ≠ q2 by have := there_lt ht1 (by omega); omega)
  have hq2 : w.heap.size ≤ q2 := by have := hbel0.size; omega
  have E2 := Lib.hid e2; clear e2
  have hb := hJ.all rfl
  have hbel := Below.call hbel hb
  have hm1 := hm1.later hb
  have ht0 := there_later ht0 hb
  have ht1 := there_later ht1 hb
  have hbel0 := hbel
  clear hJ hG hall hb
  go_upto_region 3 with fail
  refine wp_region_turn (fun u => #[u0 0, u1 4, u2 6, u2 8, u1 0, u1 1, u1 2, u1 3, u2 3, u2 0, u2 1, u2 2, u2 4, u2 5, u 0]) (Holds [.val rQ [base], .sto q0 rQ [base]] W2) (Keep [.val rQ [base], .sto q0 rQ [base]] W2) (fun _ => undef) ?_ (by rfl) Keep.start (holds_soft (by kernel_rfl)) ?_ ?_
  · intro u i v h
    rcases i with _ | _ | i
    all_goals first | (simp [Act.put, putV]; done) | (exfalso; simp at h; omega)
  · intro hs
    refine ⟨?_, ?_, trivial⟩
    · exact step_load q2 0 hs (wants_none rfl) rfl rfl tyPt (fun _ => E2.out) hm2.lt hm2 (fun k g hk => by rcases k with _ | _ | k <;> first | (cases hk; done) | (cases hk; exact .inr HD2_q0.out))
    · refine step_storeO q0 48 hs (wants_none rfl) rfl rfl (by kernel_rfl) (fun k hk => ?_) (fun _ => E0.out) (there_lt ht0 (by omega)) ht0 (gives_op 0 rfl (by kernel_rfl) (fun _ => rfl)) tyPt rfl
      rcases k with _ | _ | k
      all_goals first | (exact absurd rfl hk) | (intro e; cases e; done)
  intro L3 u3 W3 hall hJ hG
  have hb : Below w.heap.size W2 W3 := hJ.below (by have := hbel.size; omega) (fun k b hf => by rcases k with _ | _ | k <;> first | (cases hf; done) | (cases hf; omega))
  have hbel := hbel.trans hb
  have hm1 := hm1.blk (hJ.block _ (hm1.lt) (fun k hk => by rcases k with _ | _ | k <;> first | (cases hk; done) | (cases hk; exact absurd rfl HD1_q0.out)))
  have hm2 := hm2.blk (hJ.block _ (hm2.lt) (fun k hk => by rcases k with _ | _ | k <;> first | (cases hk; done) | (cases hk; exact absurd rfl HD2_q0.out)))
  have ht1 := there_blk ht1 (hJ.block _ (there_lt ht1 (by omega)) (fun k hk => by rcases k with _ | _ | k <;> first | (cases hk; done) | (cases hk; exact absurd rfl HD1_q0.out)))
  have ht2 := there_blk ht2 (hJ.block _ (there_lt ht2 (by omega)) (fun k hk => by rcases k with _ | _ | k <;> first | (cases hk; done) | (cases hk; exact absurd rfl HD2_q0.out)))
  obtain ⟨_, hs3_1t, hs3_1⟩ := (show _ ∧ W3.there q0 0 48 ∧ HasFs rQ W3 q0 0 [base] from hG 1 (by simp))
  have hbel0 := hbel
  clear hJ hG hall hb
  go_wp2
  exact ret_cell1 (R := rQ) Try.results22 (by exact E0.out) hs3_1 tyPt rfl (fun r hr => ⟨r, rfl, hr, hbel⟩)
end Go.Proofs.Ytjchdhpijopikaa
namespace Go.Proofs.Ytjchdhpijopikaa
open Go Go.RowKit
set_option maxRecDepth 100000 in
set_option maxHeartbeats 4000000 in
theorem cIsP {v0 v1 : Value} {P : EP} (h0 : IsFs rP v0 [P]) (h1 : IsFs rQ v1 [P]) (w : World) :
    Calls Try.prog 12 #[v0, v1] w fun e w' => e = .returned (.bool true) ∧ Below w.heap.size w w' := by
  go_enter Try.func12, Try.ntmps12
  have hbel : Below w.heap.size w w := Below.refl _ _
  have hbel0 := hbel
  go_upto_region 0 with fail
  refine wp_region_turn (fun u => #[v0, v1, u 0, u 1, u 2, undef, undef, undef, undef, undef, undef, undef]) (Holds [.box rP [P], .box rQ [P], .oth (fun v => v = .bool false)] w) (Keep [.box rP [P], .box rQ [P], .oth (fun v => v = .bool false)] w) (fun _ => undef) ?_ (by rfl) Keep.start (holds_soft (by kernel_rfl)) ?_ ?_
  · intro u i v h
    rcases i with _ | _ | _ | i
    all_goals first | (simp [Act.put, putV]; done) | (exfalso; simp at h; omega)
  · intro hs
    refine ⟨?_, ?_, ?_, trivial⟩
    · exact step_box hs (wants_none rfl) rfl rfl (gives_c h0 (fun _ => rfl))
    · exact step_box hs (wants_none rfl) rfl rfl (gives_c h1 (fun _ => rfl))
    · exact step_pureO hs (wants_none rfl) rfl fun L u W hG hdep => ⟨_, run_assign rfl, rfl⟩
  intro L0 u0 W0 hall hJ hG
  obtain ⟨q2, e2, ⟨hq2, _⟩, ht2, hm2⟩ := (show ∃ g, u0 0 = .pointer (some ⟨g, 0, none⟩) ∧ (w.heap.size ≤ g ∧ g < W0.heap.size) ∧ W0.there g 0 20 ∧ HasFs rP W0 g 0 [P] from hG 0 (by simp))
  have hq2 : w.heap.size ≤ q2 := by have := hbel0.size; omega
  have E2 := Lib.hid e2; clear e2
  obtain ⟨q3, e3, ⟨hq3, _⟩, ht3, hm3⟩ := (show ∃ g, u0 1 = .pointer (some ⟨g, 0, none⟩) ∧ (w.heap.size ≤ g ∧ g < W0.heap.size) ∧ W0.there g 0 48 ∧ HasFs rQ W0 g 0 [P] from hG 1 (by simp))
  have hq3 : w.heap.size ≤ q3 := by have := hbel0.size; omega
  have E3 := Lib.hid e3; clear e3
  have hb := hJ.all rfl
  have hbel := Below.call hbel hb
  have HN2_3 := Lib.hid (show q2 ≠ q3 from fun e => hJ.apart 0 1 _ (by omega) (hall _ (by simp)) (hall _ (by simp)) rfl rfl (E2.out.trans (by rw [e])) E3.out)
  have HC4 := Lib.hid (show u0 2 = .bool false from hG 2 (by simp))
  have hbel0 := hbel
  clear hJ hG hall hb
  go_upto_region 1 with fail
  refine wp_region_mid (fun u => #[v0, v1, u0 0, u0 1, u 7, u 0, u 1, u 2, u 3, u 4, u 5, u 6]) (Holds [.val rP [P], .rd (encP P), .oth (fun v => v = (.string (bs (encP P)))), .val rQ [P], .rd (encP P), .oth (fun v => v = (.string (bs (encP P)))), .oth (fun v => v = .bool true), .oth (fun v => v = .bool true)] W0) (Keep [.val rP [P], .rd (encP P), .oth (fun v => v = (.string (bs (encP P)))), .val rQ [P], .rd (encP P), .oth (fun v => v = (.string (bs (encP P)))), .oth (fun v => v = .bool true), .oth (fun v => v = .bool true)] W0) (fun k => ((undef :: undef :: undef :: undef :: undef :: undef :: undef :: u0 2 :: []) : List Value).getD k undef) (by kernel_rfl) (by kernel_rfl) ?_ (by rfl) Keep.drew (holds_soft (by kernel_rfl)) ?_ ?_
  · intro u i v h
    rcases i with _ | _ | _ | _ | _ | _ | _ | _ | i
    all_goals first | (simp [Act.put, putV]; done) | (exfalso; simp at h; omega)
  · intro hs
    refine ⟨?_, ?_, ?_, ?_, ?_, ?_, ?_, ?_, trivial⟩
    · exact step_load q2 0 hs (wants_none rfl) rfl rfl tyP (fun _ => E2.out) hm2.lt hm2 (noSto_apart (by kernel_rfl))
    · refine step_callB hs (wants_none rfl) rfl fun L u W hJ hG hL hdep K hK => ?_
      have a0 := (show IsFs rP (u 0) [P] from hG 0 (hdep 0 (by kernel_rfl)))
      go_simp
      go_at_call 13
      (with_reducible refine (cEncode a0 _).mono ?_); rintro e w1 ⟨g, n, cap, r, rfl, h1, h2, h3, h4, h5, hb⟩
      have hk := hK.out _ _ _ _ _ h1 h2 h3 h4 h5 hb
      exact hk
    · exact step_conv 1 hs (wants_none rfl) rfl rfl rfl (by kernel_rfl) (fun _ => rfl)
    · exact step_load q3 0 hs (wants_none rfl) rfl rfl tyPt (fun _ => E3.out) hm3.lt hm3 (noSto_apart (by kernel_rfl))
    · refine step_callB hs (wants_none rfl) rfl fun L u W hJ hG hL hdep K hK => ?_
      have a0 := (show IsFs rQ (u 3) [P] from hG 3 (hdep 3 (by kernel_rfl)))
      go_simp
      go_at_call 58
      (with_reducible refine (kEncode a0 _).mono ?_); rintro e w1 ⟨g, n, cap, r, rfl, h1, h2, h3, h4, h5, hb⟩
      have hk := hK.out _ _ _ _ _ h1 h2 h3 h4 h5 hb
      exact hk
    · exact step_conv 4 hs (wants_none rfl) rfl rfl rfl (by kernel_rfl) (fun _ => rfl)
    · exact step_pureO hs (wants_none rfl) rfl fun L u W hG hdep => ⟨_, run_eqlS rfl (show u 2 = (.string (bs (encP P))) from hG 2 (hdep 2 (by kernel_rfl))) (show u 5 = (.string (bs (encP P))) from hG 5 (hdep 5 (by kernel_rfl))), by simp⟩
    · exact step_pureO hs (wants_none rfl) rfl fun L u W hG hdep => ⟨_, run_assign rfl, (show u 6 = .bool true from hG 6 (hdep 6 (by kernel_rfl)))⟩
  intro L1 u1 W1 hall hJ hG
  have hb := hJ.all rfl
  have hbel := Below.call hbel hb
  have hm2 := hm2.later hb
  have hm3 := hm3.later hb
  have ht2 := there_later ht2 hb
  have ht3 := there_later ht3 hb
  have HC11 := Lib.hid (show u1 6 = .bool true from hG 6 (by simp))
  have HC4 := Lib.hid (show u1 7 = .bool true from hG 7 (by simp))
  have hbel0 := hbel
  clear hJ hG hall hb
  rw [HC4.out]
  go_wp2
  go_ret
  exact ⟨rfl, hbel⟩
theorem dec_nil : decV [] = Cp.zero ∧ decC [] = 12 := dec_len (by simp)
theorem times_nat {k : Nat} {P : EP} (h : k ≤ 2147483648) : timesP (k : Nat) P = Cp.mul k P := by
  unfold timesP; rw [if_pos (by omega)]; rfl
theorem dec_no {l : List UInt8} (h : ¬ decC l = 0) : decC l = 12 := by
  unfold decC at *
  split
  · rename_i h1; rw [if_pos h1] at h; exact absurd rfl h
  · rfl
theorem dec_back {l : List UInt8} (h : decC l = 0) : encP (decV l) = l := by
  unfold decC at h
  unfold decV
  cases h1 : decP l with
  | none => rw [h1] at h; simp at h
  | some P => exact enc_dec h1
theorem byte_k (n k : Nat) : IntKind.u8.wrap ((n : Int) / (k : Nat)) = ((UInt8.ofNat (n / k)).toNat : Int) := by
  rw [wrap8, show ((n : Int) / (k : Nat)) = ((n / k : Nat) : Int) from by simp]
  simp
theorem byte_0 (n : Nat) : IntKind.u8.wrap (n : Int) = ((UInt8.ofNat (n / 1)).toNat : Int) := by
  rw [wrap8, Nat.div_one]
  simp
theorem wide_four {k : Nat} (h : k ≤ 2147483648) : wS [UInt8.ofNat (k / 1), UInt8.ofNat (k / 256), UInt8.ofNat (k / 65536), UInt8.ofNat (k / 16777216)] = fn k := by
  unfold wS
  have e : leN (first [UInt8.ofNat (k / 1), UInt8.ofNat (k / 256), UInt8.ofNat (k / 65536), UInt8.ofNat (k / 16777216)] 64) = k := by
    rw [leN_first]
    show leN [UInt8.ofNat (k / 1), UInt8.ofNat (k / 256), UInt8.ofNat (k / 65536), UInt8.ofNat (k / 16777216)] = k
    simp [leN]
    omega
  rw [e, Nat.mod_eq_of_lt (by unfold Lq; omega)]
theorem at_k {W : World} {g E : Nat} {LB : List UInt8} {r : List Value} (k : Nat) (h : k < LB.length) (hB : Blk W g (LB.map bV ++ r) E) : W.cell? ⟨g, k, none⟩ = some (bV LB[k]) := by
  rw [hB.cell, List.getElem?_append_left (by simpa using h), List.getElem?_map, List.getElem?_eq_getElem h]; rfl
set_option maxRecDepth 100000 in
set_option maxHeartbeats 4000000 in
theorem law8awake_any  (w : World) :
    Calls Try.prog 9 #[] w fun e w' => e = .returned (.bool true) ∧ Below w.heap.size w w' := by
  go_enter Try.func9, Try.ntmps9
  have hbel : Below w.heap.size w w := Below.refl _ _
  have hbel0 := hbel
  go_upto_region 0 with fail
  refine wp_region_turn (fun u => #[u 0, undef, undef, undef, undef, undef, undef, undef, undef, undef, undef, undef, undef, undef, undef, undef, undef, undef, undef, undef, undef, undef, undef, undef, undef, undef, undef, undef, undef, undef, undef, undef, undef, undef, undef, undef, undef, undef, undef]) (Holds [.oth (fun v => v = .bool false)] w) (Keep [.oth (fun v => v = .bool false)] w) (fun _ => undef) ?_ (by rfl) Keep.start (holds_soft (by kernel_rfl)) ?_ ?_
  · intro u i v h
    rcases i with _ | i
    all_goals first | (simp [Act.put, putV]; done) | (exfalso; simp at h; omega)
  · intro hs
    refine ⟨?_, trivial⟩
    · exact step_pureO hs (wants_none rfl) rfl fun L u W hG hdep => ⟨_, run_assign rfl, rfl⟩
  intro L0 u0 W0 hall hJ hG
  have hb := hJ.all rfl
  have hbel := Below.call hbel hb
  have HC0 := Lib.hid (show u0 0 = .bool false from hG 0 (by simp))
  have hbel0 := hbel
  clear hJ hG hall hb
  go_upto_region 1 with fail
  refine wp_region_turn (fun u => #[u0 0, u 2, undef, undef, u 0, u 1, undef, undef, undef, undef, undef, undef, undef, undef, undef, undef, undef, undef, undef, undef, undef, undef, undef, undef, undef, undef, undef, undef, undef, undef, undef, undef, undef, undef, undef, undef, undef, undef, undef]) (Holds [.val rP [base], .rd (encP base), .rd (encP base)] W0) (Keep [.val rP [base], .rd (encP base), .rd (encP base)] W0) (fun _ => undef) ?_ (by rfl) Keep.start (holds_soft (by kernel_rfl)) ?_ ?_
  · intro u i v h
    rcases i with _ | _ | _ | i
    all_goals first | (simp [Act.put, putV]; done) | (exfalso; simp at h; omega)
  · intro hs
    refine ⟨?_, ?_, ?_, trivial⟩
    · refine step_call hs (wants_none rfl) rfl fun L u W hJ hG hL hdep K hK => ?_
      go_simp
      go_at_call 16
      (with_reducible refine (cBase _).mono ?_); rintro e w1 ⟨r, rfl, hr, hb⟩
      have hk := hK.out _ _ hr hb
      exact hk
    · refine step_callB hs (wants_none rfl) rfl fun L u W hJ hG hL hdep K hK => ?_
      have a0 := (show IsFs rP (u 0) [base] from hG 0 (hdep 0 (by kernel_rfl)))
      go_simp
      go_at_call 13
      (with_reducible refine (cEncode a0 _).mono ?_); rintro e w1 ⟨g, n, cap, r, rfl, h1, h2, h3, h4, h5, hb⟩
      have hk := hK.out _ _ _ _ _ h1 h2 h3 h4 h5 hb
      exact hk
    · exact step_moveB 1 hs (wants_none rfl) rfl (by first | exact .inl rfl | exact .inr rfl) rfl (by kernel_rfl) (fun _ => rfl)
  intro L1 u1 W1 hall hJ hG
  obtain ⟨gB2, nB2, cB2, rB2, eB2, hgB2, hB2, hlB2, hcB2, hmB2⟩ := (show ∃ g n cap r, u1 2 = .slice (some ⟨g, 0, none⟩) n cap ∧ W0.heap.size ≤ g ∧ Blk W1 g ((encP base).map bV ++ r) 5 ∧ (encP base).length = n ∧ n ≤ cap ∧ cap ≤ maxLen from hG 2 (by simp))
  have hgB2 : w.heap.size ≤ gB2 := by have := hbel0.size; omega
  have EB2 := Lib.hid eB2; clear eB2
  obtain rfl : nB2 = 32 := by have h : (((encP base).length : Nat) : Int) = 32 := (by rw [encP_len]; rfl); omega
  have HB2 := Lib.hid hB2; clear hB2
  have hb := hJ.all rfl
  have hbel := Below.call hbel hb
  have hbel0 := hbel
  clear hJ hG hall hb
  go_upto_region 2 with fail
  refine wp_region_turn (fun u => #[u0 0, u1 2, u 4, u 6, u1 0, u1 1, u 1, u 0, u 2, u 3, undef, undef, undef, undef, undef, undef, undef, undef, undef, undef, undef, undef, undef, undef, undef, undef, undef, undef, undef, undef, undef, undef, undef, undef, undef, undef, undef, undef, undef]) (Holds [.oth (fun v => IsTV rP v [Cp.zero] (.int .i64 12)), .oth (fun v => IsTV rP v [Cp.zero] (.int .i64 12)), .val rP [Cp.zero], .oth (fun v => v = .int .i64 12), .new 20, .st 4 rP [Cp.zero], .oth (fun v => v = .int .i64 12)] W1) (Keep [.oth (fun v => IsTV rP v [Cp.zero] (.int .i64 12)), .oth (fun v => IsTV rP v [Cp.zero] (.int .i64 12)), .val rP [Cp.zero], .oth (fun v => v = .int .i64 12), .new 20, .st 4 rP [Cp.zero], .oth (fun v => v = .int .i64 12)] W1) (fun _ => undef) ?_ (by rfl) Keep.start (holds_soft (by kernel_rfl)) ?_ ?_
  · intro u i v h
    rcases i with _ | _ | _ | _ | _ | _ | _ | i
    all_goals first | (simp [Act.put, putV]; done) | (exfalso; simp at h; omega)
  · intro hs
    refine ⟨?_, ?_, ?_, ?_, ?_, ?_, ?_, trivial⟩
    · refine step_callO hs (wants_none rfl) rfl fun L u W hJ hG hL hdep K hK => ?_
      have hRB0 := RdB.nil W
      go_simp
      go_at_call 10
      (with_reducible refine (cDecode dec_nil.1 dec_nil.2 hRB0).mono ?_); rintro e w1 ⟨r, rfl, hr, hb⟩
      have hk := hK.out _ _ ⟨r, rfl, hr⟩ hb
      exact hk
    · exact step_pureO hs (wants_none rfl) rfl fun L u W hG hdep => ⟨_, run_move rfl, (show IsTV rP (u 0) [Cp.zero] (.int .i64 12) from hG 0 (hdep 0 (by kernel_rfl)))⟩
    · exact step_pure hs (wants_none rfl) rfl fun L u W hG hdep => run_extractV0 rfl (show IsTV rP (u 1) [Cp.zero] (.int .i64 12) from hG 1 (hdep 1 (by kernel_rfl)))
    · exact step_pureO hs (wants_none rfl) rfl fun L u W hG hdep => run_extractV1 rfl (show IsTV rP (u 1) [Cp.zero] (.int .i64 12) from hG 1 (hdep 1 (by kernel_rfl)))
    · exact step_alloc hs (wants_none rfl) rfl rfl (by omega) rfl allocP
    · exact step_store 4 hs (by kernel_rfl) (wants_none rfl) rfl rfl rfl (by kernel_rfl) (by kernel_rfl) (by kernel_rfl) (by kernel_rfl) (fun _ => rfl) (gives_op 2 rfl (by kernel_rfl) (fun _ => rfl)) tyP rfl
    · exact step_pureO hs (wants_none rfl) rfl fun L u W hG hdep => ⟨_, run_assign rfl, (show u 3 = .int .i64 12 from hG 3 (hdep 3 (by kernel_rfl)))⟩
  intro L2 u2 W2 hall hJ hG
  obtain ⟨q2, e2, hq2, _, ht2⟩ := (show ∃ g, u2 4 = .pointer (some ⟨g, 0, none⟩) ∧ W1.heap.size ≤ g ∧ 0 < 20 ∧ W2.there g 0 20 from hG 4 (by simp))
  have hm2 : HasFs rP W2 q2 0 [Cp.zero] := by
    obtain ⟨g, e, _, h⟩ := (show ∃ g, u2 4 = .pointer (some ⟨g, 0, none⟩) ∧ W1.heap.size ≤ g ∧ HasFs rP W2 g 0 [Cp.zero] from hG 5 (by simp))
    rw [e2] at e; cases e; exact h
  have hq2 : w.heap.size ≤ q2 := by have := hbel0.size; omega
  have E2 := Lib.hid e2; clear e2
  have hb := hJ.all rfl
  have hbel := Below.call hbel hb
  have HB2 := Lib.hid (HB2.out.below' hb)
  have HC3 := Lib.hid (show u2 6 = .int .i64 12 from hG 6 (by simp))
  have hbel0 := hbel
  clear hJ hG hall hb
  have HE := base_enc
  rw [HE] at HB2
  have HK0 := Lib.hid (show W2.cell? ⟨gB2, 0, none⟩ = some (.int .u8 88) from at_k 0 (by decide) HB2.out)
  have HK1 := Lib.hid (show W2.cell? ⟨gB2, 1, none⟩ = some (.int .u8 102) from at_k 1 (by decide) HB2.out)
  have HK31 := Lib.hid (show W2.cell? ⟨gB2, 31, none⟩ = some (.int .u8 102) from at_k 31 (by decide) HB2.out)
  clear HE HB2
  go_upto_region 3 with fail
  refine wp_region_turn (fun u => #[u 29, u1 2, u2 4, u2 6, u1 0, u1 1, u2 1, u2 0, u2 2, u2 3, u 0, u 1, u 2, u 3, u 4, u 5, u 6, u 7, u 8, u 9, u 10, u 11, u 12, u 13, u 14, u 15, u 16, u 17, u 18, u 19, u 20, u 21, u 22, u 23, u 24, u 25, u 26, u 27, u 28]) (Holds [.oth (fun v => v = .slice (some ⟨gB2, 0, none⟩) 32 cB2), .oth (fun v => v = .int .i64 32), .oth (fun v => v = .bool true), .oth (fun v => v = .bool true), .oth (fun v => v = .slice (some ⟨gB2, 0, none⟩) 32 cB2), .oth (fun v => v = .pointer (some ⟨gB2, 0, none⟩)), .oth (fun v => v = .int .u8 88), .oth (fun v => v = .bool true), .oth (fun v => v = .bool true), .oth (fun v => v = .bool true), .oth (fun v => v = .slice (some ⟨gB2, 0, none⟩) 32 cB2), .oth (fun v => v = .pointer (some ⟨gB2, 1, none⟩)), .oth (fun v => v = .int .u8 102), .oth (fun v => v = .bool true), .oth (fun v => v = .bool true), .oth (fun v => v = .bool true), .oth (fun v => v = .slice (some ⟨gB2, 0, none⟩) 32 cB2), .oth (fun v => v = .pointer (some ⟨gB2, 31, none⟩)), .oth (fun v => v = .int .u8 102), .oth (fun v => v = .bool true), .oth (fun v => v = .bool true), .oth (fun v => v = .bool true), .oth (fun v => v = .int .i64 12), .oth (fun v => v = .bool true), .oth (fun v => v = .bool true), .oth (fun v => v = .bool true), .val rP [Cp.zero], .oth (fun v => v = .bool true), .oth (fun v => v = .bool true), .oth (fun v => v = .bool true)] W2) (Keep [.oth (fun v => v = .slice (some ⟨gB2, 0, none⟩) 32 cB2), .oth (fun v => v = .int .i64 32), .oth (fun v => v = .bool true), .oth (fun v => v = .bool true), .oth (fun v => v = .slice (some ⟨gB2, 0, none⟩) 32 cB2), .oth (fun v => v = .pointer (some ⟨gB2, 0, none⟩)), .oth (fun v => v = .int .u8 88), .oth (fun v => v = .bool true), .oth (fun v => v = .bool true), .oth (fun v => v = .bool true), .oth (fun v => v = .slice (some ⟨gB2, 0, none⟩) 32 cB2), .oth (fun v => v = .pointer (some ⟨gB2, 1, none⟩)), .oth (fun v => v = .int .u8 102), .oth (fun v => v = .bool true), .oth (fun v => v = .bool true), .oth (fun v => v = .bool true), .oth (fun v => v = .slice (some ⟨gB2, 0, none⟩) 32 cB2), .oth (fun v => v = .pointer (some ⟨gB2, 31, none⟩)), .oth (fun v => v = .int .u8 102), .oth (fun v => v = .bool true), .oth (fun v => v = .bool true), .oth (fun v => v = .bool true), .oth (fun v => v = .int .i64 12), .oth (fun v => v = .bool true), .oth (fun v => v = .bool true), .oth (fun v => v = .bool true), .val rP [Cp.zero], .oth (fun v => v = .bool true), .oth (fun v => v = .bool true), .oth (fun v => v = .bool true)] W2) (fun k => ((undef :: undef :: undef :: undef :: undef :: undef :: undef :: undef :: undef :: undef :: undef :: undef :: undef :: undef :: undef :: undef :: undef :: undef :: undef :: undef :: undef :: undef :: undef :: undef :: undef :: undef :: undef :: undef :: undef :: u0 0 :: []) : List Value).getD k undef) ?_ (by rfl) Keep.start (holds_soft (by kernel_rfl)) ?_ ?_
  · intro u i v h
    rcases i with _ | _ | _ | _ | _ | _ | _ | _ | _ | _ | _ | _ | _ | _ | _ | _ | _ | _ | _ | _ | _ | _ | _ | _ | _ | _ | _ | _ | _ | _ | i
    iterate 30 kernel_rfl
    exfalso; simp at h; omega
  · intro hs
    refine ⟨?_, ?_, ?_, ?_, ?_, ?_, ?_, ?_, ?_, ?_, ?_, ?_, ?_, ?_, ?_, ?_, ?_, ?_, ?_, ?_, ?_, ?_, ?_, ?_, ?_, ?_, ?_, ?_, ?_, ?_, trivial⟩
    · exact step_pureO hs (wants_none rfl) rfl fun L u W hG hdep => ⟨_, run_move rfl, EB2.out⟩
    · refine step_pureO hs (wants_none rfl) rfl fun L u W hG hdep => ⟨_, ?_, rfl⟩
      have e0 := (show u 0 = .slice (some ⟨gB2, 0, none⟩) 32 cB2 from hG 0 (hdep 0 (by kernel_rfl)))
      go_simp
    · refine step_pureO hs (wants_none rfl) rfl fun L u W hG hdep => ⟨_, ?_, rfl⟩
      have e0 := (show u 1 = .int .i64 32 from hG 1 (hdep 1 (by kernel_rfl)))
      go_simp
      try simp [bne]
    · exact step_pureO hs (wants_none rfl) rfl fun L u W hG hdep => ⟨_, run_move rfl, (show u 2 = .bool true from hG 2 (hdep 2 (by kernel_rfl)))⟩
    · exact step_pureO hs (wants_on 3 rfl rfl (by kernel_rfl) (fun _ => rfl)) rfl fun L u W hG hdep => ⟨_, run_move rfl, EB2.out⟩
    · refine step_pureO hs (wants_on 3 rfl rfl (by kernel_rfl) (fun _ => rfl)) rfl fun L u W hG hdep => ⟨_, ?_, rfl⟩
      have e0 := (show u 4 = .slice (some ⟨gB2, 0, none⟩) 32 cB2 from hG 4 (hdep 4 (by kernel_rfl)))
      go_simp
    · exact step_cell gB2 0 hs (wants_on 3 rfl rfl (by kernel_rfl) (fun _ => rfl)) rfl rfl (fun _ h => load_u8 h) (fun L u W hG hdep => (show u 5 = .pointer (some ⟨gB2, 0, none⟩) from hG 5 (hdep 5 (by kernel_rfl)))) HK0.out (noSto_apart (by kernel_rfl))
    · refine step_pureO hs (wants_on 3 rfl rfl (by kernel_rfl) (fun _ => rfl)) rfl fun L u W hG hdep => ⟨_, ?_, rfl⟩
      have e0 := (show u 6 = .int .u8 88 from hG 6 (hdep 6 (by kernel_rfl)))
      go_simp
      try simp [bne]
    · exact step_pick true hs (wants_none rfl) rfl rfl (fun L u W hG hdep => (show u 3 = .bool true from hG 3 (hdep 3 (by kernel_rfl)))) (fun L u W hG hdep => (show u 7 = .bool true from hG 7 (hdep 7 (by kernel_rfl))))
    · exact step_pureO hs (wants_none rfl) rfl fun L u W hG hdep => ⟨_, run_move rfl, (show u 8 = .bool true from hG 8 (hdep 8 (by kernel_rfl)))⟩
    · exact step_pureO hs (wants_on 9 rfl rfl (by kernel_rfl) (fun _ => rfl)) rfl fun L u W hG hdep => ⟨_, run_move rfl, EB2.out⟩
    · refine step_pureO hs (wants_on 9 rfl rfl (by kernel_rfl) (fun _ => rfl)) rfl fun L u W hG hdep => ⟨_, ?_, rfl⟩
      have e0 := (show u 10 = .slice (some ⟨gB2, 0, none⟩) 32 cB2 from hG 10 (hdep 10 (by kernel_rfl)))
      go_simp
    · exact step_cell gB2 1 hs (wants_on 9 rfl rfl (by kernel_rfl) (fun _ => rfl)) rfl rfl (fun _ h => load_u8 h) (fun L u W hG hdep => (show u 11 = .pointer (some ⟨gB2, 1, none⟩) from hG 11 (hdep 11 (by kernel_rfl)))) HK1.out (noSto_apart (by kernel_rfl))
    · refine step_pureO hs (wants_on 9 rfl rfl (by kernel_rfl) (fun _ => rfl)) rfl fun L u W hG hdep => ⟨_, ?_, rfl⟩
      have e0 := (show u 12 = .int .u8 102 from hG 12 (hdep 12 (by kernel_rfl)))
      go_simp
      try simp [bne]
    · exact step_pick true hs (wants_none rfl) rfl rfl (fun L u W hG hdep => (show u 9 = .bool true from hG 9 (hdep 9 (by kernel_rfl)))) (fun L u W hG hdep => (show u 13 = .bool true from hG 13 (hdep 13 (by kernel_rfl))))
    · exact step_pureO hs (wants_none rfl) rfl fun L u W hG hdep => ⟨_, run_move rfl, (show u 14 = .bool true from hG 14 (hdep 14 (by kernel_rfl)))⟩
    · exact step_pureO hs (wants_on 15 rfl rfl (by kernel_rfl) (fun _ => rfl)) rfl fun L u W hG hdep => ⟨_, run_move rfl, EB2.out⟩
    · refine step_pureO hs (wants_on 15 rfl rfl (by kernel_rfl) (fun _ => rfl)) rfl fun L u W hG hdep => ⟨_, ?_, rfl⟩
      have e0 := (show u 16 = .slice (some ⟨gB2, 0, none⟩) 32 cB2 from hG 16 (hdep 16 (by kernel_rfl)))
      go_simp
    · exact step_cell gB2 31 hs (wants_on 15 rfl rfl (by kernel_rfl) (fun _ => rfl)) rfl rfl (fun _ h => load_u8 h) (fun L u W hG hdep => (show u 17 = .pointer (some ⟨gB2, 31, none⟩) from hG 17 (hdep 17 (by kernel_rfl)))) HK31.out (noSto_apart (by kernel_rfl))
    · refine step_pureO hs (wants_on 15 rfl rfl (by kernel_rfl) (fun _ => rfl)) rfl fun L u W hG hdep => ⟨_, ?_, rfl⟩
      have e0 := (show u 18 = .int .u8 102 from hG 18 (hdep 18 (by kernel_rfl)))
      go_simp
      try simp [bne]
    · exact step_pick true hs (wants_none rfl) rfl rfl (fun L u W hG hdep => (show u 15 = .bool true from hG 15 (hdep 15 (by kernel_rfl)))) (fun L u W hG hdep => (show u 19 = .bool true from hG 19 (hdep 19 (by kernel_rfl))))
    · exact step_pureO hs (wants_none rfl) rfl fun L u W hG hdep => ⟨_, run_move rfl, (show u 20 = .bool true from hG 20 (hdep 20 (by kernel_rfl)))⟩
    · exact step_pureO hs (wants_on 21 rfl rfl (by kernel_rfl) (fun _ => rfl)) rfl fun L u W hG hdep => ⟨_, run_move rfl, HC3.out⟩
    · refine step_pureO hs (wants_on 21 rfl rfl (by kernel_rfl) (fun _ => rfl)) rfl fun L u W hG hdep => ⟨_, ?_, rfl⟩
      have e0 := (show u 22 = .int .i64 12 from hG 22 (hdep 22 (by kernel_rfl)))
      go_simp
      try simp [bne]
    · exact step_pick true hs (wants_none rfl) rfl rfl (fun L u W hG hdep => (show u 21 = .bool true from hG 21 (hdep 21 (by kernel_rfl)))) (fun L u W hG hdep => (show u 23 = .bool true from hG 23 (hdep 23 (by kernel_rfl))))
    · exact step_pureO hs (wants_none rfl) rfl fun L u W hG hdep => ⟨_, run_move rfl, (show u 24 = .bool true from hG 24 (hdep 24 (by kernel_rfl)))⟩
    · exact step_pure hs (wants_on 25 rfl rfl (by kernel_rfl) (fun _ => rfl)) rfl fun L u W hG hdep => run_build0 rfl (build_P0 W)
    · refine step_callO hs (wants_on 25 rfl rfl (by kernel_rfl) (fun _ => rfl)) rfl fun L u W hJ hG hL hdep K hK => ?_
      have a0 := (show IsFs rP (u 26) [Cp.zero] from hG 26 (hdep 26 (by kernel_rfl)))
      go_simp
      go_at_call 14
      (with_reducible refine (cPSmall (b := true) (decide_eq_true (Cp.mul_zero 8)) a0 _).mono ?_); rintro e w1 ⟨rfl, hb⟩
      have hk := hK.out _ _ rfl hb
      exact hk
    · exact step_pick true hs (wants_none rfl) rfl rfl (fun L u W hG hdep => (show u 25 = .bool true from hG 25 (hdep 25 (by kernel_rfl)))) (fun L u W hG hdep => (show u 27 = .bool true from hG 27 (hdep 27 (by kernel_rfl))))
    · exact step_pureO hs (wants_none rfl) rfl fun L u W hG hdep => ⟨_, run_assign rfl, (show u 28 = .bool true from hG 28 (hdep 28 (by kernel_rfl)))⟩
  intro L3 u3 W3 hall hJ hG
  have hb := hJ.all rfl
  have hbel := Below.call hbel hb
  have hm2 := hm2.later hb
  have ht2 := there_later ht2 hb
  have HC12 := Lib.hid (show u3 2 = .bool true from hG 2 (by simp))
  have HC13 := Lib.hid (show u3 3 = .bool true from hG 3 (by simp))
  have HC17 := Lib.hid (show u3 7 = .bool true from hG 7 (by simp))
  have HC18 := Lib.hid (show u3 8 = .bool true from hG 8 (by simp))
  have HC19 := Lib.hid (show u3 9 = .bool true from hG 9 (by simp))
  have HC23 := Lib.hid (show u3 13 = .bool true from hG 13 (by simp))
  have HC24 := Lib.hid (show u3 14 = .bool true from hG 14 (by simp))
  have HC25 := Lib.hid (show u3 15 = .bool true from hG 15 (by simp))
  have HC29 := Lib.hid (show u3 19 = .bool true from hG 19 (by simp))
  have HC30 := Lib.hid (show u3 20 = .bool true from hG 20 (by simp))
  have HC31 := Lib.hid (show u3 21 = .bool true from hG 21 (by simp))
  have HC33 := Lib.hid (show u3 23 = .bool true from hG 23 (by simp))
  have HC34 := Lib.hid (show u3 24 = .bool true from hG 24 (by simp))
  have HC35 := Lib.hid (show u3 25 = .bool true from hG 25 (by simp))
  have HC37 := Lib.hid (show u3 27 = .bool true from hG 27 (by simp))
  have HC38 := Lib.hid (show u3 28 = .bool true from hG 28 (by simp))
  have HC0 := Lib.hid (show u3 29 = .bool true from hG 29 (by simp))
  have hbel0 := hbel
  clear hJ hG hall hb
  rw [HC0.out]
  go_wp2
  go_ret
  exact ⟨rfl, hbel⟩
end Go.Proofs.Ytjchdhpijopikaa
