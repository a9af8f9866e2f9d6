/- What EY rests on, part 5 of 5: my own texts, put together (merge.py). -/
import Derived.Deep.RegionHeld3
import Derived.WalkKit
import Derived.ProofKit
import Derived.Lib.Hide
import Derived.OpenShut
import Derived.Deep.MidRow
import Derived.Test.YtielgpefoameiaaGreatRows
import Derived.WalkSpells
import Derived.StillTactics
import Derived.Laws.Pointers
import Derived.Laws.CopyOwn
import Derived.Laws.AppendOwnNone
import Derived.RowKit3
import Derived.BigQuiet
import Derived.Deep.QuietTactic
import Derived.Deep.LoopGhost
import Derived.Deep.DeepFit
import Derived.WalkLawsBesides
import Derived.Shelf.Spec.BitsCarry
import Derived.Laws.IdiomStrings
import Derived.Deep.WholeRow
import Derived.Laws.Rows
import Derived.Deep.DeepCutAuto
import Derived.Lib.AppendZerosOnto
import Derived.Lib.SliceRun
import Derived.Deep.Matrix
import Derived.Deep.AppendLies
import Derived.ShutString
import Derived.ChangeOld
import Derived.Test.YtielgpefoameiaaGreatZEYD
namespace Go.Proofs.YtielgpefoameiaaGreat
open Go Go.RowKit
theorem or_nil (c : UInt8) : bits BinOp.or IntKind.u8 (c.toNat : Int) 0 = (c.toNat : Int) := by
 rw [show (0 : Int) = ((0 : Nat) : Int) from rfl, u8_or_nat _ _ c.toNat_lt (by decide)]; simp
theorem set_same {LB : List UInt8} {d : UInt8} (h : LB.length = 32) (hd : LB.getD 31 0 = d) : LB.set 31 d = LB := by
 rw [← hd, List.getD_eq_getElem?_getD, List.getElem?_eq_getElem (by omega)]
 exact List.set_getElem_self _
set_option maxRecDepth 100000 in
set_option maxHeartbeats 4000000 in
theorem qenc_o {v0 : Value} {P : EP} {X Y Z : F} (hp : P.x.val % 2 = 1) (hpp : Prep P X Y Z) (h0 : IsFs rR v0 [X, Y, Z]) (w : World) :
  Calls Tryz.prog 36 #[v0] w fun e w' => ∃ g n cap r, e = .returned (.slice (some ⟨g, 0, none⟩) n cap) ∧ w.heap.size ≤ g ∧ Blk w' g ((encP P).map bV ++ r) 5 ∧ (encP P).length = n ∧ n ≤ cap ∧ cap ≤ maxLen ∧ Below w.heap.size w w' := by
 have HP := Lib.hid hp; clear hp
 go_enter Tryz.func36, Tryz.ntmps36
 have hbel : Below w.heap.size w w := Below.refl _ _
 have hbel0 := hbel
 go_upto_region 0 with fail
 refine rgT [(1, 0), (0, 1)] [.box rR [X, Y, Z], .oth (fun v => v = .slice none 0 0)] ?_ ?_
 ·intro hs
  refine ⟨?_, ?_, trivial⟩
  ·exact step_box hs Wn rfl rfl (gives_c h0 (fun _ => rfl))
  ·exact mvK hs fun _ => rfl
 intro L0 u0 W0 hall hJ hG
 obtain ⟨q1, e1, ⟨hq1, _⟩, ht1, hm1⟩ := oB 48 rR [X, Y, Z] hG 0
 have hq1 : w.heap.size ≤ q1 := by have := hbel0.size; omega
 have E1 := Lib.hid e1; clear e1
 have hb := hJ.all rfl
 have hbel := Below.call hbel hb
 have HC2 := oC (.slice none 0 0) hG 1
 have hbel0 := hbel
 clear hJ hG hall hb
 go_upto_region 1 with fail
 refine rgT [(3, 3), (2, 0), (0, 1), (0, 2)] [.ptr q1 32, .val rR [Z], .val rR [finv Z], .new 16, .st 3 rR [finv Z]] ?_ ?_
 ·intro hs
  refine ⟨?_, ?_, ?_, ?_, ?_, trivial⟩
  ·exact step_field hs Wn rfl rfl (fun _ => E1.out) (field_Pt2 _)
  ·exact step_loadF 0 q1 32 hs Wn rfl rfl tyFe (fun _ => rfl) rfl (by kernel_rfl) hm1.lt (hm1.fld 2 1) Na
  ·refine step_call hs Wn rfl fun L u W hJ hG hL hdep K hK => ?_
   have a0 := (vE rR [Z] hG hdep 1)
   go_simp
   go_at_call 79
   (with_reducible refine (kInv a0 _).mono ?_); rintro e w1 ⟨r, rfl, hr, hb⟩
   exact hK.out _ _ hr hb
  ·exact step_alloc hs Wn rfl rfl (by omega) rfl allocFe
  ·exact step_store 3 hs (by kernel_rfl) Wn rfl rfl rfl (by kernel_rfl) (by kernel_rfl) (by kernel_rfl) (by kernel_rfl) (fun _ => rfl) (gO 2) tyFe rfl
 intro L1 u1 W1 hall hJ hG
 obtain ⟨q3, e3, hq3, _, ht3⟩ := oN 16 hG 3
 have hm3 := oS rR [finv Z] hG 4 e3
 have HD3_q1 := Lib.hid (show q1 ≠ q3 by have := there_lt ht1 (by omega); omega)
 have hq3 : w.heap.size ≤ q3 := by have := hbel0.size; omega
 have E3 := Lib.hid e3; clear e3
 have hb := hJ.all rfl
 have hbel := Below.call hbel hb
 have hm1 := hm1.later hb
 have ht1 := there_later ht1 hb
 have hbel0 := hbel
 clear hJ hG hall hb
 go_upto_region 2 with fail
 refine rgT [(4, 4), (4, 0), (0, 1), (0, 2), (0, 3)] [.ptr q1 0, .val rR [X], .val rR [finv Z], .val rR [X * (finv Z)], .new 16, .st 4 rR [X * (finv Z)]] ?_ ?_
 ·intro hs
  refine ⟨?_, ?_, ?_, ?_, ?_, ?_, trivial⟩
  ·exact step_field hs Wn rfl rfl (fun _ => E1.out) (field_Pt0 _)
  ·exact step_loadF 0 q1 0 hs Wn rfl rfl tyFe (fun _ => rfl) rfl (by kernel_rfl) hm1.lt (hm1.fld 0 1) Na
  ·exact step_load q3 0 hs Wn rfl rfl tyFe (fun _ => E3.out) hm3.lt hm3 Na
  ·refine step_call hs Wn rfl fun L u W hJ hG hL hdep K hK => ?_
   have a0 := (vE rR [X] hG hdep 1)
   have a1 := (vE rR [finv Z] hG hdep 2)
   go_simp
   go_at_call 78
   (with_reducible refine (kMul a0 a1 _).mono ?_); rintro e w1 ⟨r, rfl, hr, hb⟩
   exact hK.out _ _ hr hb
  ·exact step_alloc hs Wn rfl rfl (by omega) rfl allocFe
  ·exact step_store 4 hs (by kernel_rfl) Wn rfl rfl rfl (by kernel_rfl) (by kernel_rfl) (by kernel_rfl) (by kernel_rfl) (fun _ => rfl) (gO 3) tyFe rfl
 intro L2 u2 W2 hall hJ hG
 obtain ⟨q4, e4, hq4, _, ht4⟩ := oN 16 hG 4
 have hm4 := oS rR [X * (finv Z)] hG 5 e4
 have HD4_q1 := Lib.hid (show q1 ≠ q4 by have := there_lt ht1 (by omega); omega)
 have HD4_q3 := Lib.hid (show q3 ≠ q4 by have := there_lt ht3 (by omega); omega)
 have hq4 : w.heap.size ≤ q4 := by have := hbel0.size; omega
 have E4 := Lib.hid e4; clear e4
 have hb := hJ.all rfl
 have hbel := Below.call hbel hb
 have hm1 := hm1.later hb
 have hm3 := hm3.later hb
 have ht1 := there_later ht1 hb
 have ht3 := there_later ht3 hb
 have hbel0 := hbel
 clear hJ hG hall hb
 go_upto_region 3 with fail
 refine rgT [(5, 5), (7, 0), (0, 1), (0, 2), (0, 3), (0, 4)] [.ptr q1 16, .val rR [Y], .val rR [finv Z], .val rR [Y * (finv Z)], .rd (leB 32 (Y * (finv Z)).val), .rd (leB 32 (Y * (finv Z)).val)] ?_ ?_
 ·intro hs
  refine ⟨?_, ?_, ?_, ?_, ?_, ?_, trivial⟩
  ·exact step_field hs Wn rfl rfl (fun _ => E1.out) (field_Pt1 _)
  ·exact step_loadF 0 q1 16 hs Wn rfl rfl tyFe (fun _ => rfl) rfl (by kernel_rfl) hm1.lt (hm1.fld 1 1) Na
  ·exact step_load q3 0 hs Wn rfl rfl tyFe (fun _ => E3.out) hm3.lt hm3 Na
  ·refine step_call hs Wn rfl fun L u W hJ hG hL hdep K hK => ?_
   have a0 := (vE rR [Y] hG hdep 1)
   have a1 := (vE rR [finv Z] hG hdep 2)
   go_simp
   go_at_call 78
   (with_reducible refine (kMul a0 a1 _).mono ?_); rintro e w1 ⟨r, rfl, hr, hb⟩
   exact hK.out _ _ hr hb
  ·refine step_callB hs Wn rfl fun L u W hJ hG hL hdep K hK => ?_
   have a0 := (vE rR [Y * (finv Z)] hG hdep 3)
   go_simp
   go_at_call 80
   (with_reducible refine (kBytes a0 _).mono ?_); rintro e w1 ⟨g, n, cap, r, rfl, h1, h2, h3, h4, h5, hb⟩
   exact hK.out _ _ _ _ _ h1 h2 h3 h4 h5 hb
  ·exact step_moveB 4 hs Wn rfl (by first | exact .inl rfl | exact .inr rfl) rfl (by kernel_rfl) (fun _ => rfl)
 intro L3 u3 W3 hall hJ hG
 obtain ⟨gB5, nB5, cB5, rB5, eB5, hgB5, hB5, hlB5, hcB5, hmB5⟩ := (show ∃ g n cap r, u3 5 = .slice (some ⟨g, 0, none⟩) n cap ∧ W2.heap.size ≤ g ∧ Blk W3 g ((leB 32 (Y * (finv Z)).val).map bV ++ r) 5 ∧ (leB 32 (Y * (finv Z)).val).length = n ∧ n ≤ cap ∧ cap ≤ maxLen from hG 5 (by simp))
 have hgB5 : w.heap.size ≤ gB5 := by have := hbel0.size; omega
 have EB5 := Lib.hid eB5; clear eB5
 obtain rfl : nB5 = 32 := by have h : (((leB 32 (Y * (finv Z)).val).length : Nat) : Int) = 32 := (by rw [leB_len]; rfl); omega
 have HB5 := Lib.hid hB5; clear hB5
 have HE5_q1 := Lib.hid (show q1 ≠ gB5 by have := there_lt ht1 (by omega); omega)
 have HE5_q3 := Lib.hid (show q3 ≠ gB5 by have := there_lt ht3 (by omega); omega)
 have HE5_q4 := Lib.hid (show q4 ≠ gB5 by have := there_lt ht4 (by omega); omega)
 have hb := hJ.all rfl
 have hbel := Below.call hbel hb
 have hm1 := hm1.later hb
 have hm3 := hm3.later hb
 have hm4 := hm4.later hb
 have ht1 := there_later ht1 hb
 have ht3 := there_later ht3 hb
 have ht4 := there_later ht4 hb
 have hbel0 := hbel
 clear hJ hG hall hb
 have HXV : Hid (X * finv Z = P.x) := Lib.hid hpp.xv
 have HLB : Hid (leB 32 (Y * finv Z).val = leB 32 P.y.val) := Lib.hid (by rw [hpp.yv])
 generalize leB 32 (Y * finv Z).val = LB at *
 have HLL : Hid (LB.length = 32) := Lib.hid (by rw [HLB.out, leB_len])
 have hcell := at31 HLL.out HB5.out
 have HCF : Hid (W3.frozen? ⟨gB5, 31, none⟩ = false) := Lib.hid (HB5.out.frozen 31)
 have HX0 := Lib.hid (hm4.cell0)
 have HA : Hid (bits BinOp.and IntKind.u64 ((d16 (X * finv Z).val 0 : Nat) : Int) 1 = 1) := Lib.hid (by rw [odd16, HXV.out]; have := HP.out; omega)
 generalize d16 (X * finv Z).val 0 = D at *
 generalize hcd : LB.getD 31 0 = c at *
 obtain ⟨d, hd⟩ : ∃ d, c ||| 128 = d := ⟨_, rfl⟩
 have HO : Hid (bits BinOp.or IntKind.u8 (c.toNat : Int) 128 = (d.toNat : Int)) := Lib.hid (or128 c d hd)
 have HCC := Lib.hid hcell; have HCD := Lib.hid hcd; have HDD := Lib.hid hd
 clear hcell hcd hd
 go_upto_region 4 with fail
 refine rgM [(18, 0), (0, 1), (0, 2), (0, 3), (0, 4), (0, 5), (0, 6), (0, 7), (0, 8), (0, 9), (0, 10)] [.oth (fun v => v = .slice (some ⟨gB5, 0, none⟩) 32 cB5), .oth (fun v => v = .slice (some ⟨gB5, 0, none⟩) 32 cB5), .oth (fun v => v = .pointer (some ⟨gB5, 31, none⟩)), .oth (fun v => v = .int .u8 (c.toNat : Int)), .oth (fun v => v = .pointer (some ⟨q4, 0, none⟩)), .oth (fun v => v = .int .u64 (D : Nat)), .oth (fun v => v = .int .u64 1), .oth (fun v => v = .int .u8 1), .oth (fun v => v = .int .u8 128), .oth (fun v => v = .int .u8 (d.toNat : Int)), .oth (fun v => v = .pointer (some ⟨gB5, 31, none⟩)), .cst gB5 31 (.int .u8 (d.toNat : Int))] ?_ ?_
 ·intro hs
  refine ⟨?_, ?_, ?_, ?_, ?_, ?_, ?_, ?_, ?_, ?_, ?_, ?_, trivial⟩
  ·exact mvK hs fun _ => EB5.out
  ·exact mvK hs fun _ => EB5.out
  ·refine step_pureO hs Wn rfl fun L u W hG hdep => ⟨_, ?_, rfl⟩
   have e0 := (oE (.slice (some ⟨gB5, 0, none⟩) 32 cB5) hG hdep 1)
   go_simp
  ·exact step_cell gB5 31 hs Wn rfl rfl (fun _ h => load_u8 h) (fun L u W hG hdep => (oE (.pointer (some ⟨gB5, 31, none⟩)) hG hdep 2)) HCC.out Na
  ·refine step_pureO hs Wn rfl fun L u W hG hdep => ⟨_, ?_, rfl⟩
   have e0 := E4.out
   go_simp
  ·exact step_cell q4 0 hs Wn rfl rfl (fun _ h => load_u64 h) (fun L u W hG hdep => (oE (.pointer (some ⟨q4, 0, none⟩)) hG hdep 4)) HX0.out (apN (Ne.symm HE5_q4.out))
  ·refine step_pureO hs Wn rfl fun L u W hG hdep => ⟨_, ?_, rfl⟩
   have e0 := (oE (.int .u64 (D : Nat)) hG hdep 5)
   have e9 := HA.out
   go_simp
  ·refine step_pureO hs Wn rfl fun L u W hG hdep => ⟨_, ?_, rfl⟩
   have e0 := (oE (.int .u64 1) hG hdep 6)
   go_simp
   try rfl
  ·refine step_pureO hs Wn rfl fun L u W hG hdep => ⟨_, ?_, rfl⟩
   have e0 := (oE (.int .u8 1) hG hdep 7)
   go_simp
   try rfl
  ·refine step_pureO hs Wn rfl fun L u W hG hdep => ⟨_, ?_, rfl⟩
   have e0 := (oE (.int .u8 (c.toNat : Int)) hG hdep 3)
   have e1 := (oE (.int .u8 128) hG hdep 8)
   have e9 := HO.out
   go_simp
  ·refine step_pureO hs Wn rfl fun L u W hG hdep => ⟨_, ?_, rfl⟩
   have e0 := (oE (.slice (some ⟨gB5, 0, none⟩) 32 cB5) hG hdep 0)
   go_simp
  ·refine step_cst (old := .int .u8 (c.toNat : Int)) gB5 31 hs Wn rfl rfl (by kernel_rfl) (fun k hk => ?_) (fun _ h1 h2 => store_u8 h1 h2) (fun L u W hG hdep => (oE (.pointer (some ⟨gB5, 31, none⟩)) hG hdep 10)) (fun L u W hG hdep => (oE (.int .u8 (d.toNat : Int)) hG hdep 9)) HCC.out HCF.out
   rcases k with _ | _ | _ | _ | _ | _ | _ | _ | _ | _ | _ | _ | k
   all_goals first | (exact absurd rfl hk) | (intro e; cases e; done)
 intro L4 u4 W4 hall hJ hG
 have hb := hJ.beN hbel
 have hbel := hbel.trans hb
 have hm1 := kC hm1 hJ HE5_q1.out
 have hm3 := kC hm3 hJ HE5_q3.out
 have hm4 := kC hm4 hJ HE5_q4.out
 have ht1 := tC ht1 hJ HE5_q1.out
 have ht3 := tC ht3 hJ HE5_q3.out
 have ht4 := tC ht4 hJ HE5_q4.out
 have HB5 := Lib.hid (blk_keep (HB5.out.set 31 (.int .u8 (d.toNat : Int))) (show _ ∧ W4.heap[gB5]? = (W3.setCell ⟨gB5, 31, none⟩ (.int .u8 (d.toNat : Int))).heap[gB5]? from hG 11 (by simp)).2)
 have hbel0 := hbel
 clear hJ hG hall hb
 go_upto_region 5 with fail
 refine rgT [(2, 1), (26, 0)] [.oth (fun v => v = .slice (some ⟨gB5, 0, none⟩) 32 cB5), .oth (fun v => v = .slice (some ⟨gB5, 0, none⟩) 32 cB5)] ?_ ?_
 ·intro hs
  refine ⟨?_, ?_, trivial⟩
  ·exact mvK hs fun _ => EB5.out
  ·exact mvO 0 hs
 intro L5 u5 W5 hall hJ hG
 have hb := hJ.all rfl
 have hbel := Below.call hbel hb
 have HB5 := Lib.hid (HB5.out.below' hb)
 have HC2 := oC (.slice (some ⟨gB5, 0, none⟩) 32 cB5) hG 1
 have hbel0 := hbel
 clear hJ hG hall hb
 rw [HC2.out]
 go_wp2
 go_ret
 exact ⟨gB5, 32, cB5, rB5, rfl, hgB5, by rw [← enc_odd HP.out, ← HLB.out, HCD.out, HDD.out, ← set31 HLL.out]; exact HB5.out, encP_len _, hcB5, hmB5, hbel⟩
set_option maxRecDepth 100000 in
set_option maxHeartbeats 4000000 in
theorem qenc_e {v0 : Value} {P : EP} {X Y Z : F} (hp : ¬ P.x.val % 2 = 1) (hpp : Prep P X Y Z) (h0 : IsFs rR v0 [X, Y, Z]) (w : World) :
  Calls Tryz.prog 36 #[v0] w fun e w' => ∃ g n cap r, e = .returned (.slice (some ⟨g, 0, none⟩) n cap) ∧ w.heap.size ≤ g ∧ Blk w' g ((encP P).map bV ++ r) 5 ∧ (encP P).length = n ∧ n ≤ cap ∧ cap ≤ maxLen ∧ Below w.heap.size w w' := by
 have HP := Lib.hid hp; clear hp
 go_enter Tryz.func36, Tryz.ntmps36
 have hbel : Below w.heap.size w w := Below.refl _ _
 have hbel0 := hbel
 go_upto_region 0 with fail
 refine rgT [(1, 0), (0, 1)] [.box rR [X, Y, Z], .oth (fun v => v = .slice none 0 0)] ?_ ?_
 ·intro hs
  refine ⟨?_, ?_, trivial⟩
  ·exact step_box hs Wn rfl rfl (gives_c h0 (fun _ => rfl))
  ·exact mvK hs fun _ => rfl
 intro L0 u0 W0 hall hJ hG
 obtain ⟨q1, e1, ⟨hq1, _⟩, ht1, hm1⟩ := oB 48 rR [X, Y, Z] hG 0
 have hq1 : w.heap.size ≤ q1 := by have := hbel0.size; omega
 have E1 := Lib.hid e1; clear e1
 have hb := hJ.all rfl
 have hbel := Below.call hbel hb
 have HC2 := oC (.slice none 0 0) hG 1
 have hbel0 := hbel
 clear hJ hG hall hb
 go_upto_region 1 with fail
 refine rgT [(3, 3), (2, 0), (0, 1), (0, 2)] [.ptr q1 32, .val rR [Z], .val rR [finv Z], .new 16, .st 3 rR [finv Z]] ?_ ?_
 ·intro hs
  refine ⟨?_, ?_, ?_, ?_, ?_, trivial⟩
  ·exact step_field hs Wn rfl rfl (fun _ => E1.out) (field_Pt2 _)
  ·exact step_loadF 0 q1 32 hs Wn rfl rfl tyFe (fun _ => rfl) rfl (by kernel_rfl) hm1.lt (hm1.fld 2 1) Na
  ·refine step_call hs Wn rfl fun L u W hJ hG hL hdep K hK => ?_
   have a0 := (vE rR [Z] hG hdep 1)
   go_simp
   go_at_call 79
   (with_reducible refine (kInv a0 _).mono ?_); rintro e w1 ⟨r, rfl, hr, hb⟩
   exact hK.out _ _ hr hb
  ·exact step_alloc hs Wn rfl rfl (by omega) rfl allocFe
  ·exact step_store 3 hs (by kernel_rfl) Wn rfl rfl rfl (by kernel_rfl) (by kernel_rfl) (by kernel_rfl) (by kernel_rfl) (fun _ => rfl) (gO 2) tyFe rfl
 intro L1 u1 W1 hall hJ hG
 obtain ⟨q3, e3, hq3, _, ht3⟩ := oN 16 hG 3
 have hm3 := oS rR [finv Z] hG 4 e3
 have HD3_q1 := Lib.hid (show q1 ≠ q3 by have := there_lt ht1 (by omega); omega)
 have hq3 : w.heap.size ≤ q3 := by have := hbel0.size; omega
 have E3 := Lib.hid e3; clear e3
 have hb := hJ.all rfl
 have hbel := Below.call hbel hb
 have hm1 := hm1.later hb
 have ht1 := there_later ht1 hb
 have hbel0 := hbel
 clear hJ hG hall hb
 go_upto_region 2 with fail
 refine rgT [(4, 4), (4, 0), (0, 1), (0, 2), (0, 3)] [.ptr q1 0, .val rR [X], .val rR [finv Z], .val rR [X * (finv Z)], .new 16, .st 4 rR [X * (finv Z)]] ?_ ?_
 ·intro hs
  refine ⟨?_, ?_, ?_, ?_, ?_, ?_, trivial⟩
  ·exact step_field hs Wn rfl rfl (fun _ => E1.out) (field_Pt0 _)
  ·exact step_loadF 0 q1 0 hs Wn rfl rfl tyFe (fun _ => rfl) rfl (by kernel_rfl) hm1.lt (hm1.fld 0 1) Na
  ·exact step_load q3 0 hs Wn rfl rfl tyFe (fun _ => E3.out) hm3.lt hm3 Na
  ·refine step_call hs Wn rfl fun L u W hJ hG hL hdep K hK => ?_
   have a0 := (vE rR [X] hG hdep 1)
   have a1 := (vE rR [finv Z] hG hdep 2)
   go_simp
   go_at_call 78
   (with_reducible refine (kMul a0 a1 _).mono ?_); rintro e w1 ⟨r, rfl, hr, hb⟩
   exact hK.out _ _ hr hb
  ·exact step_alloc hs Wn rfl rfl (by omega) rfl allocFe
  ·exact step_store 4 hs (by kernel_rfl) Wn rfl rfl rfl (by kernel_rfl) (by kernel_rfl) (by kernel_rfl) (by kernel_rfl) (fun _ => rfl) (gO 3) tyFe rfl
 intro L2 u2 W2 hall hJ hG
 obtain ⟨q4, e4, hq4, _, ht4⟩ := oN 16 hG 4
 have hm4 := oS rR [X * (finv Z)] hG 5 e4
 have HD4_q1 := Lib.hid (show q1 ≠ q4 by have := there_lt ht1 (by omega); omega)
 have HD4_q3 := Lib.hid (show q3 ≠ q4 by have := there_lt ht3 (by omega); omega)
 have hq4 : w.heap.size ≤ q4 := by have := hbel0.size; omega
 have E4 := Lib.hid e4; clear e4
 have hb := hJ.all rfl
 have hbel := Below.call hbel hb
 have hm1 := hm1.later hb
 have hm3 := hm3.later hb
 have ht1 := there_later ht1 hb
 have ht3 := there_later ht3 hb
 have hbel0 := hbel
 clear hJ hG hall hb
 go_upto_region 3 with fail
 refine rgT [(5, 5), (7, 0), (0, 1), (0, 2), (0, 3), (0, 4)] [.ptr q1 16, .val rR [Y], .val rR [finv Z], .val rR [Y * (finv Z)], .rd (leB 32 (Y * (finv Z)).val), .rd (leB 32 (Y * (finv Z)).val)] ?_ ?_
 ·intro hs
  refine ⟨?_, ?_, ?_, ?_, ?_, ?_, trivial⟩
  ·exact step_field hs Wn rfl rfl (fun _ => E1.out) (field_Pt1 _)
  ·exact step_loadF 0 q1 16 hs Wn rfl rfl tyFe (fun _ => rfl) rfl (by kernel_rfl) hm1.lt (hm1.fld 1 1) Na
  ·exact step_load q3 0 hs Wn rfl rfl tyFe (fun _ => E3.out) hm3.lt hm3 Na
  ·refine step_call hs Wn rfl fun L u W hJ hG hL hdep K hK => ?_
   have a0 := (vE rR [Y] hG hdep 1)
   have a1 := (vE rR [finv Z] hG hdep 2)
   go_simp
   go_at_call 78
   (with_reducible refine (kMul a0 a1 _).mono ?_); rintro e w1 ⟨r, rfl, hr, hb⟩
   exact hK.out _ _ hr hb
  ·refine step_callB hs Wn rfl fun L u W hJ hG hL hdep K hK => ?_
   have a0 := (vE rR [Y * (finv Z)] hG hdep 3)
   go_simp
   go_at_call 80
   (with_reducible refine (kBytes a0 _).mono ?_); rintro e w1 ⟨g, n, cap, r, rfl, h1, h2, h3, h4, h5, hb⟩
   exact hK.out _ _ _ _ _ h1 h2 h3 h4 h5 hb
  ·exact step_moveB 4 hs Wn rfl (by first | exact .inl rfl | exact .inr rfl) rfl (by kernel_rfl) (fun _ => rfl)
 intro L3 u3 W3 hall hJ hG
 obtain ⟨gB5, nB5, cB5, rB5, eB5, hgB5, hB5, hlB5, hcB5, hmB5⟩ := (show ∃ g n cap r, u3 5 = .slice (some ⟨g, 0, none⟩) n cap ∧ W2.heap.size ≤ g ∧ Blk W3 g ((leB 32 (Y * (finv Z)).val).map bV ++ r) 5 ∧ (leB 32 (Y * (finv Z)).val).length = n ∧ n ≤ cap ∧ cap ≤ maxLen from hG 5 (by simp))
 have hgB5 : w.heap.size ≤ gB5 := by have := hbel0.size; omega
 have EB5 := Lib.hid eB5; clear eB5
 obtain rfl : nB5 = 32 := by have h : (((leB 32 (Y * (finv Z)).val).length : Nat) : Int) = 32 := (by rw [leB_len]; rfl); omega
 have HB5 := Lib.hid hB5; clear hB5
 have HE5_q1 := Lib.hid (show q1 ≠ gB5 by have := there_lt ht1 (by omega); omega)
 have HE5_q3 := Lib.hid (show q3 ≠ gB5 by have := there_lt ht3 (by omega); omega)
 have HE5_q4 := Lib.hid (show q4 ≠ gB5 by have := there_lt ht4 (by omega); omega)
 have hb := hJ.all rfl
 have hbel := Below.call hbel hb
 have hm1 := hm1.later hb
 have hm3 := hm3.later hb
 have hm4 := hm4.later hb
 have ht1 := there_later ht1 hb
 have ht3 := there_later ht3 hb
 have ht4 := there_later ht4 hb
 have hbel0 := hbel
 clear hJ hG hall hb
 have HXV : Hid (X * finv Z = P.x) := Lib.hid hpp.xv
 have HLB : Hid (leB 32 (Y * finv Z).val = leB 32 P.y.val) := Lib.hid (by rw [hpp.yv])
 generalize leB 32 (Y * finv Z).val = LB at *
 have HLL : Hid (LB.length = 32) := Lib.hid (by rw [HLB.out, leB_len])
 have hcell := at31 HLL.out HB5.out
 have HCF : Hid (W3.frozen? ⟨gB5, 31, none⟩ = false) := Lib.hid (HB5.out.frozen 31)
 have HX0 := Lib.hid (hm4.cell0)
 have HA : Hid (bits BinOp.and IntKind.u64 ((d16 (X * finv Z).val 0 : Nat) : Int) 1 = 0) := Lib.hid (by rw [odd16, HXV.out]; have := HP.out; omega)
 generalize d16 (X * finv Z).val 0 = D at *
 generalize hcd : LB.getD 31 0 = c at *
 obtain ⟨d, hd⟩ : ∃ d, c = d := ⟨_, rfl⟩
 have HO : Hid (bits BinOp.or IntKind.u8 (c.toNat : Int) 0 = (d.toNat : Int)) := Lib.hid (by rw [← hd]; exact or_nil c)
 have HCC := Lib.hid hcell; have HCD := Lib.hid hcd; have HDD := Lib.hid hd
 clear hcell hcd hd
 go_upto_region 4 with fail
 refine rgM [(18, 0), (0, 1), (0, 2), (0, 3), (0, 4), (0, 5), (0, 6), (0, 7), (0, 8), (0, 9), (0, 10)] [.oth (fun v => v = .slice (some ⟨gB5, 0, none⟩) 32 cB5), .oth (fun v => v = .slice (some ⟨gB5, 0, none⟩) 32 cB5), .oth (fun v => v = .pointer (some ⟨gB5, 31, none⟩)), .oth (fun v => v = .int .u8 (c.toNat : Int)), .oth (fun v => v = .pointer (some ⟨q4, 0, none⟩)), .oth (fun v => v = .int .u64 (D : Nat)), .oth (fun v => v = .int .u64 0), .oth (fun v => v = .int .u8 0), .oth (fun v => v = .int .u8 0), .oth (fun v => v = .int .u8 (d.toNat : Int)), .oth (fun v => v = .pointer (some ⟨gB5, 31, none⟩)), .cst gB5 31 (.int .u8 (d.toNat : Int))] ?_ ?_
 ·intro hs
  refine ⟨?_, ?_, ?_, ?_, ?_, ?_, ?_, ?_, ?_, ?_, ?_, ?_, trivial⟩
  ·exact mvK hs fun _ => EB5.out
  ·exact mvK hs fun _ => EB5.out
  ·refine step_pureO hs Wn rfl fun L u W hG hdep => ⟨_, ?_, rfl⟩
   have e0 := (oE (.slice (some ⟨gB5, 0, none⟩) 32 cB5) hG hdep 1)
   go_simp
  ·exact step_cell gB5 31 hs Wn rfl rfl (fun _ h => load_u8 h) (fun L u W hG hdep => (oE (.pointer (some ⟨gB5, 31, none⟩)) hG hdep 2)) HCC.out Na
  ·refine step_pureO hs Wn rfl fun L u W hG hdep => ⟨_, ?_, rfl⟩
   have e0 := E4.out
   go_simp
  ·exact step_cell q4 0 hs Wn rfl rfl (fun _ h => load_u64 h) (fun L u W hG hdep => (oE (.pointer (some ⟨q4, 0, none⟩)) hG hdep 4)) HX0.out (apN (Ne.symm HE5_q4.out))
  ·refine step_pureO hs Wn rfl fun L u W hG hdep => ⟨_, ?_, rfl⟩
   have e0 := (oE (.int .u64 (D : Nat)) hG hdep 5)
   have e9 := HA.out
   go_simp
  ·refine step_pureO hs Wn rfl fun L u W hG hdep => ⟨_, ?_, rfl⟩
   have e0 := (oE (.int .u64 0) hG hdep 6)
   go_simp
   try rfl
  ·refine step_pureO hs Wn rfl fun L u W hG hdep => ⟨_, ?_, rfl⟩
   have e0 := (oE (.int .u8 0) hG hdep 7)
   go_simp
   try rfl
  ·refine step_pureO hs Wn rfl fun L u W hG hdep => ⟨_, ?_, rfl⟩
   have e0 := (oE (.int .u8 (c.toNat : Int)) hG hdep 3)
   have e1 := (oE (.int .u8 0) hG hdep 8)
   have e9 := HO.out
   go_simp
  ·refine step_pureO hs Wn rfl fun L u W hG hdep => ⟨_, ?_, rfl⟩
   have e0 := (oE (.slice (some ⟨gB5, 0, none⟩) 32 cB5) hG hdep 0)
   go_simp
  ·refine step_cst (old := .int .u8 (c.toNat : Int)) gB5 31 hs Wn rfl rfl (by kernel_rfl) (fun k hk => ?_) (fun _ h1 h2 => store_u8 h1 h2) (fun L u W hG hdep => (oE (.pointer (some ⟨gB5, 31, none⟩)) hG hdep 10)) (fun L u W hG hdep => (oE (.int .u8 (d.toNat : Int)) hG hdep 9)) HCC.out HCF.out
   rcases k with _ | _ | _ | _ | _ | _ | _ | _ | _ | _ | _ | _ | k
   all_goals first | (exact absurd rfl hk) | (intro e; cases e; done)
 intro L4 u4 W4 hall hJ hG
 have hb := hJ.beN hbel
 have hbel := hbel.trans hb
 have hm1 := kC hm1 hJ HE5_q1.out
 have hm3 := kC hm3 hJ HE5_q3.out
 have hm4 := kC hm4 hJ HE5_q4.out
 have ht1 := tC ht1 hJ HE5_q1.out
 have ht3 := tC ht3 hJ HE5_q3.out
 have ht4 := tC ht4 hJ HE5_q4.out
 have HB5 := Lib.hid (blk_keep (HB5.out.set 31 (.int .u8 (d.toNat : Int))) (show _ ∧ W4.heap[gB5]? = (W3.setCell ⟨gB5, 31, none⟩ (.int .u8 (d.toNat : Int))).heap[gB5]? from hG 11 (by simp)).2)
 have hbel0 := hbel
 clear hJ hG hall hb
 go_upto_region 5 with fail
 refine rgT [(2, 1), (26, 0)] [.oth (fun v => v = .slice (some ⟨gB5, 0, none⟩) 32 cB5), .oth (fun v => v = .slice (some ⟨gB5, 0, none⟩) 32 cB5)] ?_ ?_
 ·intro hs
  refine ⟨?_, ?_, trivial⟩
  ·exact mvK hs fun _ => EB5.out
  ·exact mvO 0 hs
 intro L5 u5 W5 hall hJ hG
 have hb := hJ.all rfl
 have hbel := Below.call hbel hb
 have HB5 := Lib.hid (HB5.out.below' hb)
 have HC2 := oC (.slice (some ⟨gB5, 0, none⟩) 32 cB5) hG 1
 have hbel0 := hbel
 clear hJ hG hall hb
 rw [HC2.out]
 go_wp2
 go_ret
 exact ⟨gB5, 32, cB5, rB5, rfl, hgB5, by rw [← enc_even HP.out, ← HLB.out, ← set_same HLL.out (HCD.out.trans HDD.out), ← set31 HLL.out]; exact HB5.out, encP_len _, hcB5, hmB5, hbel⟩
theorem kEncode {v0 : Value} {P : EP} (h0 : IsFs rQ v0 [P]) (w : World) :
  Calls Tryz.prog 36 #[v0] w fun e w' => ∃ g n cap r, e = .returned (.slice (some ⟨g, 0, none⟩) n cap) ∧ w.heap.size ≤ g ∧ Blk w' g ((encP P).map bV ++ r) 5 ∧ (encP P).length = n ∧ n ≤ cap ∧ cap ≤ maxLen ∧ Below w.heap.size w w' := by
 obtain ⟨x, y, z, i0, hpp⟩ := of_isQ h0
 by_cases hp : P.x.val % 2 = 1
 ·exact qenc_o hp hpp i0 w
 ·exact qenc_e hp hpp i0 w
theorem xx_fsR {v : Value} {y : F} (h : IsFs rR v [(y * y - fn 1) * finv (dE * (y * y) + fn 1)]) : IsFs rR v [xx y] := by
 rw [F.mul_comm' dE] at h
 exact h
theorem rrootN {v : Value} {x X : F} {c : Int} (hX : rootV x = X) (hc : rootC x = c) (h : IsFs rR v [x]) (w : World) :
  Calls Tryz.prog 103 #[v] w fun e w' => ∃ r, e = .returned (.tuple #[r, .int .i64 c]) ∧ IsFs rR r [X] ∧ Below w.heap.size w w' := by subst hX hc; exact rrootM h w
theorem dec_prep {P : EP} {x y : F} (hx : P.x = x) (hy : P.y = y) : Prep P x y (fn 1) := by subst hx hy; exact Prep.one P
theorem odd_bit2 {l : List UInt8} {c : UInt8} {o : Bool} (h : l.length = 32) (hc : l.getD 31 0 = c) (ho : sgn l = o) : ((c.toNat : Int) / 128 == 1) = o := by
 rw [← ho, sgn_byte h, hc]
 exact odd_byte2 _ c.toNat_lt
theorem clr_bit2 {c d : UInt8} (h : c &&& 127 = d) : bits BinOp.and IntKind.u8 (c.toNat : Int) 127 = (d.toNat : Int) := by
 have := clr_byte3 c.toNat c.toNat_lt
 rw [UInt8.ofNat_toNat, h] at this
 exact this
set_option maxRecDepth 100000 in
set_option maxHeartbeats 4000000 in
theorem qdecode_len {a : Option Addr} {n cap : Nat} (w : World) (hn : n ≠ 32) :
  Calls Tryz.prog 46 #[.slice a n cap] w fun e w' => ∃ r, e = .returned (.tuple #[r, .int .i64 12]) ∧ IsFs rQ r [Cp.zero] ∧ Below w.heap.size w w' := by
 have HD : Hid (¬ ((n : Int) = 32)) := Lib.hid (by omega)
 clear hn
 go_enter Tryz.func46, Tryz.ntmps46
 have hbel : Below w.heap.size w w := Below.refl _ _
 have hbel0 := hbel
 go_upto_region 0 with fail
 refine rgT [(2, 0), (0, 1)] [.new 48, .oth (fun v => v = .int .i64 0)] ?_ ?_
 ·intro hs
  refine ⟨?_, ?_, trivial⟩
  ·exact step_alloc hs Wn rfl rfl (by omega) rfl allocPt
  ·exact mvK hs fun _ => rfl
 intro L0 u0 W0 hall hJ hG
 obtain ⟨q2, e2, hq2, _, ht2⟩ := oN 48 hG 0
 have hq2 : w.heap.size ≤ q2 := by have := hbel0.size; omega
 have E2 := Lib.hid e2; clear e2
 have hb := hJ.all rfl
 have hbel := Below.call hbel hb
 have HC3 := oC (.int .i64 0) hG 1
 have hbel0 := hbel
 clear hJ hG hall hb
 go_upto_region 1 with fail
 refine rgT [(13, 0), (0, 1), (0, 2)] [.oth (fun v => v = .slice a n cap), .oth (fun v => v = .int .i64 (n : Nat)), .oth (fun v => v = .bool true)] ?_ ?_
 ·intro hs
  refine ⟨?_, ?_, ?_, trivial⟩
  ·exact mvK hs fun _ => rfl
  ·refine step_pureO hs Wn rfl fun L u W hG hdep => ⟨_, ?_, rfl⟩
   have e0 := (oE (.slice a n cap) hG hdep 0)
   go_simp
  ·refine step_pureO hs Wn rfl fun L u W hG hdep => ⟨_, ?_, rfl⟩
   have e0 := (oE (.int .i64 (n : Nat)) hG hdep 1)
   go_simp
   exact HD.out
 intro L1 u1 W1 hall hJ hG
 have hb := hJ.all rfl
 have hbel := Below.call hbel hb
 have ht2 := there_later ht2 hb
 have HC15 := oC (.bool true) hG 2
 have hbel0 := hbel
 clear hJ hG hall hb
 have hx : u1 2 = .bool true := HC15.out
 go_wp2_with fail
 rw [hx]
 clear hx
 go_upto_region 2 with fail
 refine rgT [(3, 2), (12, 0)] [.val rQ [Cp.zero], .sto q2 rQ [Cp.zero], .oth (fun v => v = .int .i64 12)] ?_ ?_
 ·intro hs
  refine ⟨?_, ?_, ?_, trivial⟩
  ·refine step_call hs Wn rfl fun L u W hJ hG hL hdep K hK => ?_
   go_simp
   go_at_call 82
   (with_reducible refine (kZero _).mono ?_); rintro e w1 ⟨r, rfl, hr, hb⟩
   exact hK.out _ _ hr hb
  ·refine step_storeO q2 48 hs Wn rfl rfl (by kernel_rfl) (fun k hk => ?_) (fun _ => E2.out) (there_lt ht2 (by omega)) ht2 (gO 0) tyPt rfl
   rcases k with _ | _ | _ | k
   all_goals first | (exact absurd rfl hk) | (intro e; cases e; done)
  ·exact mvK hs fun _ => rfl
 intro L2 u2 W2 hall hJ hG
 have hb := hJ.beN hbel
 have hbel := hbel.trans hb
 obtain ⟨_, hs2_1t, hs2_1⟩ := oT 48 rQ [Cp.zero] hG 1
 have HC3 := oC (.int .i64 12) hG 2
 have hbel0 := hbel
 clear hJ hG hall hb
 go_wp2
 exact ret_cell_slot (R := rQ) Tryz.results46 (by exact E2.out) (by exact HC3.out) hs2_1 tyPt rfl (fun r hr => ⟨r, rfl, hr, hbel⟩)
set_option maxRecDepth 100000 in
set_option maxHeartbeats 8000000 in
theorem qdecode_32 {bb q cap : Nat} {l : List UInt8} {o : Bool} (w : World) (hs : sgn l = o) (h : RdB w (some ⟨bb, q, none⟩) 32 cap l) :
  Calls Tryz.prog 46 #[.slice (some ⟨bb, q, none⟩) 32 cap] w fun e w' => ∃ r, e = .returned (.tuple #[r, .int .i64 (decC l)]) ∧ IsFs rQ r [decV l] ∧ Below w.heap.size w w' := by
 have hl := h.hlen
 obtain ⟨b', q', hab, hc0⟩ := h.get 31 (by omega)
 obtain ⟨rfl, rfl⟩ : bb = b' ∧ q = q' := by simpa using hab
 clear hab
 obtain ⟨c, hc⟩ : ∃ c, c = l.getD 31 0 := ⟨_, rfl⟩
 have hc1 : w.cell? ⟨bb, q + 31, none⟩ = some (.int .u8 (c.toNat : Int)) := by
  rw [hc0, hc, List.getD_eq_getElem?_getD, List.getElem?_eq_getElem (by omega)]; rfl
 have HCL := Lib.hid hc1
 have HOB := Lib.hid (odd_bit2 hl hc.symm hs)
 obtain ⟨d, hd⟩ : ∃ d, c &&& 127 = d := ⟨_, rfl⟩
 have HDB := Lib.hid (clr_bit2 hd)
 have HK0 : Hid (l.set 31 d = clr l) := Lib.hid (by unfold clr; rw [← hc, hd])
 have HL := Lib.hid hl; have HS := Lib.hid hs; have HCC := Lib.hid hc
 clear hc0 hc1 hc hd hl hs
 go_enter Tryz.func46, Tryz.ntmps46
 have hbel : Below w.heap.size w w := Below.refl _ _
 have hbel0 := hbel
 go_upto_region 0 with fail
 refine rgT [(2, 0), (0, 1)] [.new 48, .oth (fun v => v = .int .i64 0)] ?_ ?_
 ·intro hs
  refine ⟨?_, ?_, trivial⟩
  ·exact step_alloc hs Wn rfl rfl (by omega) rfl allocPt
  ·exact mvK hs fun _ => rfl
 intro L0 u0 W0 hall hJ hG
 obtain ⟨q2, e2, hq2, _, ht2⟩ := oN 48 hG 0
 have hq2 : w.heap.size ≤ q2 := by have := hbel0.size; omega
 have E2 := Lib.hid e2; clear e2
 have hb := hJ.all rfl
 have hbel := Below.call hbel hb
 have HC3 := oC (.int .i64 0) hG 1
 have hbel0 := hbel
 clear hJ hG hall hb
 go_upto_region 1 with fail
 refine rgT [(13, 0), (0, 1), (0, 2)] [.oth (fun v => v = .slice (some ⟨bb, q, none⟩) 32 cap), .oth (fun v => v = .int .i64 32), .oth (fun v => v = .bool false)] ?_ ?_
 ·intro hs
  refine ⟨?_, ?_, ?_, trivial⟩
  ·exact mvK hs fun _ => rfl
  ·refine step_pureO hs Wn rfl fun L u W hG hdep => ⟨_, ?_, rfl⟩
   have e0 := (oE (.slice (some ⟨bb, q, none⟩) 32 cap) hG hdep 0)
   go_simp
  ·refine step_pureO hs Wn rfl fun L u W hG hdep => ⟨_, ?_, rfl⟩
   have e0 := (oE (.int .i64 32) hG hdep 1)
   go_simp
   try simp [bne]
 intro L1 u1 W1 hall hJ hG
 have hb := hJ.all rfl
 have hbel := Below.call hbel hb
 have ht2 := there_later ht2 hb
 have HC15 := oC (.bool false) hG 2
 have hbel0 := hbel
 clear hJ hG hall hb
 have hx : u1 2 = .bool false := HC15.out
 go_wp2_with fail
 rw [hx]
 clear hx
 have HR0 := h.below hbel
 go_upto_region 4 with (first | (at_builtin; go_must (refine app_bytes _ rfl (.tmp 17) (.tmp 18) rfl W1.heap.size _ 0 [] rfl (own_none W1 5 W1.heap.size (Nat.le_refl _)) _ _ _ l rfl (by exact HR0.below ((Below.refl _ _).alloc (Nat.le_refl _) _)) (by omega) (by simp) W1 (by exact (Below.refl _ _).alloc (Nat.le_refl _) _) ?_; intro v1 W3 hown hb)))
 clear HR0
 rw [Nat.zero_add, List.nil_append] at hown
 obtain ⟨gB, cB, rB, rfl, hgB0, hB, _, hcB, hmB⟩ := own_rdb (n := 32) (l := l) hown (by omega)
 clear hown
 have hgB : w.heap.size ≤ gB := by have := hbel.size; omega
 have HE_q2 := Lib.hid (show q2 ≠ gB by have := there_lt ht2 (by omega); omega)
 have ht2 := there_later ht2 hb
 have hbel := Below.call hbel hb
 have hbel0 := hbel
 have HB := Lib.hid hB
 have HWZ : Hid (W1.heap.size ≤ W3.heap.size) := Lib.hid hb.size
 clear hB hb
 have hcell : W3.cell? ⟨gB, 31, none⟩ = some (.int .u8 (c.toNat : Int)) := by rw [HCC.out]; exact at31 HL.out HB.out
 have HCX := Lib.hid hcell; have HCF : Hid (W3.frozen? ⟨gB, 31, none⟩ = false) := Lib.hid (HB.out.frozen 31)
 clear hcell
 refine rgT [(20, 0), (0, 1), (0, 2), (0, 3), (0, 4), (0, 5)] [.oth (fun v => v = .slice (some ⟨gB, 0, none⟩) 32 cB), .oth (fun v => v = .slice (some ⟨gB, 0, none⟩) 32 cB), .oth (fun v => v = .pointer (some ⟨gB, 31, none⟩)), .oth (fun v => v = .int .u8 (c.toNat : Int)), .oth (fun v => v = .int .u8 (d.toNat : Int)), .oth (fun v => v = .pointer (some ⟨gB, 31, none⟩)), .cst gB 31 (.int .u8 (d.toNat : Int))] ?_ ?_
 ·intro hs
  refine ⟨?_, ?_, ?_, ?_, ?_, ?_, ?_, trivial⟩
  ·exact mvK hs fun _ => rfl
  ·exact mvK hs fun _ => rfl
  ·refine step_pureO hs Wn rfl fun L u W hG hdep => ⟨_, ?_, rfl⟩
   have e0 := (oE (.slice (some ⟨gB, 0, none⟩) 32 cB) hG hdep 1)
   go_simp
  ·exact step_cell gB 31 hs Wn rfl rfl (fun _ h => load_u8 h) (fun L u W hG hdep => (oE (.pointer (some ⟨gB, 31, none⟩)) hG hdep 2)) HCX.out Na
  ·refine step_pureO hs Wn rfl fun L u W hG hdep => ⟨_, ?_, rfl⟩
   have e0 := (oE (.int .u8 (c.toNat : Int)) hG hdep 3)
   have e9 := HDB.out
   go_simp
  ·refine step_pureO hs Wn rfl fun L u W hG hdep => ⟨_, ?_, rfl⟩
   have e0 := (oE (.slice (some ⟨gB, 0, none⟩) 32 cB) hG hdep 0)
   go_simp
  ·refine step_cst (old := .int .u8 (c.toNat : Int)) gB 31 hs Wn rfl rfl (by kernel_rfl) (fun k hk => ?_) (fun _ h1 h2 => store_u8 h1 h2) (fun L u W hG hdep => (oE (.pointer (some ⟨gB, 31, none⟩)) hG hdep 5)) (fun L u W hG hdep => (oE (.int .u8 (d.toNat : Int)) hG hdep 4)) HCX.out HCF.out
   rcases k with _ | _ | _ | _ | _ | _ | _ | k
   all_goals first | (exact absurd rfl hk) | (intro e; cases e; done)
 intro L4 u4 W4 hall hJ hG
 have hb := hJ.beN hbel
 have hbel := hbel.trans hb
 have ht2 := tC ht2 hJ HE_q2.out
 have HB := Lib.hid (blk_keep (HB.out.set 31 (.int .u8 (d.toNat : Int))) (show _ ∧ W4.heap[gB]? = (W3.setCell ⟨gB, 31, none⟩ (.int .u8 (d.toNat : Int))).heap[gB]? from hG 6 (by simp)).2)
 have hbel0 := hbel
 clear hJ hG hall hb
 have HKB : Hid (Blk W4 gB ((clr l).map bV ++ rB) 5) := Lib.hid (by rw [← HK0.out, ← set31 HL.out]; exact HB.out)
 clear HB HCX HCF HK0 HDB HCC
 have HKL : Hid ((clr l).length = 32) := Lib.hid (by rw [clr_len]; exact HL.out)
 by_cases hlow : lowN l < Pq
 rotate_left
 ·have HLW := Lib.hid hlow; clear hlow
  have HC2 := Lib.hid (stC_no HL.out HLW.out)
  generalize clr l = K at *
  go_upto_region 5 with fail
  refine rgT [(5, 5), (0, 7), (19, 2), (0, 0), (0, 1), (0, 3), (0, 4)] [.oth (fun v => v = .slice (some ⟨gB, 0, none⟩) 32 cB), .oth (fun v => IsTV rR v [stV K] (.int .i64 2)), .oth (fun v => IsTV rR v [stV K] (.int .i64 2)), .val rR [stV K], .oth (fun v => v = .int .i64 2), .new 16, .st 5 rR [stV K], .oth (fun v => v = .int .i64 2)] ?_ ?_
  ·intro hs
   refine ⟨?_, ?_, ?_, ?_, ?_, ?_, ?_, ?_, trivial⟩
   ·exact mvK hs fun _ => rfl
   ·refine step_callO hs Wn rfl fun L u W hJ hG hL hdep K hK => ?_
    have x0 := (oE (.slice (some ⟨gB, 0, none⟩) 32 cB) hG hdep 0)
    have hRB0 := (RdB.blk rB HKB.out HKL.out hcB hmB).below (hJ.all rfl)
    go_simp
    go_at_call 100
    (with_reducible refine (kStrict' rfl HC2.out hRB0).mono ?_); rintro e w1 ⟨r, rfl, hr, hb⟩
    have hk := hK.out _ _ ⟨r, rfl, hr⟩ hb
    simp only [x0] at hk
    exact hk
   ·exact step_pureO hs Wn rfl fun L u W hG hdep => ⟨_, run_move rfl, (show IsTV rR (u 1) [stV K] (.int .i64 2) from hG 1 (hdep 1 (by kernel_rfl)))⟩
   ·exact step_pure hs Wn rfl fun L u W hG hdep => run_extractV0 rfl (show IsTV rR (u 2) [stV K] (.int .i64 2) from hG 2 (hdep 2 (by kernel_rfl)))
   ·exact step_pureO hs Wn rfl fun L u W hG hdep => run_extractV1 rfl (show IsTV rR (u 2) [stV K] (.int .i64 2) from hG 2 (hdep 2 (by kernel_rfl)))
   ·exact step_alloc hs Wn rfl rfl (by omega) rfl allocFe
   ·exact step_store 5 hs (by kernel_rfl) Wn rfl rfl rfl (by kernel_rfl) (by kernel_rfl) (by kernel_rfl) (by kernel_rfl) (fun _ => rfl) (gO 3) tyFe rfl
   ·exact mvO 4 hs
  intro L5 u5a W5a hall hJ hG
  obtain ⟨q5, e5, hq5, _, ht5⟩ := oN 16 hG 5
  have hm5 := oS rR [stV K] hG 6 e5
  have HD5_q2 := Lib.hid (show q2 ≠ q5 by have := there_lt ht2 (by omega); omega)
  have hq5 : w.heap.size ≤ q5 := by have := hbel0.size; omega
  have E5 := Lib.hid e5; clear e5
  have hb := hJ.all rfl
  have hbel := Below.call hbel hb
  have ht2 := there_later ht2 hb
  have HKB := Lib.hid (HKB.out.below' hb)
  have HC6 := oC (.int .i64 2) hG 7
  have hbel0 := hbel
  clear hJ hG hall hb
  go_upto_region 6 with fail
  refine rgT [(31, 0), (0, 1)] [.oth (fun v => v = .int .i64 2), .oth (fun v => v = .bool true)] ?_ ?_
  ·intro hs
   refine ⟨?_, ?_, trivial⟩
   ·exact mvK hs fun _ => HC6.out
   ·refine step_pureO hs Wn rfl fun L u W hG hdep => ⟨_, ?_, rfl⟩
    have e0 := (oE (.int .i64 2) hG hdep 0)
    go_simp
    try simp [bne]
  intro L6 u6a W6a hall hJ hG
  have hb := hJ.all rfl
  have hbel := Below.call hbel hb
  have hm5 := hm5.later hb
  have ht2 := there_later ht2 hb
  have ht5 := there_later ht5 hb
  have HKB := Lib.hid (HKB.out.below' hb)
  have HC32 := oC (.bool true) hG 1
  have hbel0 := hbel
  clear hJ hG hall hb
  have hx : u6a 1 = .bool true := HC32.out
  go_wp2_with fail
  rw [hx]
  clear hx
  go_upto_region 7 with fail
  refine rgT [(3, 2), (29, 0)] [.val rQ [Cp.zero], .sto q2 rQ [Cp.zero], .oth (fun v => v = .int .i64 12)] ?_ ?_
  ·intro hs
   refine ⟨?_, ?_, ?_, trivial⟩
   ·refine step_call hs Wn rfl fun L u W hJ hG hL hdep K hK => ?_
    go_simp
    go_at_call 82
    (with_reducible refine (kZero _).mono ?_); rintro e w1 ⟨r, rfl, hr, hb⟩
    exact hK.out _ _ hr hb
   ·refine step_storeO q2 48 hs Wn rfl rfl (by kernel_rfl) (fun k hk => ?_) (fun _ => E2.out) (there_lt ht2 (by omega)) ht2 (gO 0) tyPt rfl
    rcases k with _ | _ | _ | k
    all_goals first | (exact absurd rfl hk) | (intro e; cases e; done)
   ·exact mvK hs fun _ => rfl
  intro L7 u7a W7a hall hJ hG
  have hb := hJ.beN hbel
  have hbel := hbel.trans hb
  have hm5 := kB hm5 hJ HD5_q2.out
  have ht5 := tB ht5 hJ HD5_q2.out
  have HKB := Lib.hid (blk_keep HKB.out (hJ.block _ (HKB.out.lt) (fun k hk => by rcases k with _ | _ | _ | k <;> first | (cases hk; done) | (cases hk; exact absurd rfl HE_q2.out))))
  obtain ⟨_, hs7_1t, hs7_1⟩ := oT 48 rQ [Cp.zero] hG 1
  have HC3 := oC (.int .i64 12) hG 2
  have hbel0 := hbel
  clear hJ hG hall hb
  go_wp2
  exact ret_cell_slot (R := rQ) Tryz.results46 (by exact E2.out) (by exact HC3.out) hs7_1 tyPt rfl (fun r hr => ⟨r, by rw [(dec_big HLW.out).2], by rw [(dec_big HLW.out).1]; exact hr, hbel⟩)
 ·have HLW := Lib.hid hlow; clear hlow
  have HC2 := Lib.hid (stC_clr HL.out HLW.out)
  have HV0 := Lib.hid (stV_clr HL.out HLW.out)
  generalize clr l = K at *
  generalize hy : fn (lowN l) = y at *
  have HY := Lib.hid hy; clear hy
  go_upto_region 5 with fail
  refine rgT [(5, 5), (0, 7), (19, 2), (0, 0), (0, 1), (0, 3), (0, 4)] [.oth (fun v => v = .slice (some ⟨gB, 0, none⟩) 32 cB), .oth (fun v => IsTV rR v [y] (.int .i64 0)), .oth (fun v => IsTV rR v [y] (.int .i64 0)), .val rR [y], .oth (fun v => v = .int .i64 0), .new 16, .st 5 rR [y], .oth (fun v => v = .int .i64 0)] ?_ ?_
  ·intro hs
   refine ⟨?_, ?_, ?_, ?_, ?_, ?_, ?_, ?_, trivial⟩
   ·exact mvK hs fun _ => rfl
   ·refine step_callO hs Wn rfl fun L u W hJ hG hL hdep K hK => ?_
    have x0 := (oE (.slice (some ⟨gB, 0, none⟩) 32 cB) hG hdep 0)
    have hRB0 := (RdB.blk rB HKB.out HKL.out hcB hmB).below (hJ.all rfl)
    go_simp
    go_at_call 100
    (with_reducible refine (kStrict' HV0.out HC2.out hRB0).mono ?_); rintro e w1 ⟨r, rfl, hr, hb⟩
    have hk := hK.out _ _ ⟨r, rfl, hr⟩ hb
    simp only [x0] at hk
    exact hk
   ·exact step_pureO hs Wn rfl fun L u W hG hdep => ⟨_, run_move rfl, (show IsTV rR (u 1) [y] (.int .i64 0) from hG 1 (hdep 1 (by kernel_rfl)))⟩
   ·exact step_pure hs Wn rfl fun L u W hG hdep => run_extractV0 rfl (show IsTV rR (u 2) [y] (.int .i64 0) from hG 2 (hdep 2 (by kernel_rfl)))
   ·exact step_pureO hs Wn rfl fun L u W hG hdep => run_extractV1 rfl (show IsTV rR (u 2) [y] (.int .i64 0) from hG 2 (hdep 2 (by kernel_rfl)))
   ·exact step_alloc hs Wn rfl rfl (by omega) rfl allocFe
   ·exact step_store 5 hs (by kernel_rfl) Wn rfl rfl rfl (by kernel_rfl) (by kernel_rfl) (by kernel_rfl) (by kernel_rfl) (fun _ => rfl) (gO 3) tyFe rfl
   ·exact mvO 4 hs
  intro L5 u5b W5b hall hJ hG
  obtain ⟨q5, e5, hq5, _, ht5⟩ := oN 16 hG 5
  have hm5 := oS rR [y] hG 6 e5
  have HD5_q2 := Lib.hid (show q2 ≠ q5 by have := there_lt ht2 (by omega); omega)
  have hq5 : w.heap.size ≤ q5 := by have := hbel0.size; omega
  have E5 := Lib.hid e5; clear e5
  have hb := hJ.all rfl
  have hbel := Below.call hbel hb
  have ht2 := there_later ht2 hb
  have HKB := Lib.hid (HKB.out.below' hb)
  have HC6 := oC (.int .i64 0) hG 7
  have hbel0 := hbel
  clear hJ hG hall hb
  go_upto_region 6 with fail
  refine rgT [(31, 0), (0, 1)] [.oth (fun v => v = .int .i64 0), .oth (fun v => v = .bool false)] ?_ ?_
  ·intro hs
   refine ⟨?_, ?_, trivial⟩
   ·exact mvK hs fun _ => HC6.out
   ·refine step_pureO hs Wn rfl fun L u W hG hdep => ⟨_, ?_, rfl⟩
    have e0 := (oE (.int .i64 0) hG hdep 0)
    go_simp
    try simp [bne]
  intro L6 u6b W6b hall hJ hG
  have hb := hJ.all rfl
  have hbel := Below.call hbel hb
  have hm5 := hm5.later hb
  have ht2 := there_later ht2 hb
  have ht5 := there_later ht5 hb
  have HKB := Lib.hid (HKB.out.below' hb)
  have HC32 := oC (.bool false) hG 1
  have hbel0 := hbel
  clear hJ hG hall hb
  have hx : u6b 1 = .bool false := HC32.out
  go_wp2_with fail
  rw [hx]
  clear hx
  go_upto_region 8 with fail
  refine rgT [(7, 3), (26, 0), (0, 1), (0, 2)] [.val rR [y], .val rR [y], .val rR [y * y], .new 16, .st 3 rR [y * y]] ?_ ?_
  ·intro hs
   refine ⟨?_, ?_, ?_, ?_, ?_, trivial⟩
   ·exact step_load q5 0 hs Wn rfl rfl tyFe (fun _ => E5.out) hm5.lt hm5 Na
   ·exact step_load q5 0 hs Wn rfl rfl tyFe (fun _ => E5.out) hm5.lt hm5 Na
   ·refine step_call hs Wn rfl fun L u W hJ hG hL hdep K hK => ?_
    have a0 := (vE rR [y] hG hdep 0)
    have a1 := (vE rR [y] hG hdep 1)
    go_simp
    go_at_call 78
    (with_reducible refine (kMul a0 a1 _).mono ?_); rintro e w1 ⟨r, rfl, hr, hb⟩
    exact hK.out _ _ hr hb
   ·exact step_alloc hs Wn rfl rfl (by omega) rfl allocFe
   ·exact step_store 3 hs (by kernel_rfl) Wn rfl rfl rfl (by kernel_rfl) (by kernel_rfl) (by kernel_rfl) (by kernel_rfl) (fun _ => rfl) (gO 2) tyFe rfl
  intro L8 u8b W8b hall hJ hG
  obtain ⟨q7, e7, hq7, _, ht7⟩ := oN 16 hG 3
  have hm7 := oS rR [y * y] hG 4 e7
  have HD7_q2 := Lib.hid (show q2 ≠ q7 by have := there_lt ht2 (by omega); omega)
  have HD7_q5 := Lib.hid (show q5 ≠ q7 by have := there_lt ht5 (by omega); omega)
  have hq7 : w.heap.size ≤ q7 := by have := hbel0.size; omega
  have E7 := Lib.hid e7; clear e7
  have hb := hJ.all rfl
  have hbel := Below.call hbel hb
  have hm5 := hm5.later hb
  have ht2 := there_later ht2 hb
  have ht5 := there_later ht5 hb
  have hbel0 := hbel
  clear hJ hG hall hb
  go_upto_region 9 with fail
  refine rgM [(8, 3), (28, 0), (0, 1), (0, 2)] [.val rR [y * y], .val rR [fn 1], .val rR [(y * y) - (fn 1)], .new 16, .st 3 rR [(y * y) - (fn 1)]] ?_ ?_
  ·intro hs
   refine ⟨?_, ?_, ?_, ?_, ?_, trivial⟩
   ·exact step_load q7 0 hs Wn rfl rfl tyFe (fun _ => E7.out) hm7.lt hm7 Na
   ·refine step_call hs Wn rfl fun L u W hJ hG hL hdep K hK => ?_
    go_simp
    go_at_call 77
    (with_reducible refine (kSmallI (n := 1) (z := 1) rfl (by omega) _).mono ?_); rintro e w1 ⟨r, rfl, hr, hb⟩
    exact hK.out _ _ hr hb
   ·refine step_call hs Wn rfl fun L u W hJ hG hL hdep K hK => ?_
    have a0 := (vE rR [y * y] hG hdep 0)
    have a1 := (vE rR [fn 1] hG hdep 1)
    go_simp
    go_at_call 101
    (with_reducible refine (kSub a0 a1 _).mono ?_); rintro e w1 ⟨r, rfl, hr, hb⟩
    exact hK.out _ _ hr hb
   ·exact step_alloc hs Wn rfl rfl (by omega) rfl allocFe
   ·exact step_store 3 hs (by kernel_rfl) Wn rfl rfl rfl (by kernel_rfl) (by kernel_rfl) (by kernel_rfl) (by kernel_rfl) (fun _ => rfl) (gO 2) tyFe rfl
  intro L9 u9b W9b hall hJ hG
  obtain ⟨q8, e8, hq8, _, ht8⟩ := oN 16 hG 3
  have hm8 := oS rR [(y * y) - (fn 1)] hG 4 e8
  have HD8_q2 := Lib.hid (show q2 ≠ q8 by have := there_lt ht2 (by omega); omega)
  have HD8_q5 := Lib.hid (show q5 ≠ q8 by have := there_lt ht5 (by omega); omega)
  have HD8_q7 := Lib.hid (show q7 ≠ q8 by have := there_lt ht7 (by omega); omega)
  have hq8 : w.heap.size ≤ q8 := by have := hbel0.size; omega
  have E8 := Lib.hid e8; clear e8
  have hb := hJ.all rfl
  have hbel := Below.call hbel hb
  have hm5 := hm5.later hb
  have hm7 := hm7.later hb
  have ht2 := there_later ht2 hb
  have ht5 := there_later ht5 hb
  have ht7 := there_later ht7 hb
  have hbel0 := hbel
  clear hJ hG hall hb
  go_upto_region 10 with fail
  refine rgM [(9, 5), (30, 0), (0, 1), (0, 2), (0, 3), (0, 4)] [.val rR [dE], .val rR [y * y], .val rR [dE * (y * y)], .val rR [fn 1], .val rR [(dE * (y * y)) + (fn 1)], .new 16, .st 5 rR [(dE * (y * y)) + (fn 1)]] ?_ ?_
  ·intro hs
   refine ⟨?_, ?_, ?_, ?_, ?_, ?_, ?_, trivial⟩
   ·refine step_call hs Wn rfl fun L u W hJ hG hL hdep K hK => ?_
    go_simp
    go_at_call 81
    (with_reducible refine (kCurve _).mono ?_); rintro e w1 ⟨r, rfl, hr, hb⟩
    exact hK.out _ _ hr hb
   ·exact step_load q7 0 hs Wn rfl rfl tyFe (fun _ => E7.out) hm7.lt hm7 Na
   ·refine step_call hs Wn rfl fun L u W hJ hG hL hdep K hK => ?_
    have a0 := (vE rR [dE] hG hdep 0)
    have a1 := (vE rR [y * y] hG hdep 1)
    go_simp
    go_at_call 78
    (with_reducible refine (kMul a0 a1 _).mono ?_); rintro e w1 ⟨r, rfl, hr, hb⟩
    exact hK.out _ _ hr hb
   ·refine step_call hs Wn rfl fun L u W hJ hG hL hdep K hK => ?_
    go_simp
    go_at_call 77
    (with_reducible refine (kSmallI (n := 1) (z := 1) rfl (by omega) _).mono ?_); rintro e w1 ⟨r, rfl, hr, hb⟩
    exact hK.out _ _ hr hb
   ·refine step_call hs Wn rfl fun L u W hJ hG hL hdep K hK => ?_
    have a0 := (vE rR [dE * (y * y)] hG hdep 2)
    have a1 := (vE rR [fn 1] hG hdep 3)
    go_simp
    go_at_call 102
    (with_reducible refine (kAdd a0 a1 _).mono ?_); rintro e w1 ⟨r, rfl, hr, hb⟩
    exact hK.out _ _ hr hb
   ·exact step_alloc hs Wn rfl rfl (by omega) rfl allocFe
   ·exact step_store 5 hs (by kernel_rfl) Wn rfl rfl rfl (by kernel_rfl) (by kernel_rfl) (by kernel_rfl) (by kernel_rfl) (fun _ => rfl) (gO 4) tyFe rfl
  intro L10 u10b W10b hall hJ hG
  obtain ⟨q9, e9, hq9, _, ht9⟩ := oN 16 hG 5
  have hm9 := oS rR [(dE * (y * y)) + (fn 1)] hG 6 e9
  have HD9_q2 := Lib.hid (show q2 ≠ q9 by have := there_lt ht2 (by omega); omega)
  have HD9_q5 := Lib.hid (show q5 ≠ q9 by have := there_lt ht5 (by omega); omega)
  have HD9_q7 := Lib.hid (show q7 ≠ q9 by have := there_lt ht7 (by omega); omega)
  have HD9_q8 := Lib.hid (show q8 ≠ q9 by have := there_lt ht8 (by omega); omega)
  have hq9 : w.heap.size ≤ q9 := by have := hbel0.size; omega
  have E9 := Lib.hid e9; clear e9
  have hb := hJ.all rfl
  have hbel := Below.call hbel hb
  have hm5 := hm5.later hb
  have hm7 := hm7.later hb
  have hm8 := hm8.later hb
  have ht2 := there_later ht2 hb
  have ht5 := there_later ht5 hb
  have ht7 := there_later ht7 hb
  have ht8 := there_later ht8 hb
  have hbel0 := hbel
  clear hJ hG hall hb
  obtain ⟨X, hX⟩ : ∃ X, rootV (xx y) = X := ⟨_, rfl⟩
  have HX := Lib.hid hX; clear hX
  by_cases hrc : rootC (xx y) = 0
  rotate_left
  ·have HR7 := Lib.hid hrc; have HRC := Lib.hid (root_7 hrc); clear hrc
   go_upto_region 11 with fail
   refine rgM [(10, 8), (0, 10), (33, 5), (0, 0), (0, 1), (0, 2), (0, 3), (0, 4), (0, 6), (0, 7)] [.val rR [(y * y) - (fn 1)], .val rR [(dE * (y * y)) + (fn 1)], .val rR [finv ((dE * (y * y)) + (fn 1))], .val rR [((y * y) - (fn 1)) * (finv ((dE * (y * y)) + (fn 1)))], .oth (fun v => IsTV rR v [X] (.int .i64 7)), .oth (fun v => IsTV rR v [X] (.int .i64 7)), .val rR [X], .oth (fun v => v = .int .i64 7), .new 16, .st 8 rR [X], .oth (fun v => v = .int .i64 7)] ?_ ?_
   ·intro hs
    refine ⟨?_, ?_, ?_, ?_, ?_, ?_, ?_, ?_, ?_, ?_, ?_, trivial⟩
    ·exact step_load q8 0 hs Wn rfl rfl tyFe (fun _ => E8.out) hm8.lt hm8 Na
    ·exact step_load q9 0 hs Wn rfl rfl tyFe (fun _ => E9.out) hm9.lt hm9 Na
    ·refine step_call hs Wn rfl fun L u W hJ hG hL hdep K hK => ?_
     have a0 := (vE rR [(dE * (y * y)) + (fn 1)] hG hdep 1)
     go_simp
     go_at_call 79
     (with_reducible refine (kInv a0 _).mono ?_); rintro e w1 ⟨r, rfl, hr, hb⟩
     exact hK.out _ _ hr hb
    ·refine step_call hs Wn rfl fun L u W hJ hG hL hdep K hK => ?_
     have a0 := (vE rR [(y * y) - (fn 1)] hG hdep 0)
     have a1 := (vE rR [finv ((dE * (y * y)) + (fn 1))] hG hdep 2)
     go_simp
     go_at_call 78
     (with_reducible refine (kMul a0 a1 _).mono ?_); rintro e w1 ⟨r, rfl, hr, hb⟩
     exact hK.out _ _ hr hb
    ·refine step_callO hs Wn rfl fun L u W hJ hG hL hdep K hK => ?_
     have a0 := xx_fsR ((vE rR [((y * y) - (fn 1)) * (finv ((dE * (y * y)) + (fn 1)))] hG hdep 3))
     go_simp
     go_at_call 103
     (with_reducible refine (rrootN HX.out HRC.out a0 _).mono ?_); rintro e w1 ⟨r, rfl, hr, hb⟩
     exact hK.out _ _ ⟨r, rfl, hr⟩ hb
    ·exact step_pureO hs Wn rfl fun L u W hG hdep => ⟨_, run_move rfl, (show IsTV rR (u 4) [X] (.int .i64 7) from hG 4 (hdep 4 (by kernel_rfl)))⟩
    ·exact step_pure hs Wn rfl fun L u W hG hdep => run_extractV0 rfl (show IsTV rR (u 5) [X] (.int .i64 7) from hG 5 (hdep 5 (by kernel_rfl)))
    ·exact step_pureO hs Wn rfl fun L u W hG hdep => run_extractV1 rfl (show IsTV rR (u 5) [X] (.int .i64 7) from hG 5 (hdep 5 (by kernel_rfl)))
    ·exact step_alloc hs Wn rfl rfl (by omega) rfl allocFe
    ·exact step_store 8 hs (by kernel_rfl) Wn rfl rfl rfl (by kernel_rfl) (by kernel_rfl) (by kernel_rfl) (by kernel_rfl) (fun _ => rfl) (gO 6) tyFe rfl
    ·exact mvO 7 hs
   intro L11 u11c W11c hall hJ hG
   obtain ⟨q10, e10, hq10, _, ht10⟩ := oN 16 hG 8
   have hm10 := oS rR [X] hG 9 e10
   have HD10_q2 := Lib.hid (show q2 ≠ q10 by have := there_lt ht2 (by omega); omega)
   have HD10_q5 := Lib.hid (show q5 ≠ q10 by have := there_lt ht5 (by omega); omega)
   have HD10_q7 := Lib.hid (show q7 ≠ q10 by have := there_lt ht7 (by omega); omega)
   have HD10_q8 := Lib.hid (show q8 ≠ q10 by have := there_lt ht8 (by omega); omega)
   have HD10_q9 := Lib.hid (show q9 ≠ q10 by have := there_lt ht9 (by omega); omega)
   have hq10 : w.heap.size ≤ q10 := by have := hbel0.size; omega
   have E10 := Lib.hid e10; clear e10
   have hb := hJ.all rfl
   have hbel := Below.call hbel hb
   have hm5 := hm5.later hb
   have hm7 := hm7.later hb
   have hm8 := hm8.later hb
   have hm9 := hm9.later hb
   have ht2 := there_later ht2 hb
   have ht5 := there_later ht5 hb
   have ht7 := there_later ht7 hb
   have ht8 := there_later ht8 hb
   have ht9 := there_later ht9 hb
   have HC11 := oC (.int .i64 7) hG 10
   have hbel0 := hbel
   clear hJ hG hall hb
   go_upto_region 12 with fail
   refine rgT [(12, 5), (40, 0), (0, 1), (0, 2), (0, 3), (0, 4)] [.oth (fun v => v = .slice (some ⟨bb, q, none⟩) 32 cap), .oth (fun v => v = .pointer (some ⟨bb, q + 31, none⟩)), .oth (fun v => v = .int .u8 (c.toNat : Int)), .oth (fun v => v = .int .u8 ((c.toNat : Int) / 128)), .oth (fun v => v = .bool o), .oth (fun v => v = .bool o)] ?_ ?_
   ·intro hs
    refine ⟨?_, ?_, ?_, ?_, ?_, ?_, trivial⟩
    ·exact mvK hs fun _ => rfl
    ·refine step_pureO hs Wn rfl fun L u W hG hdep => ⟨_, ?_, rfl⟩
     have e0 := (oE (.slice (some ⟨bb, q, none⟩) 32 cap) hG hdep 0)
     go_simp
    ·exact step_cell bb (q + 31) hs Wn rfl rfl (fun _ h => load_u8 h) (fun L u W hG hdep => (oE (.pointer (some ⟨bb, q + 31, none⟩)) hG hdep 1)) (cell_keep HCL.out hbel) Na
    ·refine step_pureO hs Wn rfl fun L u W hG hdep => ⟨_, ?_, rfl⟩
     have e0 := (oE (.int .u8 (c.toNat : Int)) hG hdep 2)
     go_simp
    ·refine step_pureO hs Wn rfl fun L u W hG hdep => ⟨_, ?_, rfl⟩
     have e0 := (oE (.int .u8 ((c.toNat : Int) / 128)) hG hdep 3)
     have e9 := HOB.out
     go_simp
     try exact e9
    ·exact mvO 4 hs
   intro L12 u12c W12c hall hJ hG
   have hb := hJ.all rfl
   have hbel := Below.call hbel hb
   have hm5 := hm5.later hb
   have hm7 := hm7.later hb
   have hm8 := hm8.later hb
   have hm9 := hm9.later hb
   have hm10 := hm10.later hb
   have ht2 := there_later ht2 hb
   have ht5 := there_later ht5 hb
   have ht7 := there_later ht7 hb
   have ht8 := there_later ht8 hb
   have ht9 := there_later ht9 hb
   have ht10 := there_later ht10 hb
   have HC57 := oC (.bool o) hG 4
   have HC12 := oC (.bool o) hG 5
   have hbel0 := hbel
   clear hJ hG hall hb
   go_upto_region 13 with fail
   refine rgT [(58, 0), (0, 1), (0, 2), (0, 3), (0, 4), (0, 5), (0, 6), (0, 7), (0, 8), (0, 9)] [.oth (fun v => v = .int .i64 7), .oth (fun v => v = .bool true), .oth (fun v => v = .bool true), .oth (fun v => v = undef), .oth (fun v => v = undef), .oth (fun v => v = undef), .oth (fun v => v = undef), .oth (fun v => v = undef), .oth (fun v => v = undef), .oth (fun v => v = .bool true)] ?_ ?_
   ·intro hs
    refine ⟨?_, ?_, ?_, ?_, ?_, ?_, ?_, ?_, ?_, ?_, trivial⟩
    ·exact mvK hs fun _ => HC11.out
    ·refine step_pureO hs Wn rfl fun L u W hG hdep => ⟨_, ?_, rfl⟩
     have e0 := (oE (.int .i64 7) hG hdep 0)
     go_simp
     try simp [bne]
    ·exact mvO 1 hs
    ·exact step_outU hs (wants_off 2 rfl rfl rfl (by kernel_rfl) (fun _ => rfl)) rfl
    ·exact step_outU hs (wants_off 2 rfl rfl rfl (by kernel_rfl) (fun _ => rfl)) rfl
    ·exact step_outU hs (wants_off 2 rfl rfl rfl (by kernel_rfl) (fun _ => rfl)) rfl
    ·exact step_outU hs (wants_off 2 rfl rfl rfl (by kernel_rfl) (fun _ => rfl)) rfl
    ·exact step_outU hs (wants_offU 6 rfl rfl (by kernel_rfl) (fun _ => rfl)) rfl
    ·exact step_outU hs (wants_off 2 rfl rfl rfl (by kernel_rfl) (fun _ => rfl)) rfl
    ·exact step_pick true hs Wn rfl rfl (fun L u W hG hdep => (oE (.bool true) hG hdep 2)) (fun L u W hG hdep => rfl)
   intro L13 u13c W13c hall hJ hG
   have hb := hJ.all rfl
   have hbel := Below.call hbel hb
   have hm5 := hm5.later hb
   have hm7 := hm7.later hb
   have hm8 := hm8.later hb
   have hm9 := hm9.later hb
   have hm10 := hm10.later hb
   have ht2 := there_later ht2 hb
   have ht5 := there_later ht5 hb
   have ht7 := there_later ht7 hb
   have ht8 := there_later ht8 hb
   have ht9 := there_later ht9 hb
   have ht10 := there_later ht10 hb
   have HC59 := oC (.bool true) hG 1
   have HC60 := oC (.bool true) hG 2
   have HC67 := oC (.bool true) hG 9
   have hbel0 := hbel
   clear hJ hG hall hb
   have hx : u13c 9 = .bool true := HC67.out
   go_wp2_with fail
   rw [hx]
   clear hx
   go_upto_region 14 with fail
   refine rgT [(3, 2), (64, 0)] [.val rQ [Cp.zero], .sto q2 rQ [Cp.zero], .oth (fun v => v = .int .i64 12)] ?_ ?_
   ·intro hs
    refine ⟨?_, ?_, ?_, trivial⟩
    ·refine step_call hs Wn rfl fun L u W hJ hG hL hdep K hK => ?_
     go_simp
     go_at_call 82
     (with_reducible refine (kZero _).mono ?_); rintro e w1 ⟨r, rfl, hr, hb⟩
     exact hK.out _ _ hr hb
    ·refine step_storeO q2 48 hs Wn rfl rfl (by kernel_rfl) (fun k hk => ?_) (fun _ => E2.out) (there_lt ht2 (by omega)) ht2 (gO 0) tyPt rfl
     rcases k with _ | _ | _ | k
     all_goals first | (exact absurd rfl hk) | (intro e; cases e; done)
    ·exact mvK hs fun _ => rfl
   intro L14 u14c W14c hall hJ hG
   have hb := hJ.beN hbel
   have hbel := hbel.trans hb
   have hm5 := kB hm5 hJ HD5_q2.out
   have hm7 := kB hm7 hJ HD7_q2.out
   have hm8 := kB hm8 hJ HD8_q2.out
   have hm9 := kB hm9 hJ HD9_q2.out
   have hm10 := kB hm10 hJ HD10_q2.out
   have ht5 := tB ht5 hJ HD5_q2.out
   have ht7 := tB ht7 hJ HD7_q2.out
   have ht8 := tB ht8 hJ HD8_q2.out
   have ht9 := tB ht9 hJ HD9_q2.out
   have ht10 := tB ht10 hJ HD10_q2.out
   obtain ⟨_, hs14_1t, hs14_1⟩ := oT 48 rQ [Cp.zero] hG 1
   have HC3 := oC (.int .i64 12) hG 2
   have hbel0 := hbel
   clear hJ hG hall hb
   go_wp2
   exact ret_cell_slot (R := rQ) Tryz.results46 (by exact E2.out) (by exact HC3.out) hs14_1 tyPt rfl (fun r hr => ⟨r, by rw [(dec_root HL.out HLW.out HY.out HR7.out).2], by rw [(dec_root HL.out HLW.out HY.out HR7.out).1]; exact hr, hbel⟩)
  ·have HRC := Lib.hid hrc; clear hrc
   go_upto_region 11 with fail
   refine rgM [(10, 8), (0, 10), (33, 5), (0, 0), (0, 1), (0, 2), (0, 3), (0, 4), (0, 6), (0, 7)] [.val rR [(y * y) - (fn 1)], .val rR [(dE * (y * y)) + (fn 1)], .val rR [finv ((dE * (y * y)) + (fn 1))], .val rR [((y * y) - (fn 1)) * (finv ((dE * (y * y)) + (fn 1)))], .oth (fun v => IsTV rR v [X] (.int .i64 0)), .oth (fun v => IsTV rR v [X] (.int .i64 0)), .val rR [X], .oth (fun v => v = .int .i64 0), .new 16, .st 8 rR [X], .oth (fun v => v = .int .i64 0)] ?_ ?_
   ·intro hs
    refine ⟨?_, ?_, ?_, ?_, ?_, ?_, ?_, ?_, ?_, ?_, ?_, trivial⟩
    ·exact step_load q8 0 hs Wn rfl rfl tyFe (fun _ => E8.out) hm8.lt hm8 Na
    ·exact step_load q9 0 hs Wn rfl rfl tyFe (fun _ => E9.out) hm9.lt hm9 Na
    ·refine step_call hs Wn rfl fun L u W hJ hG hL hdep K hK => ?_
     have a0 := (vE rR [(dE * (y * y)) + (fn 1)] hG hdep 1)
     go_simp
     go_at_call 79
     (with_reducible refine (kInv a0 _).mono ?_); rintro e w1 ⟨r, rfl, hr, hb⟩
     exact hK.out _ _ hr hb
    ·refine step_call hs Wn rfl fun L u W hJ hG hL hdep K hK => ?_
     have a0 := (vE rR [(y * y) - (fn 1)] hG hdep 0)
     have a1 := (vE rR [finv ((dE * (y * y)) + (fn 1))] hG hdep 2)
     go_simp
     go_at_call 78
     (with_reducible refine (kMul a0 a1 _).mono ?_); rintro e w1 ⟨r, rfl, hr, hb⟩
     exact hK.out _ _ hr hb
    ·refine step_callO hs Wn rfl fun L u W hJ hG hL hdep K hK => ?_
     have a0 := xx_fsR ((vE rR [((y * y) - (fn 1)) * (finv ((dE * (y * y)) + (fn 1)))] hG hdep 3))
     go_simp
     go_at_call 103
     (with_reducible refine (rrootN HX.out HRC.out a0 _).mono ?_); rintro e w1 ⟨r, rfl, hr, hb⟩
     exact hK.out _ _ ⟨r, rfl, hr⟩ hb
    ·exact step_pureO hs Wn rfl fun L u W hG hdep => ⟨_, run_move rfl, (show IsTV rR (u 4) [X] (.int .i64 0) from hG 4 (hdep 4 (by kernel_rfl)))⟩
    ·exact step_pure hs Wn rfl fun L u W hG hdep => run_extractV0 rfl (show IsTV rR (u 5) [X] (.int .i64 0) from hG 5 (hdep 5 (by kernel_rfl)))
    ·exact step_pureO hs Wn rfl fun L u W hG hdep => run_extractV1 rfl (show IsTV rR (u 5) [X] (.int .i64 0) from hG 5 (hdep 5 (by kernel_rfl)))
    ·exact step_alloc hs Wn rfl rfl (by omega) rfl allocFe
    ·exact step_store 8 hs (by kernel_rfl) Wn rfl rfl rfl (by kernel_rfl) (by kernel_rfl) (by kernel_rfl) (by kernel_rfl) (fun _ => rfl) (gO 6) tyFe rfl
    ·exact mvO 7 hs
   intro L11 u11d W11d hall hJ hG
   obtain ⟨q10, e10, hq10, _, ht10⟩ := oN 16 hG 8
   have hm10 := oS rR [X] hG 9 e10
   have HD10_q2 := Lib.hid (show q2 ≠ q10 by have := there_lt ht2 (by omega); omega)
   have HD10_q5 := Lib.hid (show q5 ≠ q10 by have := there_lt ht5 (by omega); omega)
   have HD10_q7 := Lib.hid (show q7 ≠ q10 by have := there_lt ht7 (by omega); omega)
   have HD10_q8 := Lib.hid (show q8 ≠ q10 by have := there_lt ht8 (by omega); omega)
   have HD10_q9 := Lib.hid (show q9 ≠ q10 by have := there_lt ht9 (by omega); omega)
   have hq10 : w.heap.size ≤ q10 := by have := hbel0.size; omega
   have E10 := Lib.hid e10; clear e10
   have hb := hJ.all rfl
   have hbel := Below.call hbel hb
   have hm5 := hm5.later hb
   have hm7 := hm7.later hb
   have hm8 := hm8.later hb
   have hm9 := hm9.later hb
   have ht2 := there_later ht2 hb
   have ht5 := there_later ht5 hb
   have ht7 := there_later ht7 hb
   have ht8 := there_later ht8 hb
   have ht9 := there_later ht9 hb
   have HC11 := oC (.int .i64 0) hG 10
   have hbel0 := hbel
   clear hJ hG hall hb
   go_upto_region 12 with fail
   refine rgT [(12, 5), (40, 0), (0, 1), (0, 2), (0, 3), (0, 4)] [.oth (fun v => v = .slice (some ⟨bb, q, none⟩) 32 cap), .oth (fun v => v = .pointer (some ⟨bb, q + 31, none⟩)), .oth (fun v => v = .int .u8 (c.toNat : Int)), .oth (fun v => v = .int .u8 ((c.toNat : Int) / 128)), .oth (fun v => v = .bool o), .oth (fun v => v = .bool o)] ?_ ?_
   ·intro hs
    refine ⟨?_, ?_, ?_, ?_, ?_, ?_, trivial⟩
    ·exact mvK hs fun _ => rfl
    ·refine step_pureO hs Wn rfl fun L u W hG hdep => ⟨_, ?_, rfl⟩
     have e0 := (oE (.slice (some ⟨bb, q, none⟩) 32 cap) hG hdep 0)
     go_simp
    ·exact step_cell bb (q + 31) hs Wn rfl rfl (fun _ h => load_u8 h) (fun L u W hG hdep => (oE (.pointer (some ⟨bb, q + 31, none⟩)) hG hdep 1)) (cell_keep HCL.out hbel) Na
    ·refine step_pureO hs Wn rfl fun L u W hG hdep => ⟨_, ?_, rfl⟩
     have e0 := (oE (.int .u8 (c.toNat : Int)) hG hdep 2)
     go_simp
    ·refine step_pureO hs Wn rfl fun L u W hG hdep => ⟨_, ?_, rfl⟩
     have e0 := (oE (.int .u8 ((c.toNat : Int) / 128)) hG hdep 3)
     have e9 := HOB.out
     go_simp
     try exact e9
    ·exact mvO 4 hs
   intro L12 u12d W12d hall hJ hG
   have hb := hJ.all rfl
   have hbel := Below.call hbel hb
   have hm5 := hm5.later hb
   have hm7 := hm7.later hb
   have hm8 := hm8.later hb
   have hm9 := hm9.later hb
   have hm10 := hm10.later hb
   have ht2 := there_later ht2 hb
   have ht5 := there_later ht5 hb
   have ht7 := there_later ht7 hb
   have ht8 := there_later ht8 hb
   have ht9 := there_later ht9 hb
   have ht10 := there_later ht10 hb
   have HC57 := oC (.bool o) hG 4
   have HC12 := oC (.bool o) hG 5
   have hbel0 := hbel
   clear hJ hG hall hb
   cases o
   ·skip
    by_cases hx0 : X = 0
    ·have HX0 := Lib.hid hx0; clear hx0
     go_upto_region 13 with fail
     refine rgT [(58, 0), (0, 1), (0, 2), (0, 3), (0, 4), (0, 5), (0, 6), (0, 7), (0, 8), (0, 9)] [.oth (fun v => v = .int .i64 0), .oth (fun v => v = .bool false), .oth (fun v => v = .bool false), .val rR [X], .val rR [0], .oth (fun v => v = .bool true), .oth (fun v => v = .bool true), .oth (fun v => v = .bool false), .oth (fun v => v = .bool false), .oth (fun v => v = .bool false)] ?_ ?_
     ·intro hs
      refine ⟨?_, ?_, ?_, ?_, ?_, ?_, ?_, ?_, ?_, ?_, trivial⟩
      ·exact mvK hs fun _ => HC11.out
      ·refine step_pureO hs Wn rfl fun L u W hG hdep => ⟨_, ?_, rfl⟩
       have e0 := (oE (.int .i64 0) hG hdep 0)
       go_simp
       try simp [bne]
      ·exact mvO 1 hs
      ·exact step_load q10 0 hs (wants_on 2 rfl rfl (by kernel_rfl) (fun _ => rfl)) rfl rfl tyFe (fun _ => E10.out) hm10.lt hm10 Na
      ·exact step_pure hs (wants_on 2 rfl rfl (by kernel_rfl) (fun _ => rfl)) rfl fun L u W hG hdep => run_build0 rfl (buildFe0 W)
      ·exact step_pureO hs (wants_on 2 rfl rfl (by kernel_rfl) (fun _ => rfl)) rfl fun L u W hG hdep => ⟨_, run_eqlR rfl (vE rR [X] hG hdep 3) (vE rR [0] hG hdep 4), by rw [decide_eq_true HX0.out]⟩
      ·exact step_pureO hs (wants_on 2 rfl rfl (by kernel_rfl) (fun _ => rfl)) rfl fun L u W hG hdep => ⟨_, run_move rfl, (oE (.bool true) hG hdep 5)⟩
      ·exact step_pureO hs (wants_on 6 rfl rfl (by kernel_rfl) (fun _ => rfl)) rfl fun L u W hG hdep => ⟨_, run_move rfl, HC12.out⟩
      ·exact step_pick true hs (wants_on 2 rfl rfl (by kernel_rfl) (fun _ => rfl)) rfl rfl (fun L u W hG hdep => (oE (.bool true) hG hdep 6)) (fun L u W hG hdep => (oE (.bool false) hG hdep 7))
      ·exact step_pick false hs Wn rfl rfl (fun L u W hG hdep => (oE (.bool false) hG hdep 2)) (fun L u W hG hdep => (oE (.bool false) hG hdep 8))
     intro L13 u13e W13e hall hJ hG
     have hb := hJ.all rfl
     have hbel := Below.call hbel hb
     have hm5 := hm5.later hb
     have hm7 := hm7.later hb
     have hm8 := hm8.later hb
     have hm9 := hm9.later hb
     have hm10 := hm10.later hb
     have ht2 := there_later ht2 hb
     have ht5 := there_later ht5 hb
     have ht7 := there_later ht7 hb
     have ht8 := there_later ht8 hb
     have ht9 := there_later ht9 hb
     have ht10 := there_later ht10 hb
     have HC59 := oC (.bool false) hG 1
     have HC60 := oC (.bool false) hG 2
     have HC63 := oC (.bool true) hG 5
     have HC64 := oC (.bool true) hG 6
     have HC65 := oC (.bool false) hG 7
     have HC66 := oC (.bool false) hG 8
     have HC67 := oC (.bool false) hG 9
     have hbel0 := hbel
     clear hJ hG hall hb
     have hx : u13e 9 = .bool false := HC67.out
     go_wp2_with fail
     rw [hx]
     clear hx
     go_upto_region 15 with fail
     refine rgT [(69, 0)] [.oth (fun v => v = .bool false)] ?_ ?_
     ·intro hs
      refine ⟨?_, trivial⟩
      ·exact mvK hs fun _ => HC12.out
     intro L15 u15e W15e hall hJ hG
     have hb := hJ.all rfl
     have hbel := Below.call hbel hb
     have hm5 := hm5.later hb
     have hm7 := hm7.later hb
     have hm8 := hm8.later hb
     have hm9 := hm9.later hb
     have hm10 := hm10.later hb
     have ht2 := there_later ht2 hb
     have ht5 := there_later ht5 hb
     have ht7 := there_later ht7 hb
     have ht8 := there_later ht8 hb
     have ht9 := there_later ht9 hb
     have ht10 := there_later ht10 hb
     have HC69 := oC (.bool false) hG 0
     have hbel0 := hbel
     clear hJ hG hall hb
     have hx : u15e 0 = .bool false := HC69.out
     go_wp2_with fail
     rw [hx]
     clear hx
     go_upto_region 17 with fail
     refine rgM [(3, 5), (68, 0), (0, 1), (0, 2), (0, 3)] [.val rR [X], .val rR [y], .val rR [fn 1], .val rR [X, y, fn 1], .sto q2 rR [X, y, fn 1], .oth (fun v => v = .int .i64 0)] ?_ ?_
     ·intro hs
      refine ⟨?_, ?_, ?_, ?_, ?_, ?_, trivial⟩
      ·exact step_load q10 0 hs Wn rfl rfl tyFe (fun _ => E10.out) hm10.lt hm10 (apN HD10_q2.out)
      ·exact step_load q5 0 hs Wn rfl rfl tyFe (fun _ => E5.out) hm5.lt hm5 (apN HD5_q2.out)
      ·refine step_call hs Wn rfl fun L u W hJ hG hL hdep K hK => ?_
       go_simp
       go_at_call 77
       (with_reducible refine (kSmallI (n := 1) (z := 1) rfl (by omega) _).mono ?_); rintro e w1 ⟨r, rfl, hr, hb⟩
       exact hK.out _ _ hr hb
      ·refine step_pure hs Wn rfl fun L u W hG hdep => ?_
       have a0 := (vE rR [X] hG hdep 0)
       have a1 := (vE rR [y] hG hdep 1)
       have a2 := (vE rR [fn 1] hG hdep 2)
       obtain ⟨r, hr, hx⟩ := build_Pt a0 a1 a2 W
       exact ⟨r, run_build3 rfl hr, hx⟩
      ·refine step_storeO q2 48 hs Wn rfl rfl (by kernel_rfl) (fun k hk => ?_) (fun _ => E2.out) (there_lt ht2 (by omega)) ht2 (gO 3) tyPt3 rfl
       rcases k with _ | _ | _ | _ | _ | _ | k
       all_goals first | (exact absurd rfl hk) | (intro e; cases e; done)
      ·exact mvK hs fun _ => rfl
     intro L17 u17e W17e hall hJ hG
     have hb := hJ.beN hbel
     have hbel := hbel.trans hb
     have hm5 := kB hm5 hJ HD5_q2.out
     have hm7 := kB hm7 hJ HD7_q2.out
     have hm8 := kB hm8 hJ HD8_q2.out
     have hm9 := kB hm9 hJ HD9_q2.out
     have hm10 := kB hm10 hJ HD10_q2.out
     have ht5 := tB ht5 hJ HD5_q2.out
     have ht7 := tB ht7 hJ HD7_q2.out
     have ht8 := tB ht8 hJ HD8_q2.out
     have ht9 := tB ht9 hJ HD9_q2.out
     have ht10 := tB ht10 hJ HD10_q2.out
     obtain ⟨_, hs17_4t, hs17_4⟩ := oT 48 rR [X, y, fn 1] hG 4
     have HC3 := oC (.int .i64 0) hG 5
     have hbel0 := hbel
     clear hJ hG hall hb
     go_wp2
     exact ret_cell_slot (R := rR) Tryz.results46 (by exact E2.out) (by exact HC3.out) hs17_4 tyPt3 rfl (fun r hr => ⟨r, by rw [(dec_yes HL.out HLW.out HY.out HRC.out HS.out (fun k => by cases k.1)).1], isQ hr (dec_prep (by rw [(dec_yes HL.out HLW.out HY.out HRC.out HS.out (fun k => by cases k.1)).2.1, HX.out]; rfl) (dec_yes HL.out HLW.out HY.out HRC.out HS.out (fun k => by cases k.1)).2.2), hbel⟩)
    ·have HX0 := Lib.hid hx0; clear hx0
     go_upto_region 13 with fail
     refine rgT [(58, 0), (0, 1), (0, 2), (0, 3), (0, 4), (0, 5), (0, 6), (0, 7), (0, 8), (0, 9)] [.oth (fun v => v = .int .i64 0), .oth (fun v => v = .bool false), .oth (fun v => v = .bool false), .val rR [X], .val rR [0], .oth (fun v => v = .bool false), .oth (fun v => v = .bool false), .oth (fun v => v = undef), .oth (fun v => v = .bool false), .oth (fun v => v = .bool false)] ?_ ?_
     ·intro hs
      refine ⟨?_, ?_, ?_, ?_, ?_, ?_, ?_, ?_, ?_, ?_, trivial⟩
      ·exact mvK hs fun _ => HC11.out
      ·refine step_pureO hs Wn rfl fun L u W hG hdep => ⟨_, ?_, rfl⟩
       have e0 := (oE (.int .i64 0) hG hdep 0)
       go_simp
       try simp [bne]
      ·exact mvO 1 hs
      ·exact step_load q10 0 hs (wants_on 2 rfl rfl (by kernel_rfl) (fun _ => rfl)) rfl rfl tyFe (fun _ => E10.out) hm10.lt hm10 Na
      ·exact step_pure hs (wants_on 2 rfl rfl (by kernel_rfl) (fun _ => rfl)) rfl fun L u W hG hdep => run_build0 rfl (buildFe0 W)
      ·exact step_pureO hs (wants_on 2 rfl rfl (by kernel_rfl) (fun _ => rfl)) rfl fun L u W hG hdep => ⟨_, run_eqlR rfl (vE rR [X] hG hdep 3) (vE rR [0] hG hdep 4), by rw [decide_eq_false HX0.out]⟩
      ·exact step_pureO hs (wants_on 2 rfl rfl (by kernel_rfl) (fun _ => rfl)) rfl fun L u W hG hdep => ⟨_, run_move rfl, (oE (.bool false) hG hdep 5)⟩
      ·exact step_outU hs (wants_off 6 rfl rfl rfl (by kernel_rfl) (fun _ => rfl)) rfl
      ·exact step_pick false hs (wants_on 2 rfl rfl (by kernel_rfl) (fun _ => rfl)) rfl rfl (fun L u W hG hdep => (oE (.bool false) hG hdep 6)) (fun L u W hG hdep => rfl)
      ·exact step_pick false hs Wn rfl rfl (fun L u W hG hdep => (oE (.bool false) hG hdep 2)) (fun L u W hG hdep => (oE (.bool false) hG hdep 8))
     intro L13 u13f W13f hall hJ hG
     have hb := hJ.all rfl
     have hbel := Below.call hbel hb
     have hm5 := hm5.later hb
     have hm7 := hm7.later hb
     have hm8 := hm8.later hb
     have hm9 := hm9.later hb
     have hm10 := hm10.later hb
     have ht2 := there_later ht2 hb
     have ht5 := there_later ht5 hb
     have ht7 := there_later ht7 hb
     have ht8 := there_later ht8 hb
     have ht9 := there_later ht9 hb
     have ht10 := there_later ht10 hb
     have HC59 := oC (.bool false) hG 1
     have HC60 := oC (.bool false) hG 2
     have HC63 := oC (.bool false) hG 5
     have HC64 := oC (.bool false) hG 6
     have HC66 := oC (.bool false) hG 8
     have HC67 := oC (.bool false) hG 9
     have hbel0 := hbel
     clear hJ hG hall hb
     have hx : u13f 9 = .bool false := HC67.out
     go_wp2_with fail
     rw [hx]
     clear hx
     go_upto_region 15 with fail
     refine rgT [(69, 0)] [.oth (fun v => v = .bool false)] ?_ ?_
     ·intro hs
      refine ⟨?_, trivial⟩
      ·exact mvK hs fun _ => HC12.out
     intro L15 u15f W15f hall hJ hG
     have hb := hJ.all rfl
     have hbel := Below.call hbel hb
     have hm5 := hm5.later hb
     have hm7 := hm7.later hb
     have hm8 := hm8.later hb
     have hm9 := hm9.later hb
     have hm10 := hm10.later hb
     have ht2 := there_later ht2 hb
     have ht5 := there_later ht5 hb
     have ht7 := there_later ht7 hb
     have ht8 := there_later ht8 hb
     have ht9 := there_later ht9 hb
     have ht10 := there_later ht10 hb
     have HC69 := oC (.bool false) hG 0
     have hbel0 := hbel
     clear hJ hG hall hb
     have hx : u15f 0 = .bool false := HC69.out
     go_wp2_with fail
     rw [hx]
     clear hx
     go_upto_region 17 with fail
     refine rgM [(3, 5), (68, 0), (0, 1), (0, 2), (0, 3)] [.val rR [X], .val rR [y], .val rR [fn 1], .val rR [X, y, fn 1], .sto q2 rR [X, y, fn 1], .oth (fun v => v = .int .i64 0)] ?_ ?_
     ·intro hs
      refine ⟨?_, ?_, ?_, ?_, ?_, ?_, trivial⟩
      ·exact step_load q10 0 hs Wn rfl rfl tyFe (fun _ => E10.out) hm10.lt hm10 (apN HD10_q2.out)
      ·exact step_load q5 0 hs Wn rfl rfl tyFe (fun _ => E5.out) hm5.lt hm5 (apN HD5_q2.out)
      ·refine step_call hs Wn rfl fun L u W hJ hG hL hdep K hK => ?_
       go_simp
       go_at_call 77
       (with_reducible refine (kSmallI (n := 1) (z := 1) rfl (by omega) _).mono ?_); rintro e w1 ⟨r, rfl, hr, hb⟩
       exact hK.out _ _ hr hb
      ·refine step_pure hs Wn rfl fun L u W hG hdep => ?_
       have a0 := (vE rR [X] hG hdep 0)
       have a1 := (vE rR [y] hG hdep 1)
       have a2 := (vE rR [fn 1] hG hdep 2)
       obtain ⟨r, hr, hx⟩ := build_Pt a0 a1 a2 W
       exact ⟨r, run_build3 rfl hr, hx⟩
      ·refine step_storeO q2 48 hs Wn rfl rfl (by kernel_rfl) (fun k hk => ?_) (fun _ => E2.out) (there_lt ht2 (by omega)) ht2 (gO 3) tyPt3 rfl
       rcases k with _ | _ | _ | _ | _ | _ | k
       all_goals first | (exact absurd rfl hk) | (intro e; cases e; done)
      ·exact mvK hs fun _ => rfl
     intro L17 u17f W17f hall hJ hG
     have hb := hJ.beN hbel
     have hbel := hbel.trans hb
     have hm5 := kB hm5 hJ HD5_q2.out
     have hm7 := kB hm7 hJ HD7_q2.out
     have hm8 := kB hm8 hJ HD8_q2.out
     have hm9 := kB hm9 hJ HD9_q2.out
     have hm10 := kB hm10 hJ HD10_q2.out
     have ht5 := tB ht5 hJ HD5_q2.out
     have ht7 := tB ht7 hJ HD7_q2.out
     have ht8 := tB ht8 hJ HD8_q2.out
     have ht9 := tB ht9 hJ HD9_q2.out
     have ht10 := tB ht10 hJ HD10_q2.out
     obtain ⟨_, hs17_4t, hs17_4⟩ := oT 48 rR [X, y, fn 1] hG 4
     have HC3 := oC (.int .i64 0) hG 5
     have hbel0 := hbel
     clear hJ hG hall hb
     go_wp2
     exact ret_cell_slot (R := rR) Tryz.results46 (by exact E2.out) (by exact HC3.out) hs17_4 tyPt3 rfl (fun r hr => ⟨r, by rw [(dec_yes HL.out HLW.out HY.out HRC.out HS.out (fun k => HX0.out (HX.out.symm.trans k.2))).1], isQ hr (dec_prep (by rw [(dec_yes HL.out HLW.out HY.out HRC.out HS.out (fun k => HX0.out (HX.out.symm.trans k.2))).2.1, HX.out]; rfl) (dec_yes HL.out HLW.out HY.out HRC.out HS.out (fun k => HX0.out (HX.out.symm.trans k.2))).2.2), hbel⟩)
   ·skip
    by_cases hx0 : X = 0
    ·have HX0 := Lib.hid hx0; clear hx0
     go_upto_region 13 with fail
     refine rgT [(58, 0), (0, 1), (0, 2), (0, 3), (0, 4), (0, 5), (0, 6), (0, 7), (0, 8), (0, 9)] [.oth (fun v => v = .int .i64 0), .oth (fun v => v = .bool false), .oth (fun v => v = .bool false), .val rR [X], .val rR [0], .oth (fun v => v = .bool true), .oth (fun v => v = .bool true), .oth (fun v => v = .bool true), .oth (fun v => v = .bool true), .oth (fun v => v = .bool true)] ?_ ?_
     ·intro hs
      refine ⟨?_, ?_, ?_, ?_, ?_, ?_, ?_, ?_, ?_, ?_, trivial⟩
      ·exact mvK hs fun _ => HC11.out
      ·refine step_pureO hs Wn rfl fun L u W hG hdep => ⟨_, ?_, rfl⟩
       have e0 := (oE (.int .i64 0) hG hdep 0)
       go_simp
       try simp [bne]
      ·exact mvO 1 hs
      ·exact step_load q10 0 hs (wants_on 2 rfl rfl (by kernel_rfl) (fun _ => rfl)) rfl rfl tyFe (fun _ => E10.out) hm10.lt hm10 Na
      ·exact step_pure hs (wants_on 2 rfl rfl (by kernel_rfl) (fun _ => rfl)) rfl fun L u W hG hdep => run_build0 rfl (buildFe0 W)
      ·exact step_pureO hs (wants_on 2 rfl rfl (by kernel_rfl) (fun _ => rfl)) rfl fun L u W hG hdep => ⟨_, run_eqlR rfl (vE rR [X] hG hdep 3) (vE rR [0] hG hdep 4), by rw [decide_eq_true HX0.out]⟩
      ·exact step_pureO hs (wants_on 2 rfl rfl (by kernel_rfl) (fun _ => rfl)) rfl fun L u W hG hdep => ⟨_, run_move rfl, (oE (.bool true) hG hdep 5)⟩
      ·exact step_pureO hs (wants_on 6 rfl rfl (by kernel_rfl) (fun _ => rfl)) rfl fun L u W hG hdep => ⟨_, run_move rfl, HC12.out⟩
      ·exact step_pick true hs (wants_on 2 rfl rfl (by kernel_rfl) (fun _ => rfl)) rfl rfl (fun L u W hG hdep => (oE (.bool true) hG hdep 6)) (fun L u W hG hdep => (oE (.bool true) hG hdep 7))
      ·exact step_pick false hs Wn rfl rfl (fun L u W hG hdep => (oE (.bool false) hG hdep 2)) (fun L u W hG hdep => (oE (.bool true) hG hdep 8))
     intro L13 u13e W13e hall hJ hG
     have hb := hJ.all rfl
     have hbel := Below.call hbel hb
     have hm5 := hm5.later hb
     have hm7 := hm7.later hb
     have hm8 := hm8.later hb
     have hm9 := hm9.later hb
     have hm10 := hm10.later hb
     have ht2 := there_later ht2 hb
     have ht5 := there_later ht5 hb
     have ht7 := there_later ht7 hb
     have ht8 := there_later ht8 hb
     have ht9 := there_later ht9 hb
     have ht10 := there_later ht10 hb
     have HC59 := oC (.bool false) hG 1
     have HC60 := oC (.bool false) hG 2
     have HC63 := oC (.bool true) hG 5
     have HC64 := oC (.bool true) hG 6
     have HC65 := oC (.bool true) hG 7
     have HC66 := oC (.bool true) hG 8
     have HC67 := oC (.bool true) hG 9
     have hbel0 := hbel
     clear hJ hG hall hb
     have hx : u13e 9 = .bool true := HC67.out
     go_wp2_with fail
     rw [hx]
     clear hx
     go_upto_region 14 with fail
     refine rgT [(3, 2), (64, 0)] [.val rQ [Cp.zero], .sto q2 rQ [Cp.zero], .oth (fun v => v = .int .i64 12)] ?_ ?_
     ·intro hs
      refine ⟨?_, ?_, ?_, trivial⟩
      ·refine step_call hs Wn rfl fun L u W hJ hG hL hdep K hK => ?_
       go_simp
       go_at_call 82
       (with_reducible refine (kZero _).mono ?_); rintro e w1 ⟨r, rfl, hr, hb⟩
       exact hK.out _ _ hr hb
      ·refine step_storeO q2 48 hs Wn rfl rfl (by kernel_rfl) (fun k hk => ?_) (fun _ => E2.out) (there_lt ht2 (by omega)) ht2 (gO 0) tyPt rfl
       rcases k with _ | _ | _ | k
       all_goals first | (exact absurd rfl hk) | (intro e; cases e; done)
      ·exact mvK hs fun _ => rfl
     intro L14 u14e W14e hall hJ hG
     have hb := hJ.beN hbel
     have hbel := hbel.trans hb
     have hm5 := kB hm5 hJ HD5_q2.out
     have hm7 := kB hm7 hJ HD7_q2.out
     have hm8 := kB hm8 hJ HD8_q2.out
     have hm9 := kB hm9 hJ HD9_q2.out
     have hm10 := kB hm10 hJ HD10_q2.out
     have ht5 := tB ht5 hJ HD5_q2.out
     have ht7 := tB ht7 hJ HD7_q2.out
     have ht8 := tB ht8 hJ HD8_q2.out
     have ht9 := tB ht9 hJ HD9_q2.out
     have ht10 := tB ht10 hJ HD10_q2.out
     obtain ⟨_, hs14_1t, hs14_1⟩ := oT 48 rQ [Cp.zero] hG 1
     have HC3 := oC (.int .i64 12) hG 2
     have hbel0 := hbel
     clear hJ hG hall hb
     go_wp2
     exact ret_cell_slot (R := rQ) Tryz.results46 (by exact E2.out) (by exact HC3.out) hs14_1 tyPt rfl (fun r hr => ⟨r, by rw [(dec_sgn HL.out HLW.out HY.out HRC.out HS.out (HX.out.trans HX0.out)).2], by rw [(dec_sgn HL.out HLW.out HY.out HRC.out HS.out (HX.out.trans HX0.out)).1]; exact hr, hbel⟩)
    ·have HX0 := Lib.hid hx0; clear hx0
     go_upto_region 13 with fail
     refine rgT [(58, 0), (0, 1), (0, 2), (0, 3), (0, 4), (0, 5), (0, 6), (0, 7), (0, 8), (0, 9)] [.oth (fun v => v = .int .i64 0), .oth (fun v => v = .bool false), .oth (fun v => v = .bool false), .val rR [X], .val rR [0], .oth (fun v => v = .bool false), .oth (fun v => v = .bool false), .oth (fun v => v = undef), .oth (fun v => v = .bool false), .oth (fun v => v = .bool false)] ?_ ?_
     ·intro hs
      refine ⟨?_, ?_, ?_, ?_, ?_, ?_, ?_, ?_, ?_, ?_, trivial⟩
      ·exact mvK hs fun _ => HC11.out
      ·refine step_pureO hs Wn rfl fun L u W hG hdep => ⟨_, ?_, rfl⟩
       have e0 := (oE (.int .i64 0) hG hdep 0)
       go_simp
       try simp [bne]
      ·exact mvO 1 hs
      ·exact step_load q10 0 hs (wants_on 2 rfl rfl (by kernel_rfl) (fun _ => rfl)) rfl rfl tyFe (fun _ => E10.out) hm10.lt hm10 Na
      ·exact step_pure hs (wants_on 2 rfl rfl (by kernel_rfl) (fun _ => rfl)) rfl fun L u W hG hdep => run_build0 rfl (buildFe0 W)
      ·exact step_pureO hs (wants_on 2 rfl rfl (by kernel_rfl) (fun _ => rfl)) rfl fun L u W hG hdep => ⟨_, run_eqlR rfl (vE rR [X] hG hdep 3) (vE rR [0] hG hdep 4), by rw [decide_eq_false HX0.out]⟩
      ·exact step_pureO hs (wants_on 2 rfl rfl (by kernel_rfl) (fun _ => rfl)) rfl fun L u W hG hdep => ⟨_, run_move rfl, (oE (.bool false) hG hdep 5)⟩
      ·exact step_outU hs (wants_off 6 rfl rfl rfl (by kernel_rfl) (fun _ => rfl)) rfl
      ·exact step_pick false hs (wants_on 2 rfl rfl (by kernel_rfl) (fun _ => rfl)) rfl rfl (fun L u W hG hdep => (oE (.bool false) hG hdep 6)) (fun L u W hG hdep => rfl)
      ·exact step_pick false hs Wn rfl rfl (fun L u W hG hdep => (oE (.bool false) hG hdep 2)) (fun L u W hG hdep => (oE (.bool false) hG hdep 8))
     intro L13 u13f W13f hall hJ hG
     have hb := hJ.all rfl
     have hbel := Below.call hbel hb
     have hm5 := hm5.later hb
     have hm7 := hm7.later hb
     have hm8 := hm8.later hb
     have hm9 := hm9.later hb
     have hm10 := hm10.later hb
     have ht2 := there_later ht2 hb
     have ht5 := there_later ht5 hb
     have ht7 := there_later ht7 hb
     have ht8 := there_later ht8 hb
     have ht9 := there_later ht9 hb
     have ht10 := there_later ht10 hb
     have HC59 := oC (.bool false) hG 1
     have HC60 := oC (.bool false) hG 2
     have HC63 := oC (.bool false) hG 5
     have HC64 := oC (.bool false) hG 6
     have HC66 := oC (.bool false) hG 8
     have HC67 := oC (.bool false) hG 9
     have hbel0 := hbel
     clear hJ hG hall hb
     have hx : u13f 9 = .bool false := HC67.out
     go_wp2_with fail
     rw [hx]
     clear hx
     go_upto_region 15 with fail
     refine rgT [(69, 0)] [.oth (fun v => v = .bool true)] ?_ ?_
     ·intro hs
      refine ⟨?_, trivial⟩
      ·exact mvK hs fun _ => HC12.out
     intro L15 u15f W15f hall hJ hG
     have hb := hJ.all rfl
     have hbel := Below.call hbel hb
     have hm5 := hm5.later hb
     have hm7 := hm7.later hb
     have hm8 := hm8.later hb
     have hm9 := hm9.later hb
     have hm10 := hm10.later hb
     have ht2 := there_later ht2 hb
     have ht5 := there_later ht5 hb
     have ht7 := there_later ht7 hb
     have ht8 := there_later ht8 hb
     have ht9 := there_later ht9 hb
     have ht10 := there_later ht10 hb
     have HC69 := oC (.bool true) hG 0
     have hbel0 := hbel
     clear hJ hG hall hb
     have hx : u15f 0 = .bool true := HC69.out
     go_wp2_with fail
     rw [hx]
     clear hx
     go_upto_region 16 with fail
     refine rgT [(70, 0), (0, 1)] [.val rR [X], .val rR [-X], .sto q10 rR [-X]] ?_ ?_
     ·intro hs
      refine ⟨?_, ?_, ?_, trivial⟩
      ·exact step_load q10 0 hs Wn rfl rfl tyFe (fun _ => E10.out) hm10.lt hm10 Na
      ·refine step_call hs Wn rfl fun L u W hJ hG hL hdep K hK => ?_
       have a0 := (vE rR [X] hG hdep 0)
       go_simp
       go_at_call 104
       (with_reducible refine (kNeg a0 _).mono ?_); rintro e w1 ⟨r, rfl, hr, hb⟩
       exact hK.out _ _ hr hb
      ·refine step_storeO q10 16 hs Wn rfl rfl (by kernel_rfl) (fun k hk => ?_) (fun _ => E10.out) (there_lt ht10 (by omega)) ht10 (gO 1) tyFe rfl
       rcases k with _ | _ | _ | k
       all_goals first | (exact absurd rfl hk) | (intro e; cases e; done)
     intro L16 u16f W16f hall hJ hG
     have hb := hJ.beN hbel
     have hbel := hbel.trans hb
     have hm5 := kC hm5 hJ HD10_q5.out
     have hm7 := kC hm7 hJ HD10_q7.out
     have hm8 := kC hm8 hJ HD10_q8.out
     have hm9 := kC hm9 hJ HD10_q9.out
     have ht2 := tC ht2 hJ HD10_q2.out
     have ht5 := tC ht5 hJ HD10_q5.out
     have ht7 := tC ht7 hJ HD10_q7.out
     have ht8 := tC ht8 hJ HD10_q8.out
     have ht9 := tC ht9 hJ HD10_q9.out
     obtain ⟨_, hs16_2t, hs16_2⟩ := oT 16 rR [-X] hG 2
     have hbel0 := hbel
     clear hJ hG hall hb
     go_upto_region 17 with fail
     refine rgM [(3, 5), (68, 0), (0, 1), (0, 2), (0, 3)] [.val rR [-X], .val rR [y], .val rR [fn 1], .val rR [-X, y, fn 1], .sto q2 rR [-X, y, fn 1], .oth (fun v => v = .int .i64 0)] ?_ ?_
     ·intro hs
      refine ⟨?_, ?_, ?_, ?_, ?_, ?_, trivial⟩
      ·exact step_load q10 0 hs Wn rfl rfl tyFe (fun _ => E10.out) hs16_2.lt hs16_2 (apN HD10_q2.out)
      ·exact step_load q5 0 hs Wn rfl rfl tyFe (fun _ => E5.out) hm5.lt hm5 (apN HD5_q2.out)
      ·refine step_call hs Wn rfl fun L u W hJ hG hL hdep K hK => ?_
       go_simp
       go_at_call 77
       (with_reducible refine (kSmallI (n := 1) (z := 1) rfl (by omega) _).mono ?_); rintro e w1 ⟨r, rfl, hr, hb⟩
       exact hK.out _ _ hr hb
      ·refine step_pure hs Wn rfl fun L u W hG hdep => ?_
       have a0 := (vE rR [-X] hG hdep 0)
       have a1 := (vE rR [y] hG hdep 1)
       have a2 := (vE rR [fn 1] hG hdep 2)
       obtain ⟨r, hr, hx⟩ := build_Pt a0 a1 a2 W
       exact ⟨r, run_build3 rfl hr, hx⟩
      ·refine step_storeO q2 48 hs Wn rfl rfl (by kernel_rfl) (fun k hk => ?_) (fun _ => E2.out) (there_lt ht2 (by omega)) ht2 (gO 3) tyPt3 rfl
       rcases k with _ | _ | _ | _ | _ | _ | k
       all_goals first | (exact absurd rfl hk) | (intro e; cases e; done)
      ·exact mvK hs fun _ => rfl
     intro L17 u17f W17f hall hJ hG
     have hb := hJ.beN hbel
     have hbel := hbel.trans hb
     have hm5 := kB hm5 hJ HD5_q2.out
     have hm7 := kB hm7 hJ HD7_q2.out
     have hm8 := kB hm8 hJ HD8_q2.out
     have hm9 := kB hm9 hJ HD9_q2.out
     have hs16_2 := kB hs16_2 hJ HD10_q2.out
     have ht5 := tB ht5 hJ HD5_q2.out
     have ht7 := tB ht7 hJ HD7_q2.out
     have ht8 := tB ht8 hJ HD8_q2.out
     have ht9 := tB ht9 hJ HD9_q2.out
     have hs16_2t := tB hs16_2t hJ HD10_q2.out
     obtain ⟨_, hs17_4t, hs17_4⟩ := oT 48 rR [-X, y, fn 1] hG 4
     have HC3 := oC (.int .i64 0) hG 5
     have hbel0 := hbel
     clear hJ hG hall hb
     go_wp2
     exact ret_cell_slot (R := rR) Tryz.results46 (by exact E2.out) (by exact HC3.out) hs17_4 tyPt3 rfl (fun r hr => ⟨r, by rw [(dec_yes HL.out HLW.out HY.out HRC.out HS.out (fun k => HX0.out (HX.out.symm.trans k.2))).1], isQ hr (dec_prep (by rw [(dec_yes HL.out HLW.out HY.out HRC.out HS.out (fun k => HX0.out (HX.out.symm.trans k.2))).2.1, HX.out]; rfl) (dec_yes HL.out HLW.out HY.out HRC.out HS.out (fun k => HX0.out (HX.out.symm.trans k.2))).2.2), hbel⟩)
theorem kDecode {a : Option Addr} {n cap : Nat} {l : List UInt8} {P : EP} {c : Int} {w : World} (hP : decV l = P) (hc : decC l = c) (h : RdB w a n cap l) :
  Calls Tryz.prog 46 #[.slice a n cap] w fun e w' => ∃ r, e = .returned (.tuple #[r, .int .i64 c]) ∧ IsFs rQ r [P] ∧ Below w.heap.size w w' := by
 subst hP hc
 by_cases hn : n = 32
 ·subst hn
  obtain ⟨b, q, rfl, hc0⟩ := h.get 31 (by rw [h.hlen]; omega)
  exact qdecode_32 w rfl h
 ·obtain ⟨e1, e2⟩ := dec_len (b := l) (by rw [h.hlen]; exact hn)
  rw [e1, e2]
  exact qdecode_len w hn
theorem base_y : fn 4 * finv (fn 5) = base.y := by
 have h1 : base.y * fn 5 = fn 4 := by show baseY * fn 5 = fn 4; decide +kernel
 have h3 := finv_mul (x := fn 5) (by decide +kernel)
 rw [← h1]
 generalize finv (fn 5) = u at *
 generalize fn 5 = v at *
 generalize base.y = b at *
 clear h1
 grind
theorem base_even : ¬ base.x.val % 2 = 1 := by show ¬ baseX.val % 2 = 1; decide +kernel
theorem dec_base2 : decV (leB 32 (fn 4 * finv (fn 5)).val) = base ∧ decC (leB 32 (fn 4 * finv (fn 5)).val) = 0 := by
 rw [base_y, enc_even base_even]
 unfold decV decC
 rw [decP_enc]
 exact ⟨rfl, rfl⟩
set_option maxRecDepth 100000 in
set_option maxHeartbeats 4000000 in
theorem kBase  (w : World) :
  Calls Tryz.prog 32 #[] w fun e w' => ∃ r, e = .returned r ∧ IsFs rQ r [base] ∧ Below w.heap.size w w' := by
 go_enter Tryz.func32, Tryz.ntmps32
 have hbel : Below w.heap.size w w := Below.refl _ _
 have hbel0 := hbel
 go_upto_region 0 with fail
 refine rgT [(0, 0)] [.new 48] ?_ ?_
 ·intro hs
  refine ⟨?_, trivial⟩
  ·exact step_alloc hs Wn rfl rfl (by omega) rfl allocPt
 intro L0 u0 W0 hall hJ hG
 obtain ⟨q0, e0, hq0, _, ht0⟩ := oN 48 hG 0
 have hq0 : w.heap.size ≤ q0 := by have := hbel0.size; omega
 have E0 := Lib.hid e0; clear e0
 have hb := hJ.all rfl
 have hbel := Below.call hbel hb
 have hbel0 := hbel
 clear hJ hG hall hb
 go_upto_region 1 with fail
 refine rgT [(1, 4), (2, 0), (0, 1), (0, 2), (0, 3)] [.val rR [fn 4], .val rR [fn 5], .val rR [finv (fn 5)], .val rR [(fn 4) * (finv (fn 5))], .new 16, .st 4 rR [(fn 4) * (finv (fn 5))]] ?_ ?_
 ·intro hs
  refine ⟨?_, ?_, ?_, ?_, ?_, ?_, trivial⟩
  ·refine step_call hs Wn rfl fun L u W hJ hG hL hdep K hK => ?_
   go_simp
   go_at_call 77
   (with_reducible refine (kSmallI (n := 4) (z := 4) rfl (by omega) _).mono ?_); rintro e w1 ⟨r, rfl, hr, hb⟩
   exact hK.out _ _ hr hb
  ·refine step_call hs Wn rfl fun L u W hJ hG hL hdep K hK => ?_
   go_simp
   go_at_call 77
   (with_reducible refine (kSmallI (n := 5) (z := 5) rfl (by omega) _).mono ?_); rintro e w1 ⟨r, rfl, hr, hb⟩
   exact hK.out _ _ hr hb
  ·refine step_call hs Wn rfl fun L u W hJ hG hL hdep K hK => ?_
   have a0 := (vE rR [fn 5] hG hdep 1)
   go_simp
   go_at_call 79
   (with_reducible refine (kInv a0 _).mono ?_); rintro e w1 ⟨r, rfl, hr, hb⟩
   exact hK.out _ _ hr hb
  ·refine step_call hs Wn rfl fun L u W hJ hG hL hdep K hK => ?_
   have a0 := (vE rR [fn 4] hG hdep 0)
   have a1 := (vE rR [finv (fn 5)] hG hdep 2)
   go_simp
   go_at_call 78
   (with_reducible refine (kMul a0 a1 _).mono ?_); rintro e w1 ⟨r, rfl, hr, hb⟩
   exact hK.out _ _ hr hb
  ·exact step_alloc hs Wn rfl rfl (by omega) rfl allocFe
  ·exact step_store 4 hs (by kernel_rfl) Wn rfl rfl rfl (by kernel_rfl) (by kernel_rfl) (by kernel_rfl) (by kernel_rfl) (fun _ => rfl) (gO 3) tyFe rfl
 intro L1 u1 W1 hall hJ hG
 obtain ⟨q1, e1, hq1, _, ht1⟩ := oN 16 hG 4
 have hm1 := oS rR [(fn 4) * (finv (fn 5))] hG 5 e1
 have HD1_q0 := Lib.hid (show q0 ≠ q1 by have := there_lt ht0 (by omega); omega)
 have hq1 : w.heap.size ≤ q1 := by have := hbel0.size; omega
 have E1 := Lib.hid e1; clear e1
 have hb := hJ.all rfl
 have hbel := Below.call hbel hb
 have ht0 := there_later ht0 hb
 have hbel0 := hbel
 clear hJ hG hall hb
 go_upto_region 2 with fail
 refine rgT [(2, 6), (0, 8), (4, 3), (0, 0), (0, 1), (0, 2), (0, 4), (0, 5)] [.val rR [(fn 4) * (finv (fn 5))], .rdt (leB 32 ((fn 4) * (finv (fn 5))).val) 2, .oth (fun v => IsTV rQ v [base] (.int .i64 0)), .oth (fun v => IsTV rQ v [base] (.int .i64 0)), .val rQ [base], .oth (fun v => v = .int .i64 0), .new 48, .st 6 rQ [base], .oth (fun v => v = .int .i64 0)] ?_ ?_
 ·intro hs
  refine ⟨?_, ?_, ?_, ?_, ?_, ?_, ?_, ?_, ?_, trivial⟩
  ·exact step_load q1 0 hs Wn rfl rfl tyFe (fun _ => E1.out) hm1.lt hm1 Na
  ·refine step_callRt hs Wn rfl fun L u W hJ hG hL hdep K hK => ?_
   have a0 := (vE rR [(fn 4) * (finv (fn 5))] hG hdep 0)
   go_simp
   go_at_call 80
   (with_reducible refine (kBytes a0 _).mono ?_); rintro e w1 ⟨g, n, cap, r, rfl, h1, h2, h3, h4, h5, hb⟩
   exact hK.out _ _ _ _ _ h1 h2 h3 h4 h5 hb
  ·refine step_callO hs Wn rfl fun L u W hJ hG hL hdep K hK => ?_
   obtain ⟨gR0, nR0, cR0, rR0, x0, _, hRn0, hRc0, hRm0, hR0⟩ := (show ∃ g n cap r, u 1 = .slice (some ⟨g, 0, none⟩) n cap ∧ W1.heap.size ≤ g ∧ (leB 32 ((fn 4) * (finv (fn 5))).val).length = n ∧ n ≤ cap ∧ cap ≤ maxLen ∧ (L 2 = false → Blk W g ((leB 32 ((fn 4) * (finv (fn 5))).val).map bV ++ r) 5) from hG 1 (hdep 1 (by kernel_rfl)))
   have hB0 := RdB.blk rR0 (hR0 hL) hRn0 hRc0 hRm0
   go_simp
   go_at_call 46
   (with_reducible refine (kDecode dec_base2.1 dec_base2.2 hB0).mono ?_); rintro e w1 ⟨r, rfl, hr, hb⟩
   have hk := hK.out _ _ ⟨r, rfl, hr⟩ hb
   simp only [x0] at hk
   exact hk
  ·exact step_pureO hs Wn rfl fun L u W hG hdep => ⟨_, run_move rfl, (show IsTV rQ (u 2) [base] (.int .i64 0) from hG 2 (hdep 2 (by kernel_rfl)))⟩
  ·exact step_pure hs Wn rfl fun L u W hG hdep => run_extractV0 rfl (show IsTV rQ (u 3) [base] (.int .i64 0) from hG 3 (hdep 3 (by kernel_rfl)))
  ·exact step_pureO hs Wn rfl fun L u W hG hdep => run_extractV1 rfl (show IsTV rQ (u 3) [base] (.int .i64 0) from hG 3 (hdep 3 (by kernel_rfl)))
  ·exact step_alloc hs Wn rfl rfl (by omega) rfl allocPt
  ·exact step_store 6 hs (by kernel_rfl) Wn rfl rfl rfl (by kernel_rfl) (by kernel_rfl) (by kernel_rfl) (by kernel_rfl) (fun _ => rfl) (gO 4) tyPt rfl
  ·exact mvO 5 hs
 intro L2 u2 W2 hall hJ hG
 obtain ⟨q2, e2, hq2, _, ht2⟩ := oN 48 hG 6
 have hm2 := oS rQ [base] hG 7 e2
 have HD2_q0 := Lib.hid (show q0 ≠ q2 by have := there_lt ht0 (by omega); omega)
 have HD2_q1 := Lib.hid (show q1 ≠ q2 by have := there_lt ht1 (by omega); omega)
 have hq2 : w.heap.size ≤ q2 := by have := hbel0.size; omega
 have E2 := Lib.hid e2; clear e2
 have hb := hJ.all rfl
 have hbel := Below.call hbel hb
 have hm1 := hm1.later hb
 have ht0 := there_later ht0 hb
 have ht1 := there_later ht1 hb
 have hbel0 := hbel
 clear hJ hG hall hb
 go_upto_region 3 with fail
 refine rgT [(14, 0)] [.val rQ [base], .sto q0 rQ [base]] ?_ ?_
 ·intro hs
  refine ⟨?_, ?_, trivial⟩
  ·exact step_load q2 0 hs Wn rfl rfl tyPt (fun _ => E2.out) hm2.lt hm2 (apN HD2_q0.out)
  ·refine step_storeO q0 48 hs Wn rfl rfl (by kernel_rfl) (fun k hk => ?_) (fun _ => E0.out) (there_lt ht0 (by omega)) ht0 (gO 0) tyPt rfl
   rcases k with _ | _ | k
   all_goals first | (exact absurd rfl hk) | (intro e; cases e; done)
 intro L3 u3 W3 hall hJ hG
 have hb := hJ.beN hbel
 have hbel := hbel.trans hb
 have hm1 := kB hm1 hJ HD1_q0.out
 have hm2 := kB hm2 hJ HD2_q0.out
 have ht1 := tB ht1 hJ HD1_q0.out
 have ht2 := tB ht2 hJ HD2_q0.out
 obtain ⟨_, hs3_1t, hs3_1⟩ := oT 48 rQ [base] hG 1
 have hbel0 := hbel
 clear hJ hG hall hb
 go_wp2
 exact ret_cell1 (R := rQ) Tryz.results32 (by exact E0.out) hs3_1 tyPt rfl (fun r hr => ⟨r, rfl, hr, hbel⟩)
end Go.Proofs.YtielgpefoameiaaGreat
namespace Go.Proofs.YtielgpefoameiaaGreat
open Go Go.RowKit
end Go.Proofs.YtielgpefoameiaaGreat
namespace Go.Proofs.YtielgpefoameiaaGreat
open Go Go.RowKit
end Go.Proofs.YtielgpefoameiaaGreat
namespace Go.Proofs.YtielgpefoameiaaGreat
open Go Go.RowKit
/-- The document's example. -/
def awSeed : List UInt8 := [157, 97, 177, 157, 239, 253, 90, 96, 186, 132, 74, 244, 146, 236, 44, 196, 68, 73, 197, 105, 123, 50, 105, 25, 112, 59, 172, 3, 28, 174, 127, 96]
def awX : F := fn 38815646466658113194383306759739515082307681141926459231621296960732224964046
def awY : F := fn 11903303657706407974989296177215005343713679411332034699907763981919547054807
def awN : Nat := 7196903412274038802701538263280187907152860435200743670699908441353638128764
theorem aw_num : (edA awSeed).val = awN := by decide +kernel
theorem aw_pt : (Cp.mul awN base).x = awX ∧ (Cp.mul awN base).y = awY := by
 obtain ⟨X, Y, Z, e, hz, hx, hy⟩ := mulN_ok 253 awN (by decide +kernel)
 have h : (mulN 253 awN).1 = mulQ awX.val (mulN 253 awN).2.2 ∧ (mulN 253 awN).2.1 = mulQ awY.val (mulN 253 awN).2.2 := by decide +kernel
 rw [e] at h
 obtain ⟨h1, h2⟩ := h
 have hX : X = awX * Z := F.ext' h1
 have hY : Y = awY * Z := F.ext' h2
 generalize awX = ax at *
 generalize awY = ay at *
 generalize (Cp.mul awN base).x = x at *
 generalize (Cp.mul awN base).y = y at *
 have e1 : (x - ax) * Z = 0 := by clear h1 h2 e hz hy hY; grind
 have e2 : (y - ay) * Z = 0 := by clear h1 h2 e hz hx hX e1; grind
 constructor
 ·rcases F.dom e1 with h | h
  ·exact sub_nil h
  ·exact absurd h hz
 ·rcases F.dom e2 with h | h
  ·exact sub_nil h
  ·exact absurd h hz
theorem aw_pub : (edPub awSeed).take 4 = [215, 90, 152, 1] := by
 unfold edPub encP
 rw [aw_num, aw_pt.1, aw_pt.2]
 decide +kernel
end Go.Proofs.YtielgpefoameiaaGreat
namespace Go.Proofs.YtielgpefoameiaaGreat
open Go Go.RowKit
/-- A sum held at 2^40. -/
def held (n : Int) : Int := if n ≤ 1099511627776 then n else 1099511627776
set_option maxRecDepth 100000 in
set_option maxHeartbeats 1000000 in
theorem sum2_any {g : Nat} {n x : Int} (w : World) (h : Blk w g [.int .i64 x, .int .i64 1] 3) (hn : 0 ≤ n) (hn2 : n ≤ 1099511627776) (hx : 0 ≤ x) (hx2 : x ≤ 9223372036854775807) :
  Calls Tryz.prog 17 #[.int .i64 n, .slice (some ⟨g, 0, none⟩) 2 2] w fun e w' => e = .returned (.int .i64 (held (n + x + 1))) ∧ Below w.heap.size w w' := by
 have c0 : w.cell? ⟨g, 0, none⟩ = some (.int .i64 x) := h.cell 0
 have c1 : w.cell? ⟨g, 1, none⟩ = some (.int .i64 1) := h.cell 1
 have hg0 : decide (1099511627776 < n) = false := decide_eq_false (by omega)
 have hw : IntKind.i64.wrap (1099511627776 - n) = 1099511627776 - n := by rw [IntKind.wrap_i64]; omega
 clear h
 by_cases h1 : 1099511627776 - n < x
 ·have HF : Hid (held (n + x + 1) = 1099511627776) := Lib.hid (by unfold held; rw [if_neg (by omega)])
  have hd : decide (1099511627776 - n < x) = true := decide_eq_true h1
  go_enter Tryz.func17, Tryz.ntmps17
  go_wp2
  refine wp_loop_rounds 1 ?_
  rw [rounds_succ]
  go_wp2
  go_ret
  exact ⟨by rw [HF.out]; rfl, belowBy⟩
 ·have hd : decide (1099511627776 - n < x) = false := decide_eq_false h1
  obtain ⟨m, hm⟩ : ∃ m, m = n + x := ⟨_, rfl⟩
  have hm0 : 0 ≤ m := by omega
  have hm1 : m ≤ 1099511627776 := by omega
  have hw2 : IntKind.i64.wrap (n + x) = m := by rw [IntKind.wrap_i64]; omega
  have hg1 : decide (1099511627776 < m) = false := decide_eq_false (by omega)
  have hw3 : IntKind.i64.wrap (1099511627776 - m) = 1099511627776 - m := by rw [IntKind.wrap_i64]; omega
  have HM := Lib.hid hm
  clear hm
  by_cases h2 : 1099511627776 - m < 1
  ·have HF : Hid (held (n + x + 1) = 1099511627776) := Lib.hid (by unfold held; rw [if_neg (by have := HM.out; omega)])
   have hd2 : decide (1099511627776 - m < 1) = true := decide_eq_true h2
   go_enter Tryz.func17, Tryz.ntmps17
   go_wp2
   refine wp_loop_rounds 2 ?_
   rw [rounds_succ]
   go_wp2
   rw [rounds_succ]
   go_wp2
   go_ret
   exact ⟨by rw [HF.out]; rfl, belowBy⟩
  ·have HF : Hid (held (n + x + 1) = m + 1) := Lib.hid (by unfold held; rw [if_pos (by have := HM.out; omega), HM.out])
   have hd2 : decide (1099511627776 - m < 1) = false := decide_eq_false h2
   go_enter Tryz.func17, Tryz.ntmps17
   go_wp2
   refine wp_loop_rounds 3 ?_
   rw [rounds_succ]
   go_wp2
   rw [rounds_succ]
   go_wp2
   rw [rounds_succ]
   go_wp2
   go_ret
   exact ⟨by rw [HF.out]; rfl, belowBy⟩
/-- How many bytes, and rows, held. -/
def allN (ls : List (List UInt8)) (k : Nat) : Int := held ((lens ls k : Int) + (k : Int))
theorem held_add {a b : Int} (hb : 0 ≤ b) : held (held a + b) = held (a + b) := by unfold held; split <;> split <;> (try split) <;> omega
theorem allN_succ {ls : List (List UInt8)} {k : Nat} (h : k < ls.length) : held (allN ls k + (ls[k].length : Int) + 1) = allN ls (k + 1) := by
 unfold allN
 rw [lens_succ ls k h, Int.add_assoc, held_add (by omega)]
 congr 1
 omega
theorem allN_le (ls : List (List UInt8)) (k : Nat) : 0 ≤ allN ls k ∧ allN ls k ≤ 1099511627776 := by unfold allN held; split <;> omega
/-- Where counting ends. -/
def allF (ls : List (List UInt8)) : Nat → Nat → Int
 | 0, k => allN ls k
 | f + 1, k => if allN ls k ≤ 300 then allF ls f (k + 1) else allN ls k
def allZ (ls : List (List UInt8)) : Int := allF ls ls.length 0
theorem allF_few (ls : List (List UInt8)) : ∀ f k, f + k = ls.length → allF ls f k ≤ 300 → allN ls ls.length ≤ 300
 | 0, k, h, h2 => by rw [Nat.zero_add] at h; subst h; exact h2
 | f + 1, k, h, h2 => by
  rw [allF] at h2
  split at h2
  ·exact allF_few ls f (k + 1) (by omega) h2
  ·rename_i h3; exact absurd h2 h3
theorem allZ_few {ls : List (List UInt8)} (h : allZ ls ≤ 300) : ls.flatten.length ≤ 300 := by
 have h2 := allF_few ls _ _ rfl h
 have e : lens ls ls.length = ls.flatten.length := by unfold lens; rw [List.take_length]
 unfold allN held at h2
 rw [e] at h2
 split at h2 <;> omega
set_option maxRecDepth 100000 in
set_option maxHeartbeats 1000000 in
theorem all_any {a : Option Addr} {n cap : Nat} {ls : List (List UInt8)} {z : Int} {w : World} (h : RdRows w a n cap ls) (hz : allZ ls = z) :
  Calls Tryz.prog 5 #[.slice a n cap, .int .i64 300] w fun e w' => e = .returned (.int .i64 z) ∧ Below w.heap.size w w' := by
 have HZ : Hid (allF ls n 0 = z) := Lib.hid (by rw [← hz, ← h.hlen]; rfl)
 clear hz
 have HL := Lib.hid h.hlen
 have HR := Lib.hid h
 have hm63 : (n : Int) ≤ 9223372036854775807 := by have := h.hcap; have := h.hmax; unfold maxLen at *; omega
 clear h
 go_enter Tryz.func5, Tryz.ntmps5
 go_wp2
 go_loopw [5, 6] (fun s i wr => ∃ k : Nat, k ≤ n ∧ i = .int .i64 k ∧ s = .int .i64 (allN ls k) ∧ allF ls (n - k) k = z ∧ Below w.heap.size w wr) (fun _ i _ => n - (intOf i).toNat)
 case atStart => exact ⟨0, by omega, rfl, rfl, HZ.out, Below.refl _ _⟩
 case round =>
  obtain ⟨k, hk, rfl, rfl, hF, hbel⟩ := hrel
  obtain ⟨hp0, hp1⟩ := allN_le ls k
  by_cases hlt : k < n
  ·by_cases h3 : allN ls k ≤ 300
   ·have hd3 : decide (allN ls k ≤ 300) = true := decide_eq_true h3
    have HF : Hid (allF ls (n - (k + 1)) (k + 1) = z) := Lib.hid (by
     rw [show n - k = (n - (k + 1)) + 1 by omega, allF, if_pos h3] at hF; exact hF)
    clear hF
    have hkl : k < ls.length := by rw [HL.out]; exact hlt
    rcases HR.out.cases with ⟨h0, _⟩ | ⟨b, o, _, rfl, hget⟩
    ·omega
    ·obtain ⟨sa, sn, sc, hc, hr⟩ := hget k hkl
     have hc2 : wr.cell? ⟨b, o + k, none⟩ = some (.slice sa sn sc) := by rw [hbel.cell (cell_lt hc)]; exact hc
     have HS : Hid (held (allN ls k + (sn : Int) + 1) = allN ls (k + 1)) := Lib.hid (by have := allN_succ hkl; rw [hr.hlen] at this; exact this)
     have hsn : (sn : Int) ≤ 9223372036854775807 := by have := hr.hcap; have := hr.hmax; unfold maxLen at *; omega
     clear hc hr hget
     generalize allN ls k = zk at *
     go_wp2_with (go_at_call 17; go_must (refine (sum2_any (x := (sn : Int)) _ (Blk.new wr #[.int .i64 (sn : Int), .int .i64 1] 3) hp0 hp1 (by omega) (by omega)).mono ?_; rintro e w1 ⟨rfl, hb⟩; (rw [HS.out]); have hbel1 := Below.call (Below.alloc' hbel _) hb; clear hb))
     go_roundw
     case rel => exact ⟨k + 1, by omega, by go_num, rfl, HF.out, hbel1⟩
     case measure => simp [intOf]; omega
   ·have hd3 : decide (allN ls k ≤ 300) = false := decide_eq_false h3
    have HF : Hid (allN ls k = z) := Lib.hid (by
     rw [show n - k = (n - (k + 1)) + 1 by omega, allF, if_neg h3] at hF; exact hF)
    clear hF
    generalize allN ls k = zk at *
    go_wp2
    go_ret
    exact ⟨by rw [← HF.out]; rfl, belowBy⟩
  ·obtain rfl : k = n := by omega
   rw [Nat.sub_self] at hF
   have HF : Hid (allN ls k = z) := Lib.hid hF
   clear hF
   generalize allN ls k = zk at *
   go_wp2
   go_ret
   exact ⟨by rw [← HF.out]; rfl, belowBy⟩
theorem gAll {v : Value} {ls : List (List UInt8)} {z : Int} {w : World} (hz : allZ ls = z) (h : (IsR ls).P v w) :
  Calls Tryz.prog 5 #[v, .int .i64 300] w fun e w' => e = .returned (.int .i64 z) ∧ Below w.heap.size w w' := by
 obtain ⟨a, n, cap, rfl, hr⟩ := h
 exact all_any hr hz
set_option maxRecDepth 100000 in
set_option maxHeartbeats 1000000 in
theorem aCat_any {a : Option Addr} {n cap : Nat} {ls : List (List UInt8)} {w : World} (h : RdRows w a n cap ls) (hs : ls.flatten.length ≤ 70368744177664) :
  Calls Tryz.prog 14 #[.slice a n cap] w fun e w' => ∃ v, e = .returned v ∧ w'.ownsRow w.heap.size 5 1 v ls.flatten.length (ls.flatten.map bV) ∧ Below w.heap.size w w' := by
 have HL := Lib.hid h.hlen
 have HS := Lib.hid hs
 have HR := Lib.hid h
 have hm63 : (n : Int) ≤ 9223372036854775807 := by have := h.hcap; have := h.hmax; unfold maxLen at *; omega
 clear h hs
 go_enter Tryz.func14, Tryz.ntmps14
 go_wp2
 go_loopw [3, 4] (fun s i wr => ∃ k : Nat, k ≤ n ∧ i = .int .i64 k ∧ wr.ownsRow w.heap.size 5 1 s (lens ls k) ((ls.take k).flatten.map bV) ∧ Below w.heap.size w wr) (fun _ i _ => n - (intOf i).toNat)
 case atStart => exact ⟨0, by omega, rfl, World.ownsRow_nil _ _ _ _, Below.refl _ _⟩
 case round =>
  obtain ⟨k, hk, rfl, ho, hbel⟩ := hrel
  by_cases hlt : k < n
  ·have hkl : k < ls.length := by rw [HL.out]; exact hlt
   rcases HR.out.cases with ⟨h0, _⟩ | ⟨b, o, _, rfl, hget⟩
   ·omega
   ·obtain ⟨sa, sn, sc, hc, hr⟩ := hget k hkl
    have hc2 : wr.cell? ⟨b, o + k, none⟩ = some (.slice sa sn sc) := by rw [hbel.cell (cell_lt hc)]; exact hc
    have e1 := lens_succ ls k hkl
    rw [hr.hlen] at e1
    have h2 := lens_le ls (k + 1)
    have hsum : lens ls k + sn ≤ 70368744177664 := by have := HS.out; omega
    have HE := Lib.hid e1
    have HF := Lib.hid (flat_succ ls k hkl)
    have HRD := Lib.hid (hr.below hbel)
    have HO := Lib.hid ho
    have HSM := Lib.hid hsum
    clear h2 e1 hc hr hget ho hsum
    go_wp2_with (at_builtin; go_must (refine app_bytes _ rfl (.tmp 11) (.tmp 15) rfl w.heap.size _ (lens ls k) ((ls.take k).flatten) rfl HO.out sa sn sc ls[k] rfl HRD.out HSM.out hbel.size w hbel ?_; intro v' w2 hown2 hbel2; have HO2 : Hid (w2.ownsRow w.heap.size 5 1 v' (lens ls (k + 1)) ((ls.take (k + 1)).flatten.map bV)) := Lib.hid (by rw [HE.out, HF.out]; exact hown2); clear hown2))
    go_roundw
    case rel => exact ⟨k + 1, by omega, by go_num, HO2.out, hbel2⟩
    case measure => simp [intOf]; omega
  ·obtain rfl : k = n := by omega
   have e : lens ls k = ls.flatten.length := by unfold lens; rw [List.take_of_length_le (by rw [HL.out]; omega)]
   rw [e, List.take_of_length_le (by rw [HL.out]; omega)] at ho
   have HO := Lib.hid ho
   clear ho e
   go_wp2
   go_ret
   exact ⟨_, rfl, HO.out, hbel⟩
theorem gACat {v : Value} {ls : List (List UInt8)} {l : List UInt8} {w : World} (h : (IsR ls).P v w) (hl : ls.flatten = l) (hs : l.length ≤ 1000000) :
  Calls Tryz.prog 14 #[v] w fun e w' => ∃ r, e = .returned r ∧ (IsB l).P r w' ∧ Below w.heap.size w w' := by
 obtain ⟨a, n, cap, rfl, hr⟩ := h
 subst hl
 exact (aCat_any hr (by omega)).mono fun _ _ ⟨v, he, ho, hb⟩ => ⟨v, he, IsB.own ho, hb⟩
end Go.Proofs.YtielgpefoameiaaGreat
namespace Go.Proofs.YtielgpefoameiaaGreat
open Go.RowKit
/-- A digit's value. -/
def hexd (c : UInt8) : Nat := if c.toNat ≤ 57 then c.toNat - 48 else c.toNat - 87
def hexc (c : UInt8) : Bool := (decide (48 ≤ c.toNat) && decide (c.toNat ≤ 57)) || (decide (97 ≤ c.toNat) && decide (c.toNat ≤ 102))
/-- The digits s are those of the bytes l. -/
def hexB : List UInt8 → List UInt8 → Bool
 | [], [] => true
 | a :: b :: s, c :: l => hexc a && hexc b && decide (16 * hexd a + hexd b = c.toNat) && hexB s l
 | _, _ => false
theorem hexB_len : ∀ (l s : List UInt8), hexB s l = true → s.length = 2 * l.length
 | [], [], _ => rfl
 | [], _ :: _, h => by simp [hexB] at h
 | c :: l, [], h => by simp [hexB] at h
 | c :: l, [_], h => by simp [hexB] at h
 | c :: l, a :: b :: s, h => by
  simp only [hexB, Bool.and_eq_true] at h
  have := hexB_len l s h.2
  simp; omega
theorem hexB_at : ∀ (l s : List UInt8) (_ : hexB s l = true) (i : Nat) (hi : i < l.length), hexc (s.getD (2 * i) 0) = true ∧ hexc (s.getD (2 * i + 1) 0) = true ∧ 16 * hexd (s.getD (2 * i) 0) + hexd (s.getD (2 * i + 1) 0) = l[i].toNat
 | [], s, h, i, hi => by simp at hi
 | c :: l, [], h, i, hi => by simp [hexB] at h
 | c :: l, [_], h, i, hi => by simp [hexB] at h
 | c :: l, a :: b :: s, h, i, hi => by
  simp only [hexB, Bool.and_eq_true, decide_eq_true_eq] at h
  obtain ⟨⟨⟨h1, h2⟩, h3⟩, h4⟩ := h
  cases i with
  | zero => exact ⟨h1, h2, h3⟩
  | succ i =>
   have := hexB_at l s h4 i (by simpa using hi)
   rw [show 2 * (i + 1) = 2 * i + 1 + 1 by omega]
   exact this
theorem hexc_cases {c : UInt8} (h : hexc c = true) : (48 ≤ (c.toNat : Int) ∧ (c.toNat : Int) ≤ 57 ∧ (hexd c : Int) = (c.toNat : Int) - 48) ∨ (97 ≤ (c.toNat : Int) ∧ (c.toNat : Int) ≤ 102 ∧ (hexd c : Int) = (c.toNat : Int) - 97 + 10) := by
 simp only [hexc, Bool.or_eq_true, Bool.and_eq_true, decide_eq_true_eq] at h
 rcases h with ⟨h1, h2⟩ | ⟨h1, h2⟩
 ·left; refine ⟨by omega, by omega, ?_⟩; unfold hexd; rw [if_pos h2]; omega
 ·right; refine ⟨by omega, by omega, ?_⟩; unfold hexd; rw [if_neg (by omega)]; omega
set_option maxRecDepth 100000 in
set_option maxHeartbeats 1000000 in
theorem unhex_any (s : ByteArray) (l : List UInt8) (h : hexB s.data.toList l = true) (h0 : 0 < l.length) (hm : l.length ≤ 10000) (w : World) :
  Calls Tryz.prog 18 #[.string s] w fun e w' => ∃ g cap r, e = .returned (.tuple #[.slice (some ⟨g, 0, none⟩) l.length cap, .bool true]) ∧ w.heap.size ≤ g ∧ Blk w' g (l.map bV ++ r) 5 ∧ l.length ≤ cap ∧ cap ≤ maxLen ∧ Below w.heap.size w w' := by
 have hlen := hexB_len _ _ h
 have hsz : s.size = 2 * l.length := by rw [← hlen]; rfl
 have HAt := Lib.hid (hexB_at _ _ h)
 obtain ⟨n, hn⟩ : ∃ n, n = l.length := ⟨_, rfl⟩
 have hs0 : (s.size : Int) = 2 * n := by omega
 have hmod : ((2 : Int) * n).tmod 2 = 0 := by rw [Int.mul_comm, Int.mul_tmod_left]
 have HN := Lib.hid hn
 have HSZ := Lib.hid hsz
 rw [← hn] at hm h0
 clear h hlen hn hsz
 have hn0 : (0 : Int) ≤ (n : Int) := by omega
 have hn1 : (n : Int) ≤ 10000 := by omega
 go_enter Tryz.func18, Tryz.ntmps18
 go_wp2
 go_loopw [4, 5] (fun v i wr => ∃ (k : Nat) (I : Int), k ≤ n ∧ I = 2 * (k : Int) ∧ i = .int .i64 I ∧ wr.ownsRow w.heap.size 5 1 v k ((l.take k).map bV) ∧ Below w.heap.size w wr) (fun _ i _ => 2 * n - (intOf i).toNat)
 case atStart => exact ⟨0, 0, by omega, rfl, rfl, World.ownsRow_nil _ _ _ _, Below.refl _ _⟩
 case round =>
  obtain ⟨k, I, hk, hI, rfl, hown, hbel⟩ := hrel
  by_cases hlt : k < n
  ·obtain ⟨q1, q2, q3⟩ := HAt.out k (by have := HN.out; omega)
   obtain ⟨C0, hC0⟩ : ∃ C : Int, C = ((s.data.toList.getD (2 * k) 0).toNat : Int) := ⟨_, rfl⟩
   obtain ⟨C1, hC1⟩ : ∃ C : Int, C = ((s.data.toList.getD (2 * k + 1) 0).toNat : Int) := ⟨_, rfl⟩
   obtain ⟨D0, hD0⟩ : ∃ D : Int, D = (hexd (s.data.toList.getD (2 * k) 0) : Int) := ⟨_, rfl⟩
   obtain ⟨D1, hD1⟩ : ∃ D : Int, D = (hexd (s.data.toList.getD (2 * k + 1) 0) : Int) := ⟨_, rfl⟩
   have hi0 : ∀ h, ((s[I.toNat]'h).toNat : Int) = C0 := fun h => by
    rw [hC0]
    have e : I.toNat = 2 * k := by omega
    rw [List.getD_eq_getElem?_getD, List.getElem?_eq_getElem (by have := HSZ.out; have := HN.out; show 2 * k < s.size; omega)]
    simp only [e]; rfl
   have hi1 : ∀ h, ((s[(I + 1).toNat]'h).toNat : Int) = C1 := fun h => by
    rw [hC1]
    have e : (I + 1).toNat = 2 * k + 1 := by omega
    rw [List.getD_eq_getElem?_getD, List.getElem?_eq_getElem (by have := HSZ.out; have := HN.out; show 2 * k + 1 < s.size; omega)]
    simp only [e]; rfl
   obtain ⟨c, hc⟩ : ∃ c, c = l[k]'(by have := HN.out; omega) := ⟨_, rfl⟩
   rw [← hc] at q3
   have hsum : 16 * D0 + D1 = (c.toNat : Int) := by omega
   have hcl := c.toNat_lt
   have HTK : Hid (l.take (k + 1) = l.take k ++ [c]) := Lib.hid (by rw [hc, List.take_succ_eq_append_getElem])
   have k0 := hexc_cases q1
   have k1 := hexc_cases q2
   rw [← hC0, ← hD0] at k0
   rw [← hC1, ← hD1] at k1
   have t1 : 0 ≤ I := by omega
   have t2 : I + 1 < 2 * (n : Int) := by omega
   have d1 : 0 ≤ D0 := by omega
   have d2 : D0 ≤ 15 := by omega
   obtain ⟨V, hV⟩ : ∃ V, V = 16 * D0 + D1 := ⟨_, rfl⟩
   have v1 : 0 ≤ V := by omega
   have v2 : V < 256 := by omega
   have HVS := Lib.hid (show V = (c.toNat : Int) by omega)
   have HV := Lib.hid hV
   clear hV
   have HI := Lib.hid hI; have HSUM := Lib.hid hsum; have HK0 := Lib.hid k0; have HK1 := Lib.hid k1
   have t3 : I < 2 * (n : Int) := by omega
   clear hc hcl q1 q2 q3 hC0 hC1 hD0 hD1 hI hsum k0 k1
   go_wp2
   go_loop [6, 7] (fun v q => (v = .int .i64 0 ∧ q = .int .i64 0) ∨ (v = .int .i64 D0 ∧ q = .int .i64 1) ∨ (v = .int .i64 V ∧ q = .int .i64 2)) (fun _ q => (2 - intOf q).toNat)
   case atStart => exact .inl ⟨rfl, rfl⟩
   case round =>
    rcases hrel with ⟨rfl, rfl⟩ | ⟨rfl, rfl⟩ | ⟨rfl, rfl⟩
    ·rcases HK0.out with ⟨a1, a2, a3⟩ | ⟨a1, a2, a3⟩
     ·have A3 := Lib.hid a3
      clear a3
      go_wp2
      go_round
      case rel => exact .inr (.inl ⟨by rw [A3.out], rfl⟩)
      case measure => simp [intOf]
     ·have A3 := Lib.hid a3
      clear a3
      have a4 : ¬ C0 ≤ 57 := by omega
      have a5 : 48 ≤ C0 := by omega
      go_wp2
      go_round
      case rel => exact .inr (.inl ⟨by rw [A3.out], rfl⟩)
      case measure => simp [intOf]
    ·rcases HK1.out with ⟨a1, a2, a3⟩ | ⟨a1, a2, a3⟩
     ·have A3 := Lib.hid a3
      clear a3
      go_wp2
      go_round
      case rel => exact .inr (.inr ⟨by rw [HV.out, A3.out], rfl⟩)
      case measure => simp [intOf]
     ·have A3 := Lib.hid a3
      clear a3
      have a4 : ¬ C1 ≤ 57 := by omega
      have a5 : 48 ≤ C1 := by omega
      go_wp2
      go_round
      case rel => exact .inr (.inr ⟨by rw [HV.out, A3.out]; go_num, rfl⟩)
      case measure => simp [intOf]
    ·clear hi0 hi1
     have HO := Lib.hid hown
     clear hown
     have hRD : ∀ W : World, ∀ g, g = W.heap.size → RdB (W.alloc (.cells #[.int .u8 V] 5)) (some ⟨g, 0, none⟩) 1 1 [c] := fun W g hg => by
      subst hg
      rw [HVS.out]
      exact RdB.blk (l := [c]) [] (Blk.new W #[bV c] 5) rfl (by omega) (by unfold maxLen; omega)
     have HR := Lib.hid hRD
     clear hRD
     go_wp2_with (at_builtin; refine app_bytes _ rfl (.tmp 55) (.tmp 58) rfl w.heap.size _ k (l.take k) rfl (own_below HO.out belowBy) _ 1 1 [c] rfl (HR.out _ _ rfl) (by omega) (by have := hbel.size; simp; omega) w belowBy ?_; intro v' w2 hown2 hbel2; have HO2 : Hid (w2.ownsRow w.heap.size 5 1 v' (k + 1) ((l.take (k + 1)).map bV)) := Lib.hid (by rw [HTK.out]; exact hown2); clear hown2)
     go_roundw
     case rel => exact ⟨k + 1, I + 2, by omega, by rw [HI.out]; omega, rfl, HO2.out, hbel2⟩
     case measure => simp [intOf]; omega
  ·obtain rfl : k = n := by omega
   rw [List.take_of_length_le (by rw [← HN.out]; omega)] at hown
   obtain ⟨g, cap, r, rfl, hg, hB, hl, hc, hm'⟩ := own_rdb hown h0
   have t9 : ¬ I < 2 * (k : Int) := by omega
   have HB := Lib.hid hB
   have HI := Lib.hid hI
   clear hB hown hI hlt hl
   go_wp2
   go_ret2
   exact ⟨g, cap, by rw [HN.out]; rfl, hg, ⟨r, HB.out⟩, by rw [← HN.out]; exact hc, hm', hbel⟩
end Go.Proofs.YtielgpefoameiaaGreat
namespace Go.Proofs.YtielgpefoameiaaGreat
open Go Go.RowKit
/-- A seed's signature. -/
def edSig (seed l : List UInt8) : List UInt8 := edSign (edA seed) (edP seed) (edPub seed) l
theorem gPublicW {v : Value} {w : World} {seed : List UInt8} (h : (IsB seed).P v w) (hl : seed.length = 32) :
  Calls Tryz.prog 7 #[v] w fun e w' => ∃ r, e = .returned r ∧ (TwV (IsB (edPub seed)) (.int .i64 0)).P r w' ∧ Below w.heap.size w w' :=
 (gPublic h hl).mono fun _ _ ⟨r, he, hr, hb⟩ => ⟨_, he, ⟨r, rfl, hr⟩, hb⟩
theorem gSignW {v v1 : Value} {w : World} {seed l : List UInt8} {ls : List (List UInt8)} (h : (IsB seed).P v w) (h1 : (IsR ls).P v1 w) (hl : ls.flatten = l) (hs : l.length ≤ 100000) (hn : seed.length = 32) :
  Calls Tryz.prog 8 #[v, v1] w fun e w' => ∃ r, e = .returned r ∧ (TwV (IsB (edSig seed l)) (.int .i64 0)).P r w' ∧ Below w.heap.size w w' :=
 (gSign h h1 hl hs hn).mono fun _ _ ⟨r, he, hr, hb⟩ => ⟨_, he, ⟨r, rfl, hr⟩, hb⟩
theorem gSSignW {v v1 : Value} {w : World} {seed l : List UInt8} {ls : List (List UInt8)} (h : (StP [fNum rS [edA seed], fB (edP seed), fB (edPub seed)]).P v w) (h1 : (IsR ls).P v1 w) (hl : ls.flatten = l) (hs : l.length ≤ 100000) :
  Calls Tryz.prog 10 #[v, v1] w fun e w' => ∃ r, e = .returned r ∧ (IsB (edSig seed l)).P r w' ∧ Below w.heap.size w w' := gSSign h h1 hl hs (edP_len _) (edPub_len _)
theorem gUnhex {s : ByteArray} {l : List UInt8} {w : World} (h : hexB s.data.toList l = true) (h0 : 0 < l.length) (hm : l.length ≤ 10000) :
  Calls Tryz.prog 18 #[.string s] w fun e w' => ∃ r, e = .returned r ∧ (TwV (IsB l) (.bool true)).P r w' ∧ Below w.heap.size w w' := by
 refine (unhex_any s l h h0 hm w).mono ?_
 rintro e w' ⟨g, c, r, rfl, _, hB, h1, h2, hb⟩
 exact ⟨_, rfl, ⟨_, rfl, IsB.mk (RdB.blk r hB rfl h1 h2)⟩, hb⟩
set_option maxRecDepth 100000 in
set_option maxHeartbeats 4000000 in
theorem law9awake_any (w : World) :
  Calls Tryz.prog 6 #[] w fun e w' => e = .returned (.bool true) ∧ Below w.heap.size w w' := by
 obtain ⟨SD, hK⟩ : ∃ SD, SD = awSeed := ⟨_, rfl⟩
 have HK := Lib.hid hK
 have HP : Hid ((edPub SD).take 4 = [215, 90, 152, 1]) := Lib.hid (by rw [hK]; exact aw_pub)
 have HKL : Hid (SD.length = 32) := Lib.hid (by rw [hK]; rfl)
 clear hK
 go_enter Tryz.func6, Tryz.ntmps6
 have hbel : Below w.heap.size w w := Below.refl _ _
 have hbel0 := hbel
 go_upto_region 0 with fail
 refine rgT [(0, 0)] [.oth (fun v => v = .bool false)] ?_ ?_
 ·intro hs
  refine ⟨?_, trivial⟩
  ·exact mvK hs fun _ => rfl
 intro L0 u0 W0 hall hJ hG
 have hb := hJ.all rfl
 have hbel := Below.call hbel hb
 have HC0 := oC (.bool false) hG 0
 have hbel0 := hbel
 clear hJ hG hall hb
 go_upto_region 1 with fail
 refine rgT [(1, 4), (0, 5), (4, 1), (0, 0), (0, 2), (0, 3)] [.wld (TwV (IsB SD) (.bool true)) none, .wld (TwV (IsB SD) (.bool true)) none, .wld (IsB SD) none, .oth (fun v => v = .bool true), .wld (IsB SD) none, .oth (fun v => v = .bool true)] ?_ ?_
 ·intro hs
  refine ⟨?_, ?_, ?_, ?_, ?_, ?_, trivial⟩
  ·refine step_callP hs Wn rfl fun L u W hJ hG hL hdep K hK => ?_
   go_simp
   go_at_call 18
   (with_reducible refine (gUnhex (l := SD) (by rw [HK.out]; decide +kernel) (by rw [HKL.out]; omega) (by rw [HKL.out]; omega)).mono ?_); rintro e w1 ⟨r, rfl, hr, hb⟩
   exact hK.out _ _ hr hb
  ·exact step_runP hs Wn rfl fun L u W hJ hG hL hdep => run_moveP (.inl rfl) (hW (TwV (IsB SD) (.bool true)) hG hdep 0)
  ·exact step_runP hs Wn rfl fun L u W hJ hG hL hdep => run_tw0 rfl (hW (TwV (IsB SD) (.bool true)) hG hdep 1)
  ·exact step_runO hs Wn rfl fun L u W hJ hG hL hdep => run_tw1 rfl (hW (TwV (IsB SD) (.bool true)) hG hdep 1)
  ·exact step_runP hs Wn rfl fun L u W hJ hG hL hdep => run_moveP (.inr rfl) (hW (IsB SD) hG hdep 2)
  ·exact mvO 3 hs
 intro L1 u1 W1 hall hJ hG
 have hb := hJ.all rfl
 have hbel := Below.call hbel hb
 have hw1 := oW (IsB SD) hG 4
 have HC10 := oC (.bool true) hG 3
 have HC2 := oC (.bool true) hG 5
 have hbel0 := hbel
 clear hJ hG hall hb
 go_upto_region 2 with fail
 refine rgT [(3, 5), (0, 6), (6, 2), (0, 0), (0, 1), (0, 3), (0, 4)] [.wld (IsB SD) none, .wld (TwV (IsB (edPub SD)) (.int .i64 0)) none, .wld (TwV (IsB (edPub SD)) (.int .i64 0)) none, .wld (IsB (edPub SD)) none, .oth (fun v => v = .int .i64 0), .wld (IsB (edPub SD)) none, .oth (fun v => v = .int .i64 0)] ?_ ?_
 ·intro hs
  refine ⟨?_, ?_, ?_, ?_, ?_, ?_, ?_, trivial⟩
  ·exact step_runP hs Wn rfl fun L u W hJ hG hL hdep => run_moveP (.inl rfl) ((IsB SD).st _ _ _ hw1 (hJ.all rfl))
  ·refine step_callP hs Wn rfl fun L u W hJ hG hL hdep K hK => ?_
   go_simp
   go_at_call 7
   (with_reducible refine (gPublicW (holds_wld (φ := IsB SD) (hG 0 (hdep 0 (by kernel_rfl))) rfl till_none) (HKL.out)).mono ?_); rintro e w1 ⟨r, rfl, hr, hb⟩
   exact hK.out _ _ hr hb
  ·exact step_runP hs Wn rfl fun L u W hJ hG hL hdep => run_moveP (.inl rfl) (hW (TwV (IsB (edPub SD)) (.int .i64 0)) hG hdep 1)
  ·exact step_runP hs Wn rfl fun L u W hJ hG hL hdep => run_tw0 rfl (hW (TwV (IsB (edPub SD)) (.int .i64 0)) hG hdep 2)
  ·exact step_runO hs Wn rfl fun L u W hJ hG hL hdep => run_tw1 rfl (hW (TwV (IsB (edPub SD)) (.int .i64 0)) hG hdep 2)
  ·exact step_runP hs Wn rfl fun L u W hJ hG hL hdep => run_moveP (.inr rfl) (hW (IsB (edPub SD)) hG hdep 3)
  ·exact mvO 4 hs
 intro L2 u2 W2 hall hJ hG
 have hb := hJ.all rfl
 have hbel := Below.call hbel hb
 have hw1 := (IsB SD).st _ _ _ hw1 hb
 have hw3 := oW (IsB (edPub SD)) hG 5
 have HC4 := oC (.int .i64 0) hG 6
 have hbel0 := hbel
 clear hJ hG hall hb
 go_upto_region 3 with fail
 refine rgT [(5, 4), (0, 5), (9, 1), (0, 0), (0, 2), (0, 3)] [.oth (fun v => v = .tuple #[.slice none 0 0, .int .i64 1]), .oth (fun v => v = .tuple #[.slice none 0 0, .int .i64 1]), .oth (fun v => v = .slice none 0 0), .oth (fun v => v = .int .i64 1), .oth (fun v => v = .slice none 0 0), .oth (fun v => v = .int .i64 1)] ?_ ?_
 ·intro hs
  refine ⟨?_, ?_, ?_, ?_, ?_, ?_, trivial⟩
  ·refine step_callO hs Wn rfl fun L u W hJ hG hL hdep K hK => ?_
   go_simp
   go_at_call 8
   (with_reducible refine (gSign_no (l := ([])) (IsB.nil W) (IsR.nil W) (rfl) (by simp) (N := 0) rfl (by omega)).mono ?_); rintro e w1 ⟨rfl, hb⟩
   exact hK.out _ _ rfl hb
  ·exact mvO 0 hs
  ·refine step_pureO hs Wn rfl fun L u W hG hdep => ⟨_, ?_, rfl⟩
   have e0 := (oE (.tuple #[.slice none 0 0, .int .i64 1]) hG hdep 1)
   unfold execOp
   go_simp
  ·refine step_pureO hs Wn rfl fun L u W hG hdep => ⟨_, ?_, rfl⟩
   have e0 := (oE (.tuple #[.slice none 0 0, .int .i64 1]) hG hdep 1)
   unfold execOp
   go_simp
  ·exact mvO 2 hs
  ·exact mvO 3 hs
 intro L3 u3 W3 hall hJ hG
 have hb := hJ.all rfl
 have hbel := Below.call hbel hb
 have hw1 := (IsB SD).st _ _ _ hw1 hb
 have hw3 := (IsB (edPub SD)).st _ _ _ hw3 hb
 have HC6 := oC (.int .i64 1) hG 5
 have hbel0 := hbel
 clear hJ hG hall hb
 go_upto_region 4 with fail
 refine rgT [(0, 17), (19, 0), (0, 1), (0, 2), (0, 3), (0, 4), (0, 5), (0, 6), (0, 7), (0, 8), (0, 9), (0, 10), (0, 11), (0, 12), (0, 13), (0, 14), (0, 15), (0, 16)] [.oth (fun v => v = .int .i64 0), .oth (fun v => v = .bool true), .oth (fun v => v = .bool true), .wld (IsB (edPub SD)) none, .oth (fun v => v = .int .i64 32), .oth (fun v => v = .bool true), .oth (fun v => v = .bool true), .oth (fun v => v = .bool true), .wld (IsB (edPub SD)) none, .wld (IsB ((edPub SD).take 4)) none, .oth (fun v => v = (.string (bs ((edPub SD).take 4)))), .oth (fun v => v = .bool true), .oth (fun v => v = .bool true), .oth (fun v => v = .bool true), .oth (fun v => v = .int .i64 1), .oth (fun v => v = .bool true), .oth (fun v => v = .bool true), .oth (fun v => v = .bool true)] ?_ ?_
 ·intro hs
  refine ⟨?_, ?_, ?_, ?_, ?_, ?_, ?_, ?_, ?_, ?_, ?_, ?_, ?_, ?_, ?_, ?_, ?_, ?_, trivial⟩
  ·exact mvK hs fun _ => HC4.out
  ·refine step_pureO hs Wn rfl fun L u W hG hdep => ⟨_, ?_, rfl⟩
   have e0 := (oE (.int .i64 0) hG hdep 0)
   go_simp
   try simp [bne]
  ·exact mvO 1 hs
  ·exact step_runP hs (wants_on 2 rfl rfl (by kernel_rfl) (fun _ => rfl)) rfl fun L u W hJ hG hL hdep => run_moveP (.inl rfl) ((IsB (edPub SD)).st _ _ _ hw3 (hJ.all rfl))
  ·exact step_runO hs (wants_on 2 rfl rfl (by kernel_rfl) (fun _ => rfl)) rfl fun L u W hJ hG hL hdep => run_lenP rfl (hW (IsB (edPub SD)) hG hdep 3) (by rw [edPub_len]; rfl)
  ·refine step_pureO hs (wants_on 2 rfl rfl (by kernel_rfl) (fun _ => rfl)) rfl fun L u W hG hdep => ⟨_, ?_, rfl⟩
   have e0 := (oE (.int .i64 32) hG hdep 4)
   go_simp
   try simp [bne]
  ·exact step_pick true hs Wn rfl rfl (fun L u W hG hdep => (oE (.bool true) hG hdep 2)) (fun L u W hG hdep => (oE (.bool true) hG hdep 5))
  ·exact mvO 6 hs
  ·exact step_runP hs (wants_on 7 rfl rfl (by kernel_rfl) (fun _ => rfl)) rfl fun L u W hJ hG hL hdep => run_moveP (.inl rfl) ((IsB (edPub SD)).st _ _ _ hw3 (hJ.all rfl))
  ·exact step_runP hs (wants_on 7 rfl rfl (by kernel_rfl) (fun _ => rfl)) rfl fun L u W hJ hG hL hdep => run_toP (k := 4) rfl rfl (hW (IsB (edPub SD)) hG hdep 8) (by have h9 : ((edPub SD).length : Int) = 32 := (by rw [edPub_len]; rfl); omega)
  ·exact step_runO hs (wants_on 7 rfl rfl (by kernel_rfl) (fun _ => rfl)) rfl fun L u W hJ hG hL hdep => run_convP rfl (hW (IsB ((edPub SD).take 4)) hG hdep 9)
  ·exact step_pureO hs (wants_on 7 rfl rfl (by kernel_rfl) (fun _ => rfl)) rfl fun L u W hG hdep => ⟨_, run_eqlS rfl (oE ((.string (bs ((edPub SD).take 4)))) hG hdep 10) rfl, by rw [HP.out]; simp⟩
  ·exact step_pick true hs Wn rfl rfl (fun L u W hG hdep => (oE (.bool true) hG hdep 7)) (fun L u W hG hdep => (oE (.bool true) hG hdep 11))
  ·exact mvO 12 hs
  ·exact step_pureO hs (wants_on 13 rfl rfl (by kernel_rfl) (fun _ => rfl)) rfl fun L u W hG hdep => ⟨_, run_move rfl, HC6.out⟩
  ·refine step_pureO hs (wants_on 13 rfl rfl (by kernel_rfl) (fun _ => rfl)) rfl fun L u W hG hdep => ⟨_, ?_, rfl⟩
   have e0 := (oE (.int .i64 1) hG hdep 14)
   go_simp
   try simp [bne]
  ·exact step_pick true hs Wn rfl rfl (fun L u W hG hdep => (oE (.bool true) hG hdep 13)) (fun L u W hG hdep => (oE (.bool true) hG hdep 15))
  ·exact mvO 16 hs
 intro L4 u4 W4 hall hJ hG
 have hb := hJ.all rfl
 have hbel := Below.call hbel hb
 have hw1 := (IsB SD).st _ _ _ hw1 hb
 have hw3 := (IsB (edPub SD)).st _ _ _ hw3 hb
 have HC21 := oC (.bool true) hG 1
 have HC22 := oC (.bool true) hG 2
 have HC25 := oC (.bool true) hG 5
 have HC26 := oC (.bool true) hG 6
 have HC27 := oC (.bool true) hG 7
 have HC31 := oC (.bool true) hG 11
 have HC32 := oC (.bool true) hG 12
 have HC33 := oC (.bool true) hG 13
 have HC35 := oC (.bool true) hG 15
 have HC36 := oC (.bool true) hG 16
 have HC0 := oC (.bool true) hG 17
 have hbel0 := hbel
 clear hJ hG hall hb
 go_wp2
 go_ret
 exact ⟨by rw [HC0.out]; rfl, hbel⟩
end Go.Proofs.YtielgpefoameiaaGreat
namespace Go.Proofs.YtielgpefoameiaaGreat
open Go Go.RowKit
theorem rot_int2 (x : UInt64) (n m : Nat) (A B : Int) (h : 64 - n = m) (hA : ((2 ^ m : Nat) : Int) = A) (hB : ((2 ^ n : Nat) : Int) = B) : bits BinOp.or IntKind.u64 ((x.toNat : Int) / B) (IntKind.u64.wrap ((x.toNat : Int) * A)) = ((rotr x n).toNat : Int) := by
 subst h hA hB
 unfold rotr
 rw [← uo_int, ← usl_int, ← ush_int]
 simp
set_option maxRecDepth 100000 in
set_option maxHeartbeats 400000 in
theorem rrot_1 {x : UInt64} (w : World) : Calls Tryz.prog 76 #[.int .u64 (x.toNat : Int), .int .i64 1] w fun e w' => e = .returned (.int .u64 ((rotr x 1).toNat : Int)) ∧ Below w.heap.size w w' := by
 have HE := Lib.hid (rot_int2 x 1 63 9223372036854775808 2 rfl rfl rfl)
 go_enter Tryz.func76, Tryz.ntmps76
 go_wp2
 go_region
 go_wp2
 go_ret
 exact ⟨ret_int HE.out, (Below.refl _ _).drew⟩
set_option maxRecDepth 100000 in
set_option maxHeartbeats 400000 in
theorem rrot_8 {x : UInt64} (w : World) : Calls Tryz.prog 76 #[.int .u64 (x.toNat : Int), .int .i64 8] w fun e w' => e = .returned (.int .u64 ((rotr x 8).toNat : Int)) ∧ Below w.heap.size w w' := by
 have HE := Lib.hid (rot_int2 x 8 56 72057594037927936 256 rfl rfl rfl)
 go_enter Tryz.func76, Tryz.ntmps76
 go_wp2
 go_region
 go_wp2
 go_ret
 exact ⟨ret_int HE.out, (Below.refl _ _).drew⟩
set_option maxRecDepth 100000 in
set_option maxHeartbeats 400000 in
theorem rrot_19 {x : UInt64} (w : World) : Calls Tryz.prog 76 #[.int .u64 (x.toNat : Int), .int .i64 19] w fun e w' => e = .returned (.int .u64 ((rotr x 19).toNat : Int)) ∧ Below w.heap.size w w' := by
 have HE := Lib.hid (rot_int2 x 19 45 35184372088832 524288 rfl rfl rfl)
 go_enter Tryz.func76, Tryz.ntmps76
 go_wp2
 go_region
 go_wp2
 go_ret
 exact ⟨ret_int HE.out, (Below.refl _ _).drew⟩
set_option maxRecDepth 100000 in
set_option maxHeartbeats 400000 in
theorem rrot_61 {x : UInt64} (w : World) : Calls Tryz.prog 76 #[.int .u64 (x.toNat : Int), .int .i64 61] w fun e w' => e = .returned (.int .u64 ((rotr x 61).toNat : Int)) ∧ Below w.heap.size w w' := by
 have HE := Lib.hid (rot_int2 x 61 3 8 2305843009213693952 rfl rfl rfl)
 go_enter Tryz.func76, Tryz.ntmps76
 go_wp2
 go_region
 go_wp2
 go_ret
 exact ⟨ret_int HE.out, (Below.refl _ _).drew⟩
set_option maxRecDepth 100000 in
set_option maxHeartbeats 400000 in
theorem rrot_14 {x : UInt64} (w : World) : Calls Tryz.prog 76 #[.int .u64 (x.toNat : Int), .int .i64 14] w fun e w' => e = .returned (.int .u64 ((rotr x 14).toNat : Int)) ∧ Below w.heap.size w w' := by
 have HE := Lib.hid (rot_int2 x 14 50 1125899906842624 16384 rfl rfl rfl)
 go_enter Tryz.func76, Tryz.ntmps76
 go_wp2
 go_region
 go_wp2
 go_ret
 exact ⟨ret_int HE.out, (Below.refl _ _).drew⟩
set_option maxRecDepth 100000 in
set_option maxHeartbeats 400000 in
theorem rrot_18 {x : UInt64} (w : World) : Calls Tryz.prog 76 #[.int .u64 (x.toNat : Int), .int .i64 18] w fun e w' => e = .returned (.int .u64 ((rotr x 18).toNat : Int)) ∧ Below w.heap.size w w' := by
 have HE := Lib.hid (rot_int2 x 18 46 70368744177664 262144 rfl rfl rfl)
 go_enter Tryz.func76, Tryz.ntmps76
 go_wp2
 go_region
 go_wp2
 go_ret
 exact ⟨ret_int HE.out, (Below.refl _ _).drew⟩
set_option maxRecDepth 100000 in
set_option maxHeartbeats 400000 in
theorem rrot_41 {x : UInt64} (w : World) : Calls Tryz.prog 76 #[.int .u64 (x.toNat : Int), .int .i64 41] w fun e w' => e = .returned (.int .u64 ((rotr x 41).toNat : Int)) ∧ Below w.heap.size w w' := by
 have HE := Lib.hid (rot_int2 x 41 23 8388608 2199023255552 rfl rfl rfl)
 go_enter Tryz.func76, Tryz.ntmps76
 go_wp2
 go_region
 go_wp2
 go_ret
 exact ⟨ret_int HE.out, (Below.refl _ _).drew⟩
set_option maxRecDepth 100000 in
set_option maxHeartbeats 400000 in
theorem rrot_28 {x : UInt64} (w : World) : Calls Tryz.prog 76 #[.int .u64 (x.toNat : Int), .int .i64 28] w fun e w' => e = .returned (.int .u64 ((rotr x 28).toNat : Int)) ∧ Below w.heap.size w w' := by
 have HE := Lib.hid (rot_int2 x 28 36 68719476736 268435456 rfl rfl rfl)
 go_enter Tryz.func76, Tryz.ntmps76
 go_wp2
 go_region
 go_wp2
 go_ret
 exact ⟨ret_int HE.out, (Below.refl _ _).drew⟩
set_option maxRecDepth 100000 in
set_option maxHeartbeats 400000 in
theorem rrot_34 {x : UInt64} (w : World) : Calls Tryz.prog 76 #[.int .u64 (x.toNat : Int), .int .i64 34] w fun e w' => e = .returned (.int .u64 ((rotr x 34).toNat : Int)) ∧ Below w.heap.size w w' := by
 have HE := Lib.hid (rot_int2 x 34 30 1073741824 17179869184 rfl rfl rfl)
 go_enter Tryz.func76, Tryz.ntmps76
 go_wp2
 go_region
 go_wp2
 go_ret
 exact ⟨ret_int HE.out, (Below.refl _ _).drew⟩
set_option maxRecDepth 100000 in
set_option maxHeartbeats 400000 in
theorem rrot_39 {x : UInt64} (w : World) : Calls Tryz.prog 76 #[.int .u64 (x.toNat : Int), .int .i64 39] w fun e w' => e = .returned (.int .u64 ((rotr x 39).toNat : Int)) ∧ Below w.heap.size w w' := by
 have HE := Lib.hid (rot_int2 x 39 25 33554432 549755813888 rfl rfl rfl)
 go_enter Tryz.func76, Tryz.ntmps76
 go_wp2
 go_region
 go_wp2
 go_ret
 exact ⟨ret_int HE.out, (Below.refl _ _).drew⟩
set_option maxRecDepth 100000 in
set_option maxHeartbeats 400000 in
theorem rgetbig_any {a : Option Addr} {n cap : Nat} {l : List UInt8} {x : UInt64} {w : World} (h : RdB w a n cap l) (hx : beW (first l 8) = x) :
  Calls Tryz.prog 75 #[.slice a n cap, .int .i64 8] w fun e w' => e = .returned (.int .u64 (x.toNat : Int)) ∧ Below w.heap.size w w' := by
 have HL := Lib.hid h.hlen
 have HG := Lib.hid h
 have HE := Lib.hid (beW_beK l)
 have HX := Lib.hid hx
 have hmx : (n : Int) ≤ 9223372036854775807 := by have := h.hcap; have := h.hmax; unfold maxLen at *; omega
 clear h hx
 go_enter Tryz.func75, Tryz.ntmps75
 go_wp2
 go_loop [5, 6] (fun v i => ∃ k : Nat, k ≤ 8 ∧ i = .int .i64 k ∧ v = .int .u64 (beK l k : Nat)) (fun _ i => 8 - (intOf i).toNat)
 case atStart => exact ⟨0, by omega, rfl, by rw [show beK l 0 = 0 from by simp [beK, first, leN]]; rfl⟩
 case round =>
  obtain ⟨k, hk, rfl, rfl⟩ := hrel
  by_cases hlt : k < 8
  ·have e1 := beK_succ l k
   have h2 : beK l k < 72057594037927936 := Nat.lt_of_lt_of_le (beK_lt l k) (Nat.le_trans (Nat.pow_le_pow_right (by omega) (show k ≤ 7 by omega)) (by decide))
   have HB := Lib.hid e1
   clear e1
   generalize beK l k = m at *
   have hw : IntKind.u64.wrap ((m : Int) * 256) = (m : Int) * 256 := by rw [IntKind.wrap_u64]; omega
   by_cases hkn : k < n
   ·have hkl : k < l.length := by rw [HL.out]; exact hkn
    obtain ⟨b, o, rfl, hc⟩ := HG.out.get k hkl
    have hor := orByte m l[k].toNat h2 l[k].toNat_lt
    have HB2 : Hid (((beK l (k + 1) : Nat) : Int) = (m : Int) * 256 + (l[k].toNat : Int)) := Lib.hid (by rw [HB.out, List.getD_eq_getElem?_getD, List.getElem?_eq_getElem hkl, Option.getD_some]; omega)
    have hwc : IntKind.u64.wrap (l[k].toNat : Int) = (l[k].toNat : Int) := by have := l[k].toNat_lt; rw [IntKind.wrap_u64]; omega
    unfold bV at hc
    clear HB h2
    go_wp2
    go_round
    case rel => exact ⟨k + 1, by omega, by go_num, by rw [HB2.out]⟩
    case measure => simp [intOf]; omega
   ·have HB2 : Hid (((beK l (k + 1) : Nat) : Int) = (m : Int) * 256) := Lib.hid (by rw [HB.out, List.getD_eq_getElem?_getD, List.getElem?_eq_none (by rw [HL.out]; omega)]; simp)
    clear HB h2
    go_wp2
    go_round
    case rel => exact ⟨k + 1, by omega, by go_num, by rw [HB2.out]⟩
    case measure => simp [intOf]; omega
  ·obtain rfl : k = 8 := by omega
   go_wp2
   go_ret
   exact ⟨ret_int (by rw [← HE.out, HX.out]), Below.refl _ _⟩
theorem rmake8 (w : World) : (Instr.makeSlice 22 (.int .i64 8) (.int .i64 8)).run Tryz.prog w = .ok (.slice (some ⟨w.heap.size, 0, none⟩) 8 8) (w.alloc (.cells ((List.replicate 8 (0 : UInt8)).map bV).toArray 5)) := by kernel_rfl
/-- The k last of eight bytes written, the greatest first. -/
def bigV (x : Nat) (k i : Nat) : Value := if 8 - k ≤ i then .int .u8 ((x / 2 ^ (8 * (7 - i)) % 256 : Nat) : Int) else .int .u8 0
theorem bigV_start (x : Nat) : (List.replicate 8 (0 : UInt8)).map bV = row 8 (bigV x 0) := by
 apply List.ext_getElem
 ·simp [row]
 ·intro i h1 h2
  have hi : i < 8 := by simpa [row] using h2
  simp only [row, List.getElem_map, List.getElem_range, List.getElem_replicate]
  unfold bigV
  rw [if_neg (by omega)]; rfl
theorem bigV_step (x k : Nat) (hk : k < 8) : (row 8 (bigV x k)).set (7 - k) (.int .u8 ((x / 2 ^ (8 * k) % 256 : Nat) : Int)) = row 8 (bigV x (k + 1)) := by
 refine row_set (7 - k) _ (by simp only [bigV]; rw [if_pos (by omega), show 7 - (7 - k) = k by omega]) (fun i _ hi => ?_)
 unfold bigV
 by_cases h : 8 - k ≤ i
 ·rw [if_pos h, if_pos (by omega)]
 ·rw [if_neg h, if_neg (by omega)]
theorem bigV_end (x : UInt64) : row 8 (bigV x.toNat 8) = (be8 x).map bV := by
 apply List.ext_getElem
 ·simp [row, be8, leB_len]
 ·intro i h1 h2
  have hi : i < 8 := by simpa [row] using h1
  simp only [row, List.getElem_map, List.getElem_range]
  unfold bigV be8
  rw [if_pos (by omega), List.getElem_reverse, leB_get]
  unfold bV
  rw [UInt8.toNat_ofNat', leB_len, show 8 - 1 - i = 7 - i by omega]
theorem shr8 (x : UInt64) (k : Nat) : IntKind.u8.wrap ((x.toNat : Int) / ((2 ^ (8 * k) : Nat) : Int)) = ((x.toNat / 2 ^ (8 * k) % 256 : Nat) : Int) := by
 rw [IntKind.wrap_u8]; omega
set_option maxRecDepth 100000 in
set_option maxHeartbeats 1000000 in
theorem rbig_any {x : UInt64} (w : World) :
  Calls Tryz.prog 74 #[.int .u64 (x.toNat : Int), .int .i64 8] w fun e w' => e = .returned (.slice (some ⟨w.heap.size, 0, none⟩) 8 8) ∧ Blk w' w.heap.size ((be8 x).map bV) 5 ∧ Below w.heap.size w w' := by
 have hmk := rmake8
 have hS := Blk.new w ((List.replicate 8 (0 : UInt8)).map bV).toArray 5
 rw [List.toList_toArray, bigV_start x.toNat] at hS
 have HS := Lib.hid hS
 clear hS
 go_enter Tryz.func74, Tryz.ntmps74
 go_wp2
 go_loopw [6] (fun i wr => ∃ k : Nat, k ≤ 8 ∧ i = .int .i64 k ∧ Blk wr w.heap.size (row 8 (bigV x.toNat k)) 5 ∧ Below w.heap.size w wr) (fun i _ => 8 - (intOf i).toNat)
 case atStart => exact ⟨0, by omega, rfl, HS.out, (Below.refl _ _).alloc (Nat.le_refl _) _⟩
 case round =>
  obtain ⟨k, hk, rfl, hB, hb⟩ := hrel
  clear hmk
  by_cases hlt : k < 8
  ·have hk8 : k = 0 ∨ k = 1 ∨ k = 2 ∨ k = 3 ∨ k = 4 ∨ k = 5 ∨ k = 6 ∨ k = 7 := by omega
   have hx := shr8 x k
   have hx0 : k = 0 → (x.toNat : Int) % 256 = ((x.toNat / 2 ^ (8 * k) % 256 : Nat) : Int) := by rintro rfl; simp
   have hst := bigV_step x.toNat k hlt
   have hf := hB.frozen (7 - k)
   have hc := hB.at (k := 7 - k) (by omega)
   unfold bigV at hc
   rw [if_neg (by omega)] at hc
   have HB := Lib.hid (hst ▸ hB.set (7 - k) (.int .u8 ((x.toNat / 2 ^ (8 * k) % 256 : Nat) : Int)))
   have Hb := Lib.hid (hb.setCell (p := ⟨w.heap.size, 7 - k, none⟩) (Nat.le_refl _) (.int .u8 ((x.toNat / 2 ^ (8 * k) % 256 : Nat) : Int)))
   clear hB hb hst
   generalize x.toNat / 2 ^ (8 * k) % 256 = c at *
   rcases hk8 with rfl | rfl | rfl | rfl | rfl | rfl | rfl | rfl
   ·have hx0 := hx0 rfl
    simp only [Nat.reduceMul, Nat.reducePow, Nat.reduceSub, Int.cast_ofNat_Int] at hx hc hf HB Hb
    go_wp2
    go_roundw
    case rel => exact ⟨1, by omega, by go_num, HB.out, Hb.out⟩
    case measure => simp [intOf]
   ·clear hx0
    simp only [Nat.reduceMul, Nat.reducePow, Nat.reduceSub, Int.cast_ofNat_Int] at hx hc hf HB Hb
    go_wp2
    go_roundw
    case rel => exact ⟨2, by omega, by go_num, HB.out, Hb.out⟩
    case measure => simp [intOf]
   ·clear hx0
    simp only [Nat.reduceMul, Nat.reducePow, Nat.reduceSub, Int.cast_ofNat_Int] at hx hc hf HB Hb
    go_wp2
    go_roundw
    case rel => exact ⟨3, by omega, by go_num, HB.out, Hb.out⟩
    case measure => simp [intOf]
   ·clear hx0
    simp only [Nat.reduceMul, Nat.reducePow, Nat.reduceSub, Int.cast_ofNat_Int] at hx hc hf HB Hb
    go_wp2
    go_roundw
    case rel => exact ⟨4, by omega, by go_num, HB.out, Hb.out⟩
    case measure => simp [intOf]
   ·clear hx0
    simp only [Nat.reduceMul, Nat.reducePow, Nat.reduceSub, Int.cast_ofNat_Int] at hx hc hf HB Hb
    go_wp2
    go_roundw
    case rel => exact ⟨5, by omega, by go_num, HB.out, Hb.out⟩
    case measure => simp [intOf]
   ·clear hx0
    simp only [Nat.reduceMul, Nat.reducePow, Nat.reduceSub, Int.cast_ofNat_Int] at hx hc hf HB Hb
    go_wp2
    go_roundw
    case rel => exact ⟨6, by omega, by go_num, HB.out, Hb.out⟩
    case measure => simp [intOf]
   ·clear hx0
    simp only [Nat.reduceMul, Nat.reducePow, Nat.reduceSub, Int.cast_ofNat_Int] at hx hc hf HB Hb
    go_wp2
    go_roundw
    case rel => exact ⟨7, by omega, by go_num, HB.out, Hb.out⟩
    case measure => simp [intOf]
   ·clear hx0
    simp only [Nat.reduceMul, Nat.reducePow, Nat.reduceSub, Int.cast_ofNat_Int] at hx hc hf HB Hb
    go_wp2
    go_roundw
    case rel => exact ⟨8, by omega, by go_num, HB.out, Hb.out⟩
    case measure => simp [intOf]
  ·obtain rfl : k = 8 := by omega
   rw [bigV_end] at hB
   go_wp2
   go_ret
   exact ⟨rfl, hB, hb⟩
set_option maxRecDepth 100000 in
set_option maxHeartbeats 1000000 in
theorem r1Cat_any {a : Option Addr} {n cap : Nat} {ls : List (List UInt8)} {w : World} (h : RdRows w a n cap ls) (hs : ls.flatten.length ≤ 70368744177664) :
  Calls Tryz.prog 37 #[.slice a n cap] w fun e w' => ∃ v, e = .returned v ∧ w'.ownsRow w.heap.size 5 1 v ls.flatten.length (ls.flatten.map bV) ∧ Below w.heap.size w w' := by
 have HL := Lib.hid h.hlen
 have HS := Lib.hid hs
 have HR := Lib.hid h
 have hm63 : (n : Int) ≤ 9223372036854775807 := by have := h.hcap; have := h.hmax; unfold maxLen at *; omega
 clear h hs
 go_enter Tryz.func37, Tryz.ntmps37
 go_wp2
 go_loopw [3, 4] (fun s i wr => ∃ k : Nat, k ≤ n ∧ i = .int .i64 k ∧ wr.ownsRow w.heap.size 5 1 s (lens ls k) ((ls.take k).flatten.map bV) ∧ Below w.heap.size w wr) (fun _ i _ => n - (intOf i).toNat)
 case atStart => exact ⟨0, by omega, rfl, World.ownsRow_nil _ _ _ _, Below.refl _ _⟩
 case round =>
  obtain ⟨k, hk, rfl, ho, hbel⟩ := hrel
  by_cases hlt : k < n
  ·have hkl : k < ls.length := by rw [HL.out]; exact hlt
   rcases HR.out.cases with ⟨h0, _⟩ | ⟨b, o, _, rfl, hget⟩
   ·omega
   ·obtain ⟨sa, sn, sc, hc, hr⟩ := hget k hkl
    have hc2 : wr.cell? ⟨b, o + k, none⟩ = some (.slice sa sn sc) := by rw [hbel.cell (cell_lt hc)]; exact hc
    have e1 := lens_succ ls k hkl
    rw [hr.hlen] at e1
    have h2 := lens_le ls (k + 1)
    have hsum : lens ls k + sn ≤ 70368744177664 := by have := HS.out; omega
    have HE := Lib.hid e1
    have HF := Lib.hid (flat_succ ls k hkl)
    have HRD := Lib.hid (hr.below hbel)
    have HO := Lib.hid ho
    have HSM := Lib.hid hsum
    clear h2 e1 hc hr hget ho hsum
    go_wp2_with (at_builtin; go_must (refine app_bytes _ rfl (.tmp 11) (.tmp 15) rfl w.heap.size _ (lens ls k) ((ls.take k).flatten) rfl HO.out sa sn sc ls[k] rfl HRD.out HSM.out hbel.size w hbel ?_; intro v' w2 hown2 hbel2; have HO2 : Hid (w2.ownsRow w.heap.size 5 1 v' (lens ls (k + 1)) ((ls.take (k + 1)).flatten.map bV)) := Lib.hid (by rw [HE.out, HF.out]; exact hown2); clear hown2))
    go_roundw
    case rel => exact ⟨k + 1, by omega, by go_num, HO2.out, hbel2⟩
    case measure => simp [intOf]; omega
  ·obtain rfl : k = n := by omega
   have e : lens ls k = ls.flatten.length := by unfold lens; rw [List.take_of_length_le (by rw [HL.out]; omega)]
   rw [e, List.take_of_length_le (by rw [HL.out]; omega)] at ho
   have HO := Lib.hid ho
   clear ho e
   go_wp2
   go_ret
   exact ⟨_, rfl, HO.out, hbel⟩
theorem gRCat {v : Value} {ls : List (List UInt8)} {l : List UInt8} {w : World} (h : (IsR ls).P v w) (hl : ls.flatten = l) (hs : l.length ≤ 1000000) :
  Calls Tryz.prog 37 #[v] w fun e w' => ∃ r, e = .returned r ∧ (IsB l).P r w' ∧ Below w.heap.size w w' := by
 obtain ⟨a, n, cap, rfl, hr⟩ := h
 subst hl
 exact (r1Cat_any hr (by omega)).mono fun _ _ ⟨v, he, ho, hb⟩ => ⟨v, he, IsB.own ho, hb⟩
end Go.Proofs.YtielgpefoameiaaGreat
namespace Go.Proofs.YtielgpefoameiaaGreat
open Go Go.RowKit
set_option maxRecDepth 100000 in
set_option maxHeartbeats 4000000 in
theorem rrounds_any (w : World) :
  Calls Tryz.prog 72 #[] w fun e w' => ∃ r, e = .returned r ∧ IsFs rW80 r [kTab] ∧ Below w.heap.size w w' := by
 go_enter Tryz.func72, Tryz.ntmps72
 have hbel : Below w.heap.size w w := Below.refl _ _
 have hbel0 := hbel
 go_upto_region 0 with fail
 refine rgT [(0, 0)] [.new 80] ?_ ?_
 ·intro hs
  refine ⟨?_, trivial⟩
  ·exact step_alloc hs Wn rfl rfl (by omega) rfl alloca80
 intro L0 u0 W0 hall hJ hG
 obtain ⟨q0, e0, hq0, _, ht0⟩ := oN 80 hG 0
 have hq0 : w.heap.size ≤ q0 := by have := hbel0.size; omega
 have E0 := Lib.hid e0; clear e0
 have hb := hJ.all rfl
 have hbel := Below.call hbel hb
 have hbel0 := hbel
 clear hJ hG hall hb
 go_upto_region 1 with fail
 refine rgT [(1, 0)] [.val rW80 [kTab], .sto q0 rW80 [kTab]] ?_ ?_
 ·intro hs
  refine ⟨?_, ?_, trivial⟩
  ·exact step_pure hs Wn rfl fun L u W hG hdep => kt_build rfl
  ·refine step_storeO q0 80 hs Wn rfl rfl (by kernel_rfl) (fun k hk => ?_) (fun _ => E0.out) (there_lt ht0 (by omega)) ht0 (gO 0) tya80 rfl
   rcases k with _ | _ | k
   all_goals first | (exact absurd rfl hk) | (intro e; cases e; done)
 intro L1 u1 W1 hall hJ hG
 have hb := hJ.beN hbel
 have hbel := hbel.trans hb
 obtain ⟨_, hs1_1t, hs1_1⟩ := oT 80 rW80 [kTab] hG 1
 have hbel0 := hbel
 clear hJ hG hall hb
 go_wp2
 exact ret_cell1 (R := rW80) Tryz.results72 (by exact E0.out) hs1_1 tya80 rfl (fun r hr => ⟨r, rfl, hr, hbel⟩)
set_option maxRecDepth 100000 in
set_option maxHeartbeats 4000000 in
theorem rstart_any (w : World) :
  Calls Tryz.prog 73 #[] w fun e w' => ∃ r, e = .returned r ∧ IsFs rW8 r [hTab] ∧ Below w.heap.size w w' := by
 go_enter Tryz.func73, Tryz.ntmps73
 have hbel : Below w.heap.size w w := Below.refl _ _
 have hbel0 := hbel
 go_upto_region 0 with fail
 refine rgT [(0, 0)] [.new 8] ?_ ?_
 ·intro hs
  refine ⟨?_, trivial⟩
  ·exact step_alloc hs Wn rfl rfl (by omega) rfl alloca8
 intro L0 u0 W0 hall hJ hG
 obtain ⟨q0, e0, hq0, _, ht0⟩ := oN 8 hG 0
 have hq0 : w.heap.size ≤ q0 := by have := hbel0.size; omega
 have E0 := Lib.hid e0; clear e0
 have hb := hJ.all rfl
 have hbel := Below.call hbel hb
 have hbel0 := hbel
 clear hJ hG hall hb
 go_upto_region 1 with fail
 refine rgT [(1, 0)] [.val rW8 [hTab], .sto q0 rW8 [hTab]] ?_ ?_
 ·intro hs
  refine ⟨?_, ?_, trivial⟩
  ·exact step_pure hs Wn rfl fun L u W hG hdep => ht_build rfl
  ·refine step_storeO q0 8 hs Wn rfl rfl (by kernel_rfl) (fun k hk => ?_) (fun _ => E0.out) (there_lt ht0 (by omega)) ht0 (gO 0) tya8 rfl
   rcases k with _ | _ | k
   all_goals first | (exact absurd rfl hk) | (intro e; cases e; done)
 intro L1 u1 W1 hall hJ hG
 have hb := hJ.beN hbel
 have hbel := hbel.trans hb
 obtain ⟨_, hs1_1t, hs1_1⟩ := oT 8 rW8 [hTab] hG 1
 have hbel0 := hbel
 clear hJ hG hall hb
 go_wp2
 exact ret_cell1 (R := rW8) Tryz.results73 (by exact E0.out) hs1_1 tya8 rfl (fun r hr => ⟨r, rfl, hr, hbel⟩)
theorem pad_rel {n K j : Nat} (hK : K = (240 - (n + 1) % 128) % 128) (hj : j ≤ K) : ((n + 1 + j) % 128 = 112 ↔ j = K) := by omega
theorem rd_cut {W : World} {g A m c : Nat} {P : List UInt8} {r : List Value} (hB : Blk W g (P.map bV ++ r) 5) (h : A + m ≤ P.length) (hc : m ≤ c) (hm : c ≤ maxLen) : RdB W (some ⟨g, A, none⟩) m c ((P.drop A).take m) := by
 refine ⟨by rw [List.length_take, List.length_drop]; omega, hc, hm, fun j hj => ⟨g, A, rfl, ?_⟩, fun h => by cases h⟩
 have hj2 := hj
 rw [List.length_take, List.length_drop] at hj2
 rw [hB.cell, List.getElem?_append_left (by rw [List.length_map]; omega), List.getElem?_map, List.getElem?_eq_getElem (by omega), List.getElem_take, List.getElem_drop]; rfl
set_option maxRecDepth 100000 in
set_option maxHeartbeats 8000000 in
theorem rsum512_walk {a : Option Addr} {n cap M : Nat} {l P : List UInt8} {w : World} (h : RdB w a n cap l) (hs : n ≤ 1000000) (hP : padB l = P) (hM : P.length = 128 * M) (hM0 : 0 < M) (hM1 : M ≤ 10000) :
  Calls Tryz.prog 31 #[.slice a n cap] w (NewB w (outK (hSt P M) 8)) := by
 have HS := Lib.hid hs
 have HR := Lib.hid h
 have HL := Lib.hid h.hlen
 obtain ⟨K, hK⟩ : ∃ K : Nat, K = (240 - (n + 1) % 128) % 128 := ⟨_, rfl⟩
 have HKM : Hid (n + 1 + K + 8 + 8 = 128 * M) := Lib.hid (by rw [← hM, ← hP, padB_len, h.hlen, hK])
 have HK := Lib.hid hK
 have e8 : IntKind.u64.wrap ((n : Int) * 8) = (((UInt64.ofNat (8 * n)).toNat : Nat) : Int) := by rw [IntKind.wrap_u64, UInt64.toNat_ofNat']; omega
 have e9 : IntKind.u64.wrap (n : Int) = (n : Int) := by rw [IntKind.wrap_u64]; omega
 have HP : Hid ((l ++ [128] ++ List.replicate K 0 ++ List.replicate 8 0 ++ be8 (UInt64.ofNat (8 * n))) = P) := Lib.hid (by rw [← hP]; unfold padB; rw [h.hlen, ← hK]; simp)
 have HM := Lib.hid hM; have HM0 := Lib.hid hM0; have HM1 := Lib.hid hM1
 clear h hs hP hM hM0 hM1 hK
 generalize UInt64.ofNat (8 * n) = X at *
 go_enter Tryz.func31, Tryz.ntmps31
 have hbel : Below w.heap.size w w := Below.refl _ _
 have hbel0 := hbel
 go_upto_region 0 with fail
 refine rgT [(2, 0)] [.wld (IsB []) none] ?_ ?_
 ·intro hs
  refine ⟨?_, trivial⟩
  ·exact step_runP hs Wn rfl fun L u W hJ hG hL hdep => run_moveP (.inr rfl) (IsB.nil W)
 intro L0 u0z W0z hall hJ hG
 have hb := hJ.all rfl
 have hbel := Below.call hbel hb
 have hw2z := oW (IsB []) hG 0
 have hbel0 := hbel
 clear hJ hG hall hb
 go_upto_region 1 with fail
 refine rgT [(3, 1), (17, 0)] [.val rW80 [kTab], .new 80, .st 1 rW80 [kTab]] ?_ ?_
 ·intro hs
  refine ⟨?_, ?_, ?_, trivial⟩
  ·refine step_call hs Wn rfl fun L u W hJ hG hL hdep K hK => ?_
   go_simp
   go_at_call 72
   (with_reducible refine (rrounds_any _).mono ?_); rintro e w1 ⟨r, rfl, hr, hb⟩
   exact hK.out _ _ hr hb
  ·exact step_alloc hs Wn rfl rfl (by omega) rfl alloca80
  ·exact step_store 1 hs (by kernel_rfl) Wn rfl rfl rfl (by kernel_rfl) (by kernel_rfl) (by kernel_rfl) (by kernel_rfl) (fun _ => rfl) (gO 0) tya80 rfl
 intro L1 u1z W1z hall hJ hG
 obtain ⟨q3, e3, hq3, _, ht3⟩ := oN 80 hG 1
 have hm3 := oS rW80 [kTab] hG 2 e3
 have hq3 : w.heap.size ≤ q3 := by have := hbel0.size; omega
 have E3 := Lib.hid e3; clear e3
 have hb := hJ.all rfl
 have hbel := Below.call hbel hb
 have hw2z := (IsB []).st _ _ _ hw2z hb
 have hbel0 := hbel
 clear hJ hG hall hb
 go_upto_region 2 with fail
 refine rgT [(4, 1), (17, 0)] [.val rW8 [hTab], .new 8, .st 1 rW8 [hTab]] ?_ ?_
 ·intro hs
  refine ⟨?_, ?_, ?_, trivial⟩
  ·refine step_call hs Wn rfl fun L u W hJ hG hL hdep K hK => ?_
   go_simp
   go_at_call 73
   (with_reducible refine (rstart_any _).mono ?_); rintro e w1 ⟨r, rfl, hr, hb⟩
   exact hK.out _ _ hr hb
  ·exact step_alloc hs Wn rfl rfl (by omega) rfl alloca8
  ·exact step_store 1 hs (by kernel_rfl) Wn rfl rfl rfl (by kernel_rfl) (by kernel_rfl) (by kernel_rfl) (by kernel_rfl) (fun _ => rfl) (gO 0) tya8 rfl
 intro L2 u2z W2z hall hJ hG
 obtain ⟨q4, e4, hq4, _, ht4⟩ := oN 8 hG 1
 have hm4 := oS rW8 [hTab] hG 2 e4
 have HD4_q3 := Lib.hid (show q3 ≠ q4 by have := there_lt ht3 (by omega); omega)
 have hq4 : w.heap.size ≤ q4 := by have := hbel0.size; omega
 have E4 := Lib.hid e4; clear e4
 have hb := hJ.all rfl
 have hbel := Below.call hbel hb
 have hm3 := hm3.later hb
 have ht3 := there_later ht3 hb
 have hw2z := (IsB []).st _ _ _ hw2z hb
 have hbel0 := hbel
 clear hJ hG hall hb
 have HLT3 := Lib.hid hm3.lt; have HLT4 := Lib.hid hm4.lt
 have hn0 : (0 : Int) ≤ (n : Int) := by omega
 have hn1 : (n : Int) ≤ 1000000 := by have := HS.out; omega
 have HAB := Lib.hid hbel
 have HA := Lib.hid hbel.size
 have hRA := Lib.hid (HR.out.below hbel)
 clear hbel hbel0
 go_upto_region 4 with (at_builtin; first
  | (refine app_bytes _ rfl (.tmp 23) (.tmp 24) rfl W2z.heap.size _ 0 [] rfl (own_none W2z 5 W2z.heap.size (Nat.le_refl _)) _ _ _ l rfl (by exact hRA.out.below belowBy) (by have := HS.out; omega) (by simp) W2z (by exact belowBy) ?_; intro v1 w1 ho hb1; rw [Nat.zero_add, List.nil_append] at ho; have HO := Lib.hid ho; clear ho)
  | go_must (refine app_bytes _ rfl (.tmp 25) (.tmp 26) rfl W2z.heap.size _ n l rfl (HO.out.alloc _) _ 1 1 [128] rfl (RdB.blk (g := w1.heap.size) [] (Blk.new w1 #[.int .u8 128] 5) rfl (by omega) (by unfold maxLen; omega)) (by have := HS.out; omega) (by have := hb1.size; simp; omega) W2z (by exact belowBy) ?_; intro v2 w2 ho hb2; have HO1 := Lib.hid ho; clear ho))
 clear hb1 HO
 go_loopw [5] (fun b wr => ∃ j : Nat, j ≤ K ∧ wr.ownsRow W2z.heap.size 5 1 b (n + 1 + j) ((l ++ [128] ++ List.replicate j 0).map bV) ∧ Below W2z.heap.size W2z wr) (fun b _ => match b with | .slice _ m _ => n + 1 + K - m | _ => 0)
 case atStart => exact ⟨0, by omega, by simpa using HO1.out, hb2⟩
 case round =>
  obtain ⟨j, hj, ho, hbr⟩ := hrel
  clear HO1 hb2
  have hrel2 := pad_rel HK.out hj
  rcases ho.2 with ⟨_, h0⟩ | ⟨g0, c0, cur0, rfl, hr0⟩
  ·omega
  clear hr0
  have hjn : (0 : Int) ≤ (j : Int) := by omega
  have hjm : (j : Int) < 128 := by have := HK.out; omega
  obtain ⟨m, hm⟩ : ∃ m : Nat, m = n + 1 + j := ⟨_, rfl⟩
  rw [← hm] at ho hrel2 ⊢
  have HO2 := Lib.hid ho; have HB2 := Lib.hid hbr
  clear ho hbr
  have hm0 : (0 : Int) ≤ (m : Int) := by omega
  have hm1 : (m : Int) ≤ 1000129 := by omega
  by_cases hlt : j < K
  ·have hd : ((m : Int) % 128 != 112) = true := by simp; omega
   have HLT := Lib.hid hlt; have HMM := Lib.hid hm
   clear hlt hrel2 hj hm
   go_wp2_with (at_builtin; go_must (refine app_bytes _ rfl (.tmp 32) (.tmp 33) rfl W2z.heap.size _ m (l ++ [128] ++ List.replicate j 0) rfl (HO2.out.alloc _) _ 1 1 [0] rfl (RdB.blk (g := wr.heap.size) [] (Blk.new wr #[.int .u8 0] 5) rfl (by omega) (by unfold maxLen; omega)) (by omega) (by have := HB2.out.size; simp; omega) W2z (by have hbz := HB2.out; exact belowBy) ?_; intro v3 w3 ho hb3; have HO3 := Lib.hid ho; clear ho))
   rcases HO3.out.2 with ⟨_, h0⟩ | ⟨g1, c1, cur1, rfl, hr1⟩
   ·omega
   clear hr1
   go_roundw
   case rel => exact ⟨j + 1, by have := HLT.out; omega, by have h9 := HO3.out; rw [List.replicate_succ', ← List.append_assoc, show n + 1 + (j + 1) = m + 1 by have := HMM.out; omega]; exact h9, hb3⟩
   case measure => have := HMM.out; have := HLT.out; show n + 1 + K - (m + 1) < n + 1 + K - m; omega
  ·obtain rfl : j = K := by omega
   have hd : ((m : Int) % 128 != 112) = false := by simp; omega
   have HMM := Lib.hid hm
   clear hlt hrel2 hj hm
   go_upto_region 7 with (first
    | (go_at_call 74; go_must (refine (rbig_any (x := X) _).mono ?_; rintro e w5 ⟨rfl, hB, hb⟩; have hb5 := Below.call hb4 hb; have HO4 := Lib.hid (own_below HO3.out hb); have HBX := Lib.hid (RdB.blk (n := 8) (cap := 8) (l := be8 X) [] (by rw [List.append_nil]; exact hB) (be8_len _) (by omega) (by unfold maxLen; omega)); clear hB hb))
    | (at_builtin; first
     | (refine app_zeros _ rfl (.tmp 35) (.const (.int .i64 8)) rfl W2z.heap.size _ m (l ++ [128] ++ List.replicate j 0) rfl HO2.out 8 rfl (by omega) HB2.out.size W2z HB2.out ?_; intro v3 w4 ho hb4; have HO3 := Lib.hid ho; clear ho)
     | go_must (refine app_bytes _ rfl (.tmp 36) (.tmp 41) rfl W2z.heap.size _ (m + 8) (l ++ [128] ++ List.replicate j 0 ++ List.replicate 8 0) rfl HO4.out _ 8 8 (be8 X) rfl HBX.out (by omega) hb5.size W2z hb5 ?_; intro v4 w6 ho hb6; have HO5 := Lib.hid ho; clear ho)))
   obtain ⟨ML, hML⟩ : ∃ ML : Nat, ML = 128 * M := ⟨_, rfl⟩
   have hmm : m + 8 + 8 = ML := by have := HKM.out; have := HMM.out; omega
   have ho5 := HO5.out
   rw [hmm, HP.out] at ho5
   obtain ⟨g5, c5, r5, rfl, hg5, hB5, _, hc5, hm5⟩ := own_rdb ho5 (by omega)
   have HB := Lib.hid hB5; have HML := Lib.hid hML; have HC5 := Lib.hid hc5; have HM5 := Lib.hid hm5
   have HPL : Hid (P.length = ML) := Lib.hid (by rw [HM.out, hML])
   clear ho5 hB5 hc5 hm5 hmm hML HO5 hb5 hb4 HO3 HO4 HBX HO2 HB2
   have hm3 := hm3.later hb6
   have hm4 := hm4.later hb6
   have ht3 := there_later ht3 hb6
   have ht4 := there_later ht4 hb6
   have hbel : Below w.heap.size w w6 := Below.call HAB.out hb6
   have HG5 : Hid (W2z.heap.size ≤ g5) := Lib.hid hg5
   have HN3 : Hid (q3 ≠ g5) := Lib.hid (by have := HLT3.out; omega)
   have HN4 : Hid (q4 ≠ g5) := Lib.hid (by have := HLT4.out; omega)
   clear hb6 hg5
   have hi0 : (0 : Int) ≤ (ML : Int) := by omega
   go_wp2_with fail
   go_loopw [6] (fun sk wr => ∃ i AT : Nat, i ≤ M ∧ AT = 128 * i ∧ sk = .int .i64 (AT : Int) ∧ HasFs rW80 wr q3 0 [kTab] ∧ wr.there q3 0 80 ∧ HasFs rW8 wr q4 0 [hSt P i] ∧ wr.there q4 0 8 ∧ Blk wr g5 (P.map bV ++ r5) 5 ∧ Below w.heap.size w wr) (fun x _ => ML - (intOf x).toNat)
   case atStart => exact ⟨0, 0, by omega, rfl, rfl, hm3, ht3, hm4, ht4, HB.out, hbel⟩
   case round =>
    obtain ⟨i, AT, hi, hat, rfl, hmO3, htO3, hmO4, htO4, hB', hbel'⟩ := hrel
    clear hm3 hm4 ht3 ht4 hbel HB
    have hbel := hbel'
    have hbel0 := hbel'
    have HB := Lib.hid hB'
    clear hB'
    have HAT := Lib.hid hat
    by_cases hlt : i < M
    ·have hml := HML.out
     have hdo : decide (AT < ML) = true := decide_eq_true (by omega)
     have HI := Lib.hid hlt
     have hml1 : (ML : Int) ≤ 1280000 := by have := HM1.out; omega
     have hsp : AT + 128 ≤ ML := by omega
     have HSP := Lib.hid hsp
     clear hat hi hlt hml hsp
     go_upto_region 10 with fail
     clear hdo
     refine rgT [(7, 0)] [.box rW80 [(List.replicate 80 0)]] ?_ ?_
     ·intro hs
      refine ⟨?_, trivial⟩
      ·exact step_allocZ hs Wn rfl rfl zero80 alloca80
     intro L10 u10z W10z hall hJ hG
     obtain ⟨q7, e7, ⟨hq7, _⟩, ht7, hm7⟩ := oB 80 rW80 [(List.replicate 80 0)] hG 0
     have HD7_q3 := Lib.hid (show q3 ≠ q7 by have := there_lt htO3 (by omega); omega)
     have HD7_q4 := Lib.hid (show q4 ≠ q7 by have := there_lt htO4 (by omega); omega)
     have HD7_g5 := Lib.hid (show g5 ≠ q7 by have := HB.out.lt; omega)
     have hq7 : w.heap.size ≤ q7 := by have := hbel0.size; omega
     have E7 := Lib.hid e7; clear e7
     have hb := hJ.all rfl
     have hbel := Below.call hbel hb
     have hmO3 := hmO3.later hb
     have hmO4 := hmO4.later hb
     have htO3 := there_later htO3 hb
     have htO4 := there_later htO4 hb
     have HB := Lib.hid (HB.out.below' hb)
     have hbel0 := hbel
     clear hJ hG hall hb
     go_wp2_with fail
     go_loopw [8] (fun sk wr => ∃ t : Nat, t ≤ 16 ∧ sk = .int .i64 (t : Int) ∧ HasFs rW80 wr q3 0 [kTab] ∧ wr.there q3 0 80 ∧ HasFs rW8 wr q4 0 [hSt P i] ∧ wr.there q4 0 8 ∧ HasFs rW80 wr q7 0 [wP (words (P.drop AT)) t] ∧ wr.there q7 0 80 ∧ Blk wr g5 (P.map bV ++ r5) 5 ∧ Below w.heap.size w wr) (fun x _ => 16 - (intOf x).toNat)
     case atStart => exact ⟨0, by omega, rfl, hmO3, htO3, hmO4, htO4, (by rw [wP_zero]; exact hm7), ht7, HB.out, hbel⟩
     case round =>
      obtain ⟨t, ht, rfl, hmL3, htL3, hmL4, htL4, hmL7, htL7, hB', hbel'⟩ := hrel
      clear hm7 hmO3 hmO4 ht7 htO3 htO4 hbel hbel0 HB
      have hbel := hbel'
      have hbel0 := hbel'
      have HB := Lib.hid hB'
      clear hB'
      by_cases hlt : t < 16
      ·have hd1 : decide ((t : Int) < 16) = true := decide_eq_true (by omega)
       have HLT := Lib.hid hlt
       obtain ⟨x, hx⟩ : ∃ x, beW (first (((P.drop AT).drop (8 * t)).take 8) 8) = x := ⟨_, rfl⟩
       have HX := Lib.hid hx
       have hsp := HSP.out; have hml1 : ML ≤ 1280000 := by have := HML.out; have := HM1.out; omega
       have hA8 : AT + 8 * t + 8 ≤ ML := by omega
       have HXS : Hid ((if t < 16 then at0 (words (P.drop AT)) t else wNext (wL (words (P.drop AT)) t) t) = x) := Lib.hid (by rw [if_pos hlt]; unfold words; rw [at0_map hlt, ← hx, first_take (by rw [List.length_take, List.length_drop, List.length_drop, HPL.out]; omega), List.take_take]; rfl)
       have HA8 := Lib.hid hA8
       have hc5 := HC5.out; have hm5 := HM5.out
       unfold maxLen at hm5
       clear hx hlt hsp
       go_upto_region 14 with fail
       clear hd1
       refine rgT [(53, 0), (0, 1), (0, 2), (0, 3), (0, 4), (0, 5), (0, 6), (0, 7), (0, 8), (0, 9), (0, 10), (0, 11), (0, 12), (0, 13)] [.oth (fun v => v = .int .i64 (t : Int)), .oth (fun v => v = .slice (some ⟨g5, 0, none⟩) ML c5), .oth (fun v => v = .int .i64 (AT : Int)), .oth (fun v => v = .int .i64 (t : Int)), .oth (fun v => v = .int .i64 ((8 * t : Nat) : Int)), .oth (fun v => v = .int .i64 ((AT + 8 * t : Nat) : Int)), .oth (fun v => v = .int .i64 (AT : Int)), .oth (fun v => v = .int .i64 (t : Int)), .oth (fun v => v = .int .i64 ((8 * t : Nat) : Int)), .oth (fun v => v = .int .i64 ((AT + 8 * t : Nat) : Int)), .oth (fun v => v = .int .i64 ((AT + 8 * t + 8 : Nat) : Int)), .oth (fun v => v = .slice (some ⟨g5, AT + 8 * t, none⟩) 8 (c5 - (AT + 8 * t))), .oth (fun v => v = .int .u64 ((x).toNat : Int)), .oth (fun v => v = .pointer (some ⟨q7, t, none⟩)), .cst q7 t (.int .u64 ((x).toNat : Int))] ?_ ?_
       ·intro hs
        refine ⟨?_, ?_, ?_, ?_, ?_, ?_, ?_, ?_, ?_, ?_, ?_, ?_, ?_, ?_, ?_, trivial⟩
        ·exact mvK hs fun _ => rfl
        ·exact mvK hs fun _ => rfl
        ·exact mvK hs fun _ => rfl
        ·exact mvK hs fun _ => rfl
        ·refine step_pureO hs Wn rfl fun L u W hG hdep => ⟨_, ?_, rfl⟩
         have e0 := (oE (.int .i64 (t : Int)) hG hdep 3)
         go_simp
         try (rw [IntKind.wrap_i64]; omega)
        ·refine step_pureO hs Wn rfl fun L u W hG hdep => ⟨_, ?_, rfl⟩
         have e0 := (oE (.int .i64 (AT : Int)) hG hdep 2)
         have e1 := (oE (.int .i64 ((8 * t : Nat) : Int)) hG hdep 4)
         go_simp
         try (rw [IntKind.wrap_i64]; omega)
        ·exact mvK hs fun _ => rfl
        ·exact mvK hs fun _ => rfl
        ·refine step_pureO hs Wn rfl fun L u W hG hdep => ⟨_, ?_, rfl⟩
         have e0 := (oE (.int .i64 (t : Int)) hG hdep 7)
         go_simp
         try (rw [IntKind.wrap_i64]; omega)
        ·refine step_pureO hs Wn rfl fun L u W hG hdep => ⟨_, ?_, rfl⟩
         have e0 := (oE (.int .i64 (AT : Int)) hG hdep 6)
         have e1 := (oE (.int .i64 ((8 * t : Nat) : Int)) hG hdep 8)
         go_simp
         try (rw [IntKind.wrap_i64]; omega)
        ·refine step_pureO hs Wn rfl fun L u W hG hdep => ⟨_, ?_, rfl⟩
         have e0 := (oE (.int .i64 ((AT + 8 * t : Nat) : Int)) hG hdep 9)
         go_simp
         try (rw [IntKind.wrap_i64]; omega)
        ·refine step_pureO hs Wn rfl fun L u W hG hdep => ⟨_, ?_, rfl⟩
         have e0 := (oE (.slice (some ⟨g5, 0, none⟩) ML c5) hG hdep 1)
         have e1 := (oE (.int .i64 ((AT + 8 * t : Nat) : Int)) hG hdep 5)
         have e2 := (oE (.int .i64 ((AT + 8 * t + 8 : Nat) : Int)) hG hdep 10)
         have h8 := HA8.out
         go_simp
         repeat rw [if_pos (by omega)]
         try rw [if_neg (by omega)]
         try rw [show ((AT : Int) + 8 * (t : Int)).toNat = AT + 8 * t by omega]
         try rw [show ((AT : Int) + 8 * (t : Int) + 8).toNat - (AT + 8 * t) = 8 by omega]
         try rfl
        ·refine step_callO hs Wn rfl fun L u W hJ hG hL hdep K hK => ?_
         have x0 := (oE (.slice (some ⟨g5, AT + 8 * t, none⟩) 8 (c5 - (AT + 8 * t))) hG hdep 11)
         have hRB0 := (by have h9 := rd_cut (A := AT + 8 * t) (m := 8) (c := c5 - (AT + 8 * t)) (blk_keep HB.out (hJ.block _ HB.out.lt (fun k hk => by rcases k with _ | _ | _ | _ | _ | _ | _ | _ | _ | _ | _ | _ | _ | _ | _ | k <;> first | (cases hk; done) | (cases hk; exact absurd rfl (Ne.symm HD7_g5.out))))) (by have := HPL.out; have := HA8.out; omega) (by have := HA8.out; have := HC5.out; omega) (by have := HM5.out; omega); rw [← List.drop_drop] at h9; exact h9)
         go_simp
         go_at_call 75
         (with_reducible refine (rgetbig_any hRB0 HX.out).mono ?_); rintro e w1 ⟨rfl, hb⟩
         have hk := hK.out _ _ rfl hb
         simp only [x0] at hk
         exact hk
        ·refine step_pureO hs Wn rfl fun L u W hG hdep => ⟨_, ?_, rfl⟩
         have e0 := E7.out
         have e1 := (oE (.int .i64 (t : Int)) hG hdep 0)
         have hltx := HLT.out
         go_simp
         try rw [if_pos (by omega)]
         try rw [show ((t : Nat) : Int).toNat = t by omega]
         try omega
        ·refine step_cst (old := .int .u64 ((at0 (wP (words (P.drop AT)) t) t).toNat : Int)) q7 t hs Wn rfl rfl (by kernel_rfl) (fun k hk => ?_) (fun _ h1 h2 => store_u64 h1 h2) (fun L u W hG hdep => (oE (.pointer (some ⟨q7, t, none⟩)) hG hdep 13)) (fun L u W hG hdep => (oE (.int .u64 ((x).toNat : Int)) hG hdep 12)) (HasFs.cellW hmL7 (by have := HLT.out; omega) rfl) (there_frozen htL7 (by have := HLT.out; omega))
         rcases k with _ | _ | _ | _ | _ | _ | _ | _ | _ | _ | _ | _ | _ | _ | _ | k
         all_goals first | (exact absurd rfl hk) | (intro e; cases e; done)
       intro L14 u14z W14z hall hJ hG
       have hb := hJ.beN hbel
       have hbel := hbel.trans hb
       have hmL3 := kC hmL3 hJ HD7_q3.out
       have hmL4 := kC hmL4 hJ HD7_q4.out
       have hmL7 : HasFs rW80 W14z q7 0 [wP (words (P.drop AT)) (t + 1)] := by
        have z := (hmL7.setW htL7 (by have := HLT.out; omega) x).blk (show _ ∧ W14z.heap[q7]? = (wr.setCell ⟨q7, t, none⟩ (.int .u64 ((x).toNat : Int))).heap[q7]? from hG 14 (by simp)).2
        rw [wP_set (by have := HLT.out; omega) HXS.out] at z
        exact z
       have htL3 := tC htL3 hJ HD7_q3.out
       have htL4 := tC htL4 hJ HD7_q4.out
       have htL7 := there_blk (there_set (b := q7) (k := t) (v := .int .u64 ((x).toNat : Int)) htL7) (show _ ∧ W14z.heap[q7]? = (wr.setCell ⟨q7, t, none⟩ (.int .u64 ((x).toNat : Int))).heap[q7]? from hG 14 (by simp)).2
       have HB := Lib.hid (blk_keep HB.out (hJ.block _ (HB.out.lt) (fun k hk => by rcases k with _ | _ | _ | _ | _ | _ | _ | _ | _ | _ | _ | _ | _ | _ | _ | k <;> first | (cases hk; done) | (cases hk; exact absurd rfl (Ne.symm HD7_g5.out)))))
       have hbel0 := hbel
       clear hJ hG hall hb
       have hlt := HLT.out
       go_wp2_with fail
       go_roundw
       case rel => exact ⟨t + 1, by omega, by go_num, hmL3, htL3, hmL4, htL4, hmL7, htL7, HB.out, hbel⟩
       case measure => simp [intOf]; omega
      ·obtain rfl : t = 16 := by omega
       have hd1 : decide (((16 : Nat) : Int) < 16) = false := by decide
       clear ht hlt
       go_wp2_with fail
       go_wp2_with fail
       go_loopw [9] (fun sk wr => ∃ t : Nat, 16 ≤ t ∧ t ≤ 80 ∧ sk = .int .i64 (t : Int) ∧ HasFs rW80 wr q3 0 [kTab] ∧ wr.there q3 0 80 ∧ HasFs rW8 wr q4 0 [hSt P i] ∧ wr.there q4 0 8 ∧ HasFs rW80 wr q7 0 [wP (words (P.drop AT)) t] ∧ wr.there q7 0 80 ∧ Blk wr g5 (P.map bV ++ r5) 5 ∧ Below w.heap.size w wr) (fun x _ => 80 - (intOf x).toNat)
       case atStart => exact ⟨16, by omega, by omega, rfl, hmL3, htL3, hmL4, htL4, hmL7, htL7, HB.out, hbel⟩
       case round =>
        obtain ⟨t, hge, ht, rfl, hmM3, htM3, hmM4, htM4, hmM7, htM7, hB', hbel'⟩ := hrel
        clear hmL3 hmL4 hmL7 htL3 htL4 htL7 hbel hbel0 HB
        have hbel := hbel'
        have hbel0 := hbel'
        have HB := Lib.hid hB'
        clear hB'
        by_cases hlt : t < 80
        ·have hd1 : decide ((t : Int) < 80) = true := decide_eq_true (by omega)
         have HLT := Lib.hid hlt
         obtain ⟨x15, hx15⟩ : ∃ x, at0 (wP (words (P.drop AT)) t) (t - 15) = x := ⟨_, rfl⟩
         obtain ⟨x2, hx2⟩ : ∃ x, at0 (wP (words (P.drop AT)) t) (t - 2) = x := ⟨_, rfl⟩
         obtain ⟨x16, hx16⟩ : ∃ x, at0 (wP (words (P.drop AT)) t) (t - 16) = x := ⟨_, rfl⟩
         obtain ⟨x7, hx7⟩ : ∃ x, at0 (wP (words (P.drop AT)) t) (t - 7) = x := ⟨_, rfl⟩
         have HXS : Hid ((if t < 16 then at0 (words (P.drop AT)) t else wNext (wL (words (P.drop AT)) t) t) = up (up (up x16 (sg0 x15)) x7) (sg1 x2)) := Lib.hid (by
          rw [if_neg (by omega), ← hx15, ← hx2, ← hx16, ← hx7, wP_at (by omega), wP_at (by omega), wP_at (by omega), wP_at (by omega)]; rfl)
         have HX15 := Lib.hid hx15; have HX2 := Lib.hid hx2; have HX16 := Lib.hid hx16; have HX7 := Lib.hid hx7
         clear hx15 hx2 hx16 hx7 hlt
         go_upto_region 18 with fail
         clear hd1
         refine rgM [(10, 17), (60, 0), (0, 1), (0, 2), (0, 3), (0, 4), (0, 5), (0, 6), (0, 7), (0, 8), (0, 9), (0, 10), (0, 11), (0, 12), (0, 13), (0, 14), (0, 15), (0, 16)] [.oth (fun v => v = .int .i64 (t : Int)), .oth (fun v => v = .int .i64 ((t - 15 : Nat) : Int)), .oth (fun v => v = .pointer (some ⟨q7, t - 15, none⟩)), .oth (fun v => v = .int .u64 ((x15).toNat : Int)), .oth (fun v => v = .int .u64 ((rotr x15 1).toNat : Int)), .oth (fun v => v = .int .i64 (t : Int)), .oth (fun v => v = .int .i64 ((t - 15 : Nat) : Int)), .oth (fun v => v = .pointer (some ⟨q7, t - 15, none⟩)), .oth (fun v => v = .int .u64 ((x15).toNat : Int)), .oth (fun v => v = .int .u64 ((rotr x15 8).toNat : Int)), .oth (fun v => v = .int .u64 ((ux (rotr x15 1) (rotr x15 8)).toNat : Int)), .oth (fun v => v = .int .i64 (t : Int)), .oth (fun v => v = .int .i64 ((t - 15 : Nat) : Int)), .oth (fun v => v = .pointer (some ⟨q7, t - 15, none⟩)), .oth (fun v => v = .int .u64 ((x15).toNat : Int)), .oth (fun v => v = .int .u64 ((ush x15 7).toNat : Int)), .oth (fun v => v = .int .u64 ((ux (ux (rotr x15 1) (rotr x15 8)) (ush x15 7)).toNat : Int)), .oth (fun v => v = .int .u64 ((ux (ux (rotr x15 1) (rotr x15 8)) (ush x15 7)).toNat : Int))] ?_ ?_
         ·intro hs
          refine ⟨?_, ?_, ?_, ?_, ?_, ?_, ?_, ?_, ?_, ?_, ?_, ?_, ?_, ?_, ?_, ?_, ?_, ?_, trivial⟩
          ·exact mvK hs fun _ => rfl
          ·refine step_pureO hs Wn rfl fun L u W hG hdep => ⟨_, ?_, rfl⟩
           have e0 := (oE (.int .i64 (t : Int)) hG hdep 0)
           go_simp
           try (rw [IntKind.wrap_i64]; omega)
          ·refine step_pureO hs Wn rfl fun L u W hG hdep => ⟨_, ?_, rfl⟩
           have e0 := E7.out
           have e1 := (oE (.int .i64 ((t - 15 : Nat) : Int)) hG hdep 1)
           have hltx := HLT.out
           go_simp
           try rw [if_pos (by omega)]
           try rw [show ((t - 15 : Nat) : Int).toNat = t - 15 by omega]
           try omega
          ·exact step_cell q7 (t - 15) hs Wn rfl rfl (fun _ h => load_u64 h) (fun L u W hG hdep => (oE (.pointer (some ⟨q7, t - 15, none⟩)) hG hdep 2)) (HasFs.cellW hmM7 (by have := HLT.out; omega) HX15.out) Na
          ·refine step_callO hs Wn rfl fun L u W hJ hG hL hdep K hK => ?_
           have x0 := (oE (.int .u64 ((x15).toNat : Int)) hG hdep 3)
           go_simp
           go_at_call 76
           (with_reducible refine (rrot_1 (x := x15) _).mono ?_); rintro e w1 ⟨rfl, hb⟩
           have hk := hK.out _ _ rfl hb
           simp only [x0] at hk
           exact hk
          ·exact mvK hs fun _ => rfl
          ·refine step_pureO hs Wn rfl fun L u W hG hdep => ⟨_, ?_, rfl⟩
           have e0 := (oE (.int .i64 (t : Int)) hG hdep 5)
           go_simp
           try (rw [IntKind.wrap_i64]; omega)
          ·refine step_pureO hs Wn rfl fun L u W hG hdep => ⟨_, ?_, rfl⟩
           have e0 := E7.out
           have e1 := (oE (.int .i64 ((t - 15 : Nat) : Int)) hG hdep 6)
           have hltx := HLT.out
           go_simp
           try rw [if_pos (by omega)]
           try rw [show ((t - 15 : Nat) : Int).toNat = t - 15 by omega]
           try omega
          ·exact step_cell q7 (t - 15) hs Wn rfl rfl (fun _ h => load_u64 h) (fun L u W hG hdep => (oE (.pointer (some ⟨q7, t - 15, none⟩)) hG hdep 7)) (HasFs.cellW hmM7 (by have := HLT.out; omega) HX15.out) Na
          ·refine step_callO hs Wn rfl fun L u W hJ hG hL hdep K hK => ?_
           have x0 := (oE (.int .u64 ((x15).toNat : Int)) hG hdep 8)
           go_simp
           go_at_call 76
           (with_reducible refine (rrot_8 (x := x15) _).mono ?_); rintro e w1 ⟨rfl, hb⟩
           have hk := hK.out _ _ rfl hb
           simp only [x0] at hk
           exact hk
          ·refine step_pureO hs Wn rfl fun L u W hG hdep => ⟨_, ?_, rfl⟩
           have e0 := (oE (.int .u64 ((rotr x15 1).toNat : Int)) hG hdep 4)
           have e1 := (oE (.int .u64 ((rotr x15 8).toNat : Int)) hG hdep 9)
           exact run_ux rfl ((oE (.int .u64 ((rotr x15 1).toNat : Int)) hG hdep 4)) ((oE (.int .u64 ((rotr x15 8).toNat : Int)) hG hdep 9))
          ·exact mvK hs fun _ => rfl
          ·refine step_pureO hs Wn rfl fun L u W hG hdep => ⟨_, ?_, rfl⟩
           have e0 := (oE (.int .i64 (t : Int)) hG hdep 11)
           go_simp
           try (rw [IntKind.wrap_i64]; omega)
          ·refine step_pureO hs Wn rfl fun L u W hG hdep => ⟨_, ?_, rfl⟩
           have e0 := E7.out
           have e1 := (oE (.int .i64 ((t - 15 : Nat) : Int)) hG hdep 12)
           have hltx := HLT.out
           go_simp
           try rw [if_pos (by omega)]
           try rw [show ((t - 15 : Nat) : Int).toNat = t - 15 by omega]
           try omega
          ·exact step_cell q7 (t - 15) hs Wn rfl rfl (fun _ h => load_u64 h) (fun L u W hG hdep => (oE (.pointer (some ⟨q7, t - 15, none⟩)) hG hdep 13)) (HasFs.cellW hmM7 (by have := HLT.out; omega) HX15.out) Na
          ·refine step_pureO hs Wn rfl fun L u W hG hdep => ⟨_, ?_, rfl⟩
           have e0 := (oE (.int .u64 ((x15).toNat : Int)) hG hdep 14)
           exact run_ush7 rfl rfl ((oE (.int .u64 ((x15).toNat : Int)) hG hdep 14))
          ·refine step_pureO hs Wn rfl fun L u W hG hdep => ⟨_, ?_, rfl⟩
           have e0 := (oE (.int .u64 ((ux (rotr x15 1) (rotr x15 8)).toNat : Int)) hG hdep 10)
           have e1 := (oE (.int .u64 ((ush x15 7).toNat : Int)) hG hdep 15)
           exact run_ux rfl ((oE (.int .u64 ((ux (rotr x15 1) (rotr x15 8)).toNat : Int)) hG hdep 10)) ((oE (.int .u64 ((ush x15 7).toNat : Int)) hG hdep 15))
          ·exact mvO 16 hs
         intro L18 u18z W18z hall hJ hG
         have hb := hJ.all rfl
         have hbel := Below.call hbel hb
         have hmM3 := hmM3.later hb
         have hmM4 := hmM4.later hb
         have hmM7 := hmM7.later hb
         have htM3 := there_later htM3 hb
         have htM4 := there_later htM4 hb
         have htM7 := there_later htM7 hb
         have HB := Lib.hid (HB.out.below' hb)
         have HC10 := oC (.int .u64 ((ux (ux (rotr x15 1) (rotr x15 8)) (ush x15 7)).toNat : Int)) hG 17
         have hbel0 := hbel
         clear hJ hG hall hb
         go_upto_region 19 with fail
         refine rgM [(11, 17), (76, 0), (0, 1), (0, 2), (0, 3), (0, 4), (0, 5), (0, 6), (0, 7), (0, 8), (0, 9), (0, 10), (0, 11), (0, 12), (0, 13), (0, 14), (0, 15), (0, 16)] [.oth (fun v => v = .int .i64 (t : Int)), .oth (fun v => v = .int .i64 ((t - 2 : Nat) : Int)), .oth (fun v => v = .pointer (some ⟨q7, t - 2, none⟩)), .oth (fun v => v = .int .u64 ((x2).toNat : Int)), .oth (fun v => v = .int .u64 ((rotr x2 19).toNat : Int)), .oth (fun v => v = .int .i64 (t : Int)), .oth (fun v => v = .int .i64 ((t - 2 : Nat) : Int)), .oth (fun v => v = .pointer (some ⟨q7, t - 2, none⟩)), .oth (fun v => v = .int .u64 ((x2).toNat : Int)), .oth (fun v => v = .int .u64 ((rotr x2 61).toNat : Int)), .oth (fun v => v = .int .u64 ((ux (rotr x2 19) (rotr x2 61)).toNat : Int)), .oth (fun v => v = .int .i64 (t : Int)), .oth (fun v => v = .int .i64 ((t - 2 : Nat) : Int)), .oth (fun v => v = .pointer (some ⟨q7, t - 2, none⟩)), .oth (fun v => v = .int .u64 ((x2).toNat : Int)), .oth (fun v => v = .int .u64 ((ush x2 6).toNat : Int)), .oth (fun v => v = .int .u64 ((ux (ux (rotr x2 19) (rotr x2 61)) (ush x2 6)).toNat : Int)), .oth (fun v => v = .int .u64 ((ux (ux (rotr x2 19) (rotr x2 61)) (ush x2 6)).toNat : Int))] ?_ ?_
         ·intro hs
          refine ⟨?_, ?_, ?_, ?_, ?_, ?_, ?_, ?_, ?_, ?_, ?_, ?_, ?_, ?_, ?_, ?_, ?_, ?_, trivial⟩
          ·exact mvK hs fun _ => rfl
          ·refine step_pureO hs Wn rfl fun L u W hG hdep => ⟨_, ?_, rfl⟩
           have e0 := (oE (.int .i64 (t : Int)) hG hdep 0)
           go_simp
           try (rw [IntKind.wrap_i64]; omega)
          ·refine step_pureO hs Wn rfl fun L u W hG hdep => ⟨_, ?_, rfl⟩
           have e0 := E7.out
           have e1 := (oE (.int .i64 ((t - 2 : Nat) : Int)) hG hdep 1)
           have hltx := HLT.out
           go_simp
           try rw [if_pos (by omega)]
           try rw [show ((t - 2 : Nat) : Int).toNat = t - 2 by omega]
           try omega
          ·exact step_cell q7 (t - 2) hs Wn rfl rfl (fun _ h => load_u64 h) (fun L u W hG hdep => (oE (.pointer (some ⟨q7, t - 2, none⟩)) hG hdep 2)) (HasFs.cellW hmM7 (by have := HLT.out; omega) HX2.out) Na
          ·refine step_callO hs Wn rfl fun L u W hJ hG hL hdep K hK => ?_
           have x0 := (oE (.int .u64 ((x2).toNat : Int)) hG hdep 3)
           go_simp
           go_at_call 76
           (with_reducible refine (rrot_19 (x := x2) _).mono ?_); rintro e w1 ⟨rfl, hb⟩
           have hk := hK.out _ _ rfl hb
           simp only [x0] at hk
           exact hk
          ·exact mvK hs fun _ => rfl
          ·refine step_pureO hs Wn rfl fun L u W hG hdep => ⟨_, ?_, rfl⟩
           have e0 := (oE (.int .i64 (t : Int)) hG hdep 5)
           go_simp
           try (rw [IntKind.wrap_i64]; omega)
          ·refine step_pureO hs Wn rfl fun L u W hG hdep => ⟨_, ?_, rfl⟩
           have e0 := E7.out
           have e1 := (oE (.int .i64 ((t - 2 : Nat) : Int)) hG hdep 6)
           have hltx := HLT.out
           go_simp
           try rw [if_pos (by omega)]
           try rw [show ((t - 2 : Nat) : Int).toNat = t - 2 by omega]
           try omega
          ·exact step_cell q7 (t - 2) hs Wn rfl rfl (fun _ h => load_u64 h) (fun L u W hG hdep => (oE (.pointer (some ⟨q7, t - 2, none⟩)) hG hdep 7)) (HasFs.cellW hmM7 (by have := HLT.out; omega) HX2.out) Na
          ·refine step_callO hs Wn rfl fun L u W hJ hG hL hdep K hK => ?_
           have x0 := (oE (.int .u64 ((x2).toNat : Int)) hG hdep 8)
           go_simp
           go_at_call 76
           (with_reducible refine (rrot_61 (x := x2) _).mono ?_); rintro e w1 ⟨rfl, hb⟩
           have hk := hK.out _ _ rfl hb
           simp only [x0] at hk
           exact hk
          ·refine step_pureO hs Wn rfl fun L u W hG hdep => ⟨_, ?_, rfl⟩
           have e0 := (oE (.int .u64 ((rotr x2 19).toNat : Int)) hG hdep 4)
           have e1 := (oE (.int .u64 ((rotr x2 61).toNat : Int)) hG hdep 9)
           exact run_ux rfl ((oE (.int .u64 ((rotr x2 19).toNat : Int)) hG hdep 4)) ((oE (.int .u64 ((rotr x2 61).toNat : Int)) hG hdep 9))
          ·exact mvK hs fun _ => rfl
          ·refine step_pureO hs Wn rfl fun L u W hG hdep => ⟨_, ?_, rfl⟩
           have e0 := (oE (.int .i64 (t : Int)) hG hdep 11)
           go_simp
           try (rw [IntKind.wrap_i64]; omega)
          ·refine step_pureO hs Wn rfl fun L u W hG hdep => ⟨_, ?_, rfl⟩
           have e0 := E7.out
           have e1 := (oE (.int .i64 ((t - 2 : Nat) : Int)) hG hdep 12)
           have hltx := HLT.out
           go_simp
           try rw [if_pos (by omega)]
           try rw [show ((t - 2 : Nat) : Int).toNat = t - 2 by omega]
           try omega
          ·exact step_cell q7 (t - 2) hs Wn rfl rfl (fun _ h => load_u64 h) (fun L u W hG hdep => (oE (.pointer (some ⟨q7, t - 2, none⟩)) hG hdep 13)) (HasFs.cellW hmM7 (by have := HLT.out; omega) HX2.out) Na
          ·refine step_pureO hs Wn rfl fun L u W hG hdep => ⟨_, ?_, rfl⟩
           have e0 := (oE (.int .u64 ((x2).toNat : Int)) hG hdep 14)
           exact run_ush6 rfl rfl ((oE (.int .u64 ((x2).toNat : Int)) hG hdep 14))
          ·refine step_pureO hs Wn rfl fun L u W hG hdep => ⟨_, ?_, rfl⟩
           have e0 := (oE (.int .u64 ((ux (rotr x2 19) (rotr x2 61)).toNat : Int)) hG hdep 10)
           have e1 := (oE (.int .u64 ((ush x2 6).toNat : Int)) hG hdep 15)
           exact run_ux rfl ((oE (.int .u64 ((ux (rotr x2 19) (rotr x2 61)).toNat : Int)) hG hdep 10)) ((oE (.int .u64 ((ush x2 6).toNat : Int)) hG hdep 15))
          ·exact mvO 16 hs
         intro L19 u19z W19z hall hJ hG
         have hb := hJ.all rfl
         have hbel := Below.call hbel hb
         have hmM3 := hmM3.later hb
         have hmM4 := hmM4.later hb
         have hmM7 := hmM7.later hb
         have htM3 := there_later htM3 hb
         have htM4 := there_later htM4 hb
         have htM7 := there_later htM7 hb
         have HB := Lib.hid (HB.out.below' hb)
         have HC11 := oC (.int .u64 ((ux (ux (rotr x2 19) (rotr x2 61)) (ush x2 6)).toNat : Int)) hG 17
         have hbel0 := hbel
         clear hJ hG hall hb
         go_upto_region 20 with fail
         refine rgM [(105, 0), (0, 1), (0, 2), (0, 3), (0, 4), (0, 5), (0, 6), (0, 7), (0, 8), (0, 9), (0, 10), (0, 11), (0, 12), (0, 13), (0, 14)] [.oth (fun v => v = .int .i64 (t : Int)), .oth (fun v => v = .int .i64 (t : Int)), .oth (fun v => v = .int .i64 ((t - 16 : Nat) : Int)), .oth (fun v => v = .pointer (some ⟨q7, t - 16, none⟩)), .oth (fun v => v = .int .u64 ((x16).toNat : Int)), .oth (fun v => v = .int .u64 ((ux (ux (rotr x15 1) (rotr x15 8)) (ush x15 7)).toNat : Int)), .oth (fun v => v = .int .u64 ((up x16 (ux (ux (rotr x15 1) (rotr x15 8)) (ush x15 7))).toNat : Int)), .oth (fun v => v = .int .i64 (t : Int)), .oth (fun v => v = .int .i64 ((t - 7 : Nat) : Int)), .oth (fun v => v = .pointer (some ⟨q7, t - 7, none⟩)), .oth (fun v => v = .int .u64 ((x7).toNat : Int)), .oth (fun v => v = .int .u64 ((up (up x16 (ux (ux (rotr x15 1) (rotr x15 8)) (ush x15 7))) x7).toNat : Int)), .oth (fun v => v = .int .u64 ((ux (ux (rotr x2 19) (rotr x2 61)) (ush x2 6)).toNat : Int)), .oth (fun v => v = .int .u64 ((up (up (up x16 (ux (ux (rotr x15 1) (rotr x15 8)) (ush x15 7))) x7) (ux (ux (rotr x2 19) (rotr x2 61)) (ush x2 6))).toNat : Int)), .oth (fun v => v = .pointer (some ⟨q7, t, none⟩)), .cst q7 t (.int .u64 ((up (up (up x16 (ux (ux (rotr x15 1) (rotr x15 8)) (ush x15 7))) x7) (ux (ux (rotr x2 19) (rotr x2 61)) (ush x2 6))).toNat : Int))] ?_ ?_
         ·intro hs
          refine ⟨?_, ?_, ?_, ?_, ?_, ?_, ?_, ?_, ?_, ?_, ?_, ?_, ?_, ?_, ?_, ?_, trivial⟩
          ·exact mvK hs fun _ => rfl
          ·exact mvK hs fun _ => rfl
          ·refine step_pureO hs Wn rfl fun L u W hG hdep => ⟨_, ?_, rfl⟩
           have e0 := (oE (.int .i64 (t : Int)) hG hdep 1)
           go_simp
           try (rw [IntKind.wrap_i64]; omega)
          ·refine step_pureO hs Wn rfl fun L u W hG hdep => ⟨_, ?_, rfl⟩
           have e0 := E7.out
           have e1 := (oE (.int .i64 ((t - 16 : Nat) : Int)) hG hdep 2)
           have hltx := HLT.out
           go_simp
           try rw [if_pos (by omega)]
           try rw [show ((t - 16 : Nat) : Int).toNat = t - 16 by omega]
           try omega
          ·exact step_cell q7 (t - 16) hs Wn rfl rfl (fun _ h => load_u64 h) (fun L u W hG hdep => (oE (.pointer (some ⟨q7, t - 16, none⟩)) hG hdep 3)) (HasFs.cellW hmM7 (by have := HLT.out; omega) HX16.out) Na
          ·exact mvK hs fun _ => HC10.out
          ·refine step_pureO hs Wn rfl fun L u W hG hdep => ⟨_, ?_, rfl⟩
           have e0 := (oE (.int .u64 ((x16).toNat : Int)) hG hdep 4)
           have e1 := (oE (.int .u64 ((ux (ux (rotr x15 1) (rotr x15 8)) (ush x15 7)).toNat : Int)) hG hdep 5)
           exact run_up rfl ((oE (.int .u64 ((x16).toNat : Int)) hG hdep 4)) ((oE (.int .u64 ((ux (ux (rotr x15 1) (rotr x15 8)) (ush x15 7)).toNat : Int)) hG hdep 5))
          ·exact mvK hs fun _ => rfl
          ·refine step_pureO hs Wn rfl fun L u W hG hdep => ⟨_, ?_, rfl⟩
           have e0 := (oE (.int .i64 (t : Int)) hG hdep 7)
           go_simp
           try (rw [IntKind.wrap_i64]; omega)
          ·refine step_pureO hs Wn rfl fun L u W hG hdep => ⟨_, ?_, rfl⟩
           have e0 := E7.out
           have e1 := (oE (.int .i64 ((t - 7 : Nat) : Int)) hG hdep 8)
           have hltx := HLT.out
           go_simp
           try rw [if_pos (by omega)]
           try rw [show ((t - 7 : Nat) : Int).toNat = t - 7 by omega]
           try omega
          ·exact step_cell q7 (t - 7) hs Wn rfl rfl (fun _ h => load_u64 h) (fun L u W hG hdep => (oE (.pointer (some ⟨q7, t - 7, none⟩)) hG hdep 9)) (HasFs.cellW hmM7 (by have := HLT.out; omega) HX7.out) Na
          ·refine step_pureO hs Wn rfl fun L u W hG hdep => ⟨_, ?_, rfl⟩
           have e0 := (oE (.int .u64 ((up x16 (ux (ux (rotr x15 1) (rotr x15 8)) (ush x15 7))).toNat : Int)) hG hdep 6)
           have e1 := (oE (.int .u64 ((x7).toNat : Int)) hG hdep 10)
           exact run_up rfl ((oE (.int .u64 ((up x16 (ux (ux (rotr x15 1) (rotr x15 8)) (ush x15 7))).toNat : Int)) hG hdep 6)) ((oE (.int .u64 ((x7).toNat : Int)) hG hdep 10))
          ·exact mvK hs fun _ => HC11.out
          ·refine step_pureO hs Wn rfl fun L u W hG hdep => ⟨_, ?_, rfl⟩
           have e0 := (oE (.int .u64 ((up (up x16 (ux (ux (rotr x15 1) (rotr x15 8)) (ush x15 7))) x7).toNat : Int)) hG hdep 11)
           have e1 := (oE (.int .u64 ((ux (ux (rotr x2 19) (rotr x2 61)) (ush x2 6)).toNat : Int)) hG hdep 12)
           exact run_up rfl ((oE (.int .u64 ((up (up x16 (ux (ux (rotr x15 1) (rotr x15 8)) (ush x15 7))) x7).toNat : Int)) hG hdep 11)) ((oE (.int .u64 ((ux (ux (rotr x2 19) (rotr x2 61)) (ush x2 6)).toNat : Int)) hG hdep 12))
          ·refine step_pureO hs Wn rfl fun L u W hG hdep => ⟨_, ?_, rfl⟩
           have e0 := E7.out
           have e1 := (oE (.int .i64 (t : Int)) hG hdep 0)
           have hltx := HLT.out
           go_simp
           try rw [if_pos (by omega)]
           try rw [show ((t : Nat) : Int).toNat = t by omega]
           try omega
          ·refine step_cst (old := .int .u64 ((at0 (wP (words (P.drop AT)) t) t).toNat : Int)) q7 t hs Wn rfl rfl (by kernel_rfl) (fun k hk => ?_) (fun _ h1 h2 => store_u64 h1 h2) (fun L u W hG hdep => (oE (.pointer (some ⟨q7, t, none⟩)) hG hdep 14)) (fun L u W hG hdep => (oE (.int .u64 ((up (up (up x16 (ux (ux (rotr x15 1) (rotr x15 8)) (ush x15 7))) x7) (ux (ux (rotr x2 19) (rotr x2 61)) (ush x2 6))).toNat : Int)) hG hdep 13)) (HasFs.cellW hmM7 HLT.out rfl) (there_frozen htM7 HLT.out)
           rcases k with _ | _ | _ | _ | _ | _ | _ | _ | _ | _ | _ | _ | _ | _ | _ | _ | k
           all_goals first | (exact absurd rfl hk) | (intro e; cases e; done)
         intro L20 u20z W20z hall hJ hG
         have hb := hJ.beN hbel
         have hbel := hbel.trans hb
         have hmM3 := kC hmM3 hJ HD7_q3.out
         have hmM4 := kC hmM4 hJ HD7_q4.out
         have hmM7 : HasFs rW80 W20z q7 0 [wP (words (P.drop AT)) (t + 1)] := by
          have z := (hmM7.setW htM7 HLT.out (up (up (up x16 (ux (ux (rotr x15 1) (rotr x15 8)) (ush x15 7))) x7) (ux (ux (rotr x2 19) (rotr x2 61)) (ush x2 6)))).blk (show _ ∧ W20z.heap[q7]? = (W19z.setCell ⟨q7, t, none⟩ (.int .u64 ((up (up (up x16 (ux (ux (rotr x15 1) (rotr x15 8)) (ush x15 7))) x7) (ux (ux (rotr x2 19) (rotr x2 61)) (ush x2 6))).toNat : Int))).heap[q7]? from hG 15 (by simp)).2
          rw [(show (wP (words (P.drop AT)) t).set t (up (up (up x16 (ux (ux (rotr x15 1) (rotr x15 8)) (ush x15 7))) x7) (ux (ux (rotr x2 19) (rotr x2 61)) (ush x2 6))) = wP (words (P.drop AT)) (t + 1) from wP_set HLT.out HXS.out)] at z
          exact z
         have htM3 := tC htM3 hJ HD7_q3.out
         have htM4 := tC htM4 hJ HD7_q4.out
         have htM7 := there_blk (there_set (b := q7) (k := t) (v := .int .u64 ((up (up (up x16 (ux (ux (rotr x15 1) (rotr x15 8)) (ush x15 7))) x7) (ux (ux (rotr x2 19) (rotr x2 61)) (ush x2 6))).toNat : Int)) htM7) (show _ ∧ W20z.heap[q7]? = (W19z.setCell ⟨q7, t, none⟩ (.int .u64 ((up (up (up x16 (ux (ux (rotr x15 1) (rotr x15 8)) (ush x15 7))) x7) (ux (ux (rotr x2 19) (rotr x2 61)) (ush x2 6))).toNat : Int))).heap[q7]? from hG 15 (by simp)).2
         have HB := Lib.hid (blk_keep HB.out (hJ.block _ (HB.out.lt) (fun k hk => by rcases k with _ | _ | _ | _ | _ | _ | _ | _ | _ | _ | _ | _ | _ | _ | _ | _ | k <;> first | (cases hk; done) | (cases hk; exact absurd rfl (Ne.symm HD7_g5.out)))))
         have hbel0 := hbel
         clear hJ hG hall hb
         have hlt := HLT.out
         go_wp2_with fail
         go_roundw
         case rel => exact ⟨t + 1, by omega, by omega, by go_num, hmM3, htM3, hmM4, htM4, hmM7, htM7, HB.out, hbel⟩
         case measure => simp [intOf]; omega
        ·obtain rfl : t = 80 := by omega
         have hd1 : decide (((80 : Nat) : Int) < 80) = false := by decide
         rw [wP_full] at hmM7
         obtain ⟨Wd, hWd⟩ : ∃ Z, Z = wL (words (P.drop AT)) 80 := ⟨_, rfl⟩
         rw [← hWd] at hmM7
         obtain ⟨h, hh⟩ : ∃ Z, Z = hSt P i := ⟨_, rfl⟩
         rw [← hh] at hmM4
         have HWD := Lib.hid hWd; have HHS := Lib.hid hh
         clear hWd hh ht hge hlt
         go_upto_region 21 with fail
         clear hd1
         refine rgT [(12, 1), (107, 0)] [.val rW8 [h], .new 8, .st 1 rW8 [h]] ?_ ?_
         ·intro hs
          refine ⟨?_, ?_, ?_, trivial⟩
          ·exact step_load q4 0 hs Wn rfl rfl tya8 (fun _ => E4.out) hmM4.lt hmM4 Na
          ·exact step_alloc hs Wn rfl rfl (by omega) rfl alloca8
          ·exact step_store 1 hs (by kernel_rfl) Wn rfl rfl rfl (by kernel_rfl) (by kernel_rfl) (by kernel_rfl) (by kernel_rfl) (fun _ => rfl) (gO 0) tya8 rfl
         intro L21 u21z W21z hall hJ hG
         obtain ⟨q12, e12, hq12, _, ht12⟩ := oN 8 hG 1
         have hm12 := oS rW8 [h] hG 2 e12
         have HD12_q3 := Lib.hid (show q3 ≠ q12 by have := there_lt htM3 (by omega); omega)
         have HD12_q4 := Lib.hid (show q4 ≠ q12 by have := there_lt htM4 (by omega); omega)
         have HD12_q7 := Lib.hid (show q7 ≠ q12 by have := there_lt htM7 (by omega); omega)
         have HD12_g5 := Lib.hid (show g5 ≠ q12 by have := HB.out.lt; omega)
         have hq12 : w.heap.size ≤ q12 := by have := hbel0.size; omega
         have E12 := Lib.hid e12; clear e12
         have hb := hJ.all rfl
         have hbel := Below.call hbel hb
         have hmM3 := hmM3.later hb
         have hmM4 := hmM4.later hb
         have hmM7 := hmM7.later hb
         have htM3 := there_later htM3 hb
         have htM4 := there_later htM4 hb
         have htM7 := there_later htM7 hb
         have HB := Lib.hid (HB.out.below' hb)
         have hbel0 := hbel
         clear hJ hG hall hb
         go_wp2_with fail
         go_loopw [13] (fun sk wr => ∃ t : Nat, t ≤ 80 ∧ sk = .int .i64 (t : Int) ∧ HasFs rW80 wr q3 0 [kTab] ∧ wr.there q3 0 80 ∧ HasFs rW8 wr q4 0 [h] ∧ wr.there q4 0 8 ∧ HasFs rW80 wr q7 0 [Wd] ∧ wr.there q7 0 80 ∧ HasFs rW8 wr q12 0 [rL h Wd t] ∧ wr.there q12 0 8 ∧ Blk wr g5 (P.map bV ++ r5) 5 ∧ Below w.heap.size w wr) (fun x _ => 80 - (intOf x).toNat)
         case atStart => exact ⟨0, by omega, rfl, hmM3, htM3, hmM4, htM4, hmM7, htM7, hm12, ht12, HB.out, hbel⟩
         case round =>
          obtain ⟨t, ht, rfl, hmN3, htN3, hmN4, htN4, hmN7, htN7, hmN12, htN12, hB', hbel'⟩ := hrel
          clear hm12 hmM3 hmM4 hmM7 ht12 htM3 htM4 htM7 hbel hbel0 HB
          have hbel := hbel'
          have hbel0 := hbel'
          have HB := Lib.hid hB'
          clear hB'
          by_cases hlt : t < 80
          ·have hd1 : decide ((t : Int) < 80) = true := decide_eq_true (by omega)
           have HLT := Lib.hid hlt
           obtain ⟨V, hV⟩ : ∃ V, V = rL h Wd t := ⟨_, rfl⟩
           rw [← hV] at hmN12
           have HV := Lib.hid hV
           clear hV hlt
           go_upto_region 25 with fail
           clear hd1
           refine rgT [(14, 2), (110, 0), (0, 1)] [.oth (fun v => v = .pointer (some ⟨q12, 4, none⟩)), .oth (fun v => v = .int .u64 ((at0 V 4).toNat : Int)), .oth (fun v => v = .int .u64 ((at0 V 4).toNat : Int))] ?_ ?_
           ·intro hs
            refine ⟨?_, ?_, ?_, trivial⟩
            ·refine step_pureO hs Wn rfl fun L u W hG hdep => ⟨_, ?_, rfl⟩
             have e0 := E12.out
             go_simp
             try rw [if_pos (by omega)]
             try rw [show ((4 : Nat) : Int).toNat = 4 by omega]
             try omega
            ·exact step_cell q12 4 hs Wn rfl rfl (fun _ h => load_u64 h) (fun L u W hG hdep => (oE (.pointer (some ⟨q12, 4, none⟩)) hG hdep 0)) (HasFs.cellW hmN12 (by omega) rfl) Na
            ·exact mvO 1 hs
           intro L25 u25z W25z hall hJ hG
           have hb := hJ.all rfl
           have hbel := Below.call hbel hb
           have hmN3 := hmN3.later hb
           have hmN4 := hmN4.later hb
           have hmN7 := hmN7.later hb
           have hmN12 := hmN12.later hb
           have htN3 := there_later htN3 hb
           have htN4 := there_later htN4 hb
           have htN7 := there_later htN7 hb
           have htN12 := there_later htN12 hb
           have HB := Lib.hid (HB.out.below' hb)
           have HC14 := oC (.int .u64 ((at0 V 4).toNat : Int)) hG 2
           have hbel0 := hbel
           clear hJ hG hall hb
           go_upto_region 26 with fail
           refine rgT [(15, 2), (111, 0), (0, 1)] [.oth (fun v => v = .pointer (some ⟨q12, 0, none⟩)), .oth (fun v => v = .int .u64 ((at0 V 0).toNat : Int)), .oth (fun v => v = .int .u64 ((at0 V 0).toNat : Int))] ?_ ?_
           ·intro hs
            refine ⟨?_, ?_, ?_, trivial⟩
            ·refine step_pureO hs Wn rfl fun L u W hG hdep => ⟨_, ?_, rfl⟩
             have e0 := E12.out
             go_simp
             try rw [if_pos (by omega)]
             try rw [show ((0 : Nat) : Int).toNat = 0 by omega]
             try omega
            ·exact step_cell q12 0 hs Wn rfl rfl (fun _ h => load_u64 h) (fun L u W hG hdep => (oE (.pointer (some ⟨q12, 0, none⟩)) hG hdep 0)) (HasFs.cellW hmN12 (by omega) rfl) Na
            ·exact mvO 1 hs
           intro L26 u26z W26z hall hJ hG
           have hb := hJ.all rfl
           have hbel := Below.call hbel hb
           have hmN3 := hmN3.later hb
           have hmN4 := hmN4.later hb
           have hmN7 := hmN7.later hb
           have hmN12 := hmN12.later hb
           have htN3 := there_later htN3 hb
           have htN4 := there_later htN4 hb
           have htN7 := there_later htN7 hb
           have htN12 := there_later htN12 hb
           have HB := Lib.hid (HB.out.below' hb)
           have HC15 := oC (.int .u64 ((at0 V 0).toNat : Int)) hG 2
           have hbel0 := hbel
           clear hJ hG hall hb
           go_upto_region 27 with fail
           refine rgM [(16, 30), (112, 0), (0, 1), (0, 2), (0, 3), (0, 4), (0, 5), (0, 6), (0, 7), (0, 8), (0, 9), (0, 10), (0, 11), (0, 12), (0, 13), (0, 14), (0, 15), (0, 16), (0, 17), (0, 18), (0, 19), (0, 20), (0, 21), (0, 22), (0, 23), (0, 24), (0, 25), (0, 26), (0, 27), (0, 28), (0, 29)] [.oth (fun v => v = .pointer (some ⟨q12, 7, none⟩)), .oth (fun v => v = .int .u64 ((at0 V 7).toNat : Int)), .oth (fun v => v = .int .u64 ((at0 V 4).toNat : Int)), .oth (fun v => v = .int .u64 ((rotr (at0 V 4) 14).toNat : Int)), .oth (fun v => v = .int .u64 ((at0 V 4).toNat : Int)), .oth (fun v => v = .int .u64 ((rotr (at0 V 4) 18).toNat : Int)), .oth (fun v => v = .int .u64 ((ux (rotr (at0 V 4) 14) (rotr (at0 V 4) 18)).toNat : Int)), .oth (fun v => v = .int .u64 ((at0 V 4).toNat : Int)), .oth (fun v => v = .int .u64 ((rotr (at0 V 4) 41).toNat : Int)), .oth (fun v => v = .int .u64 ((ux (ux (rotr (at0 V 4) 14) (rotr (at0 V 4) 18)) (rotr (at0 V 4) 41)).toNat : Int)), .oth (fun v => v = .int .u64 ((up (at0 V 7) (ux (ux (rotr (at0 V 4) 14) (rotr (at0 V 4) 18)) (rotr (at0 V 4) 41))).toNat : Int)), .oth (fun v => v = .int .u64 ((at0 V 4).toNat : Int)), .oth (fun v => v = .pointer (some ⟨q12, 5, none⟩)), .oth (fun v => v = .int .u64 ((at0 V 5).toNat : Int)), .oth (fun v => v = .int .u64 ((ua (at0 V 4) (at0 V 5)).toNat : Int)), .oth (fun v => v = .int .u64 ((at0 V 4).toNat : Int)), .oth (fun v => v = .int .u64 ((un (at0 V 4)).toNat : Int)), .oth (fun v => v = .pointer (some ⟨q12, 6, none⟩)), .oth (fun v => v = .int .u64 ((at0 V 6).toNat : Int)), .oth (fun v => v = .int .u64 ((ua (un (at0 V 4)) (at0 V 6)).toNat : Int)), .oth (fun v => v = .int .u64 ((ux (ua (at0 V 4) (at0 V 5)) (ua (un (at0 V 4)) (at0 V 6))).toNat : Int)), .oth (fun v => v = .int .u64 ((up (up (at0 V 7) (ux (ux (rotr (at0 V 4) 14) (rotr (at0 V 4) 18)) (rotr (at0 V 4) 41))) (ux (ua (at0 V 4) (at0 V 5)) (ua (un (at0 V 4)) (at0 V 6)))).toNat : Int)), .oth (fun v => v = .int .i64 (t : Int)), .oth (fun v => v = .pointer (some ⟨q3, t, none⟩)), .oth (fun v => v = .int .u64 ((at0 kTab t).toNat : Int)), .oth (fun v => v = .int .u64 ((up (up (up (at0 V 7) (ux (ux (rotr (at0 V 4) 14) (rotr (at0 V 4) 18)) (rotr (at0 V 4) 41))) (ux (ua (at0 V 4) (at0 V 5)) (ua (un (at0 V 4)) (at0 V 6)))) (at0 kTab t)).toNat : Int)), .oth (fun v => v = .int .i64 (t : Int)), .oth (fun v => v = .pointer (some ⟨q7, t, none⟩)), .oth (fun v => v = .int .u64 ((at0 Wd t).toNat : Int)), .oth (fun v => v = .int .u64 ((up (up (up (up (at0 V 7) (ux (ux (rotr (at0 V 4) 14) (rotr (at0 V 4) 18)) (rotr (at0 V 4) 41))) (ux (ua (at0 V 4) (at0 V 5)) (ua (un (at0 V 4)) (at0 V 6)))) (at0 kTab t)) (at0 Wd t)).toNat : Int)), .oth (fun v => v = .int .u64 ((up (up (up (up (at0 V 7) (ux (ux (rotr (at0 V 4) 14) (rotr (at0 V 4) 18)) (rotr (at0 V 4) 41))) (ux (ua (at0 V 4) (at0 V 5)) (ua (un (at0 V 4)) (at0 V 6)))) (at0 kTab t)) (at0 Wd t)).toNat : Int))] ?_ ?_
           ·intro hs
            refine ⟨?_, ?_, ?_, ?_, ?_, ?_, ?_, ?_, ?_, ?_, ?_, ?_, ?_, ?_, ?_, ?_, ?_, ?_, ?_, ?_, ?_, ?_, ?_, ?_, ?_, ?_, ?_, ?_, ?_, ?_, ?_, trivial⟩
            ·refine step_pureO hs Wn rfl fun L u W hG hdep => ⟨_, ?_, rfl⟩
             have e0 := E12.out
             go_simp
             try rw [if_pos (by omega)]
             try rw [show ((7 : Nat) : Int).toNat = 7 by omega]
             try omega
            ·exact step_cell q12 7 hs Wn rfl rfl (fun _ h => load_u64 h) (fun L u W hG hdep => (oE (.pointer (some ⟨q12, 7, none⟩)) hG hdep 0)) (HasFs.cellW hmN12 (by omega) rfl) Na
            ·exact mvK hs fun _ => HC14.out
            ·refine step_callO hs Wn rfl fun L u W hJ hG hL hdep K hK => ?_
             have x0 := (oE (.int .u64 ((at0 V 4).toNat : Int)) hG hdep 2)
             go_simp
             go_at_call 76
             (with_reducible refine (rrot_14 (x := at0 V 4) _).mono ?_); rintro e w1 ⟨rfl, hb⟩
             have hk := hK.out _ _ rfl hb
             simp only [x0] at hk
             exact hk
            ·exact mvK hs fun _ => HC14.out
            ·refine step_callO hs Wn rfl fun L u W hJ hG hL hdep K hK => ?_
             have x0 := (oE (.int .u64 ((at0 V 4).toNat : Int)) hG hdep 4)
             go_simp
             go_at_call 76
             (with_reducible refine (rrot_18 (x := at0 V 4) _).mono ?_); rintro e w1 ⟨rfl, hb⟩
             have hk := hK.out _ _ rfl hb
             simp only [x0] at hk
             exact hk
            ·refine step_pureO hs Wn rfl fun L u W hG hdep => ⟨_, ?_, rfl⟩
             have e0 := (oE (.int .u64 ((rotr (at0 V 4) 14).toNat : Int)) hG hdep 3)
             have e1 := (oE (.int .u64 ((rotr (at0 V 4) 18).toNat : Int)) hG hdep 5)
             exact run_ux rfl ((oE (.int .u64 ((rotr (at0 V 4) 14).toNat : Int)) hG hdep 3)) ((oE (.int .u64 ((rotr (at0 V 4) 18).toNat : Int)) hG hdep 5))
            ·exact mvK hs fun _ => HC14.out
            ·refine step_callO hs Wn rfl fun L u W hJ hG hL hdep K hK => ?_
             have x0 := (oE (.int .u64 ((at0 V 4).toNat : Int)) hG hdep 7)
             go_simp
             go_at_call 76
             (with_reducible refine (rrot_41 (x := at0 V 4) _).mono ?_); rintro e w1 ⟨rfl, hb⟩
             have hk := hK.out _ _ rfl hb
             simp only [x0] at hk
             exact hk
            ·refine step_pureO hs Wn rfl fun L u W hG hdep => ⟨_, ?_, rfl⟩
             have e0 := (oE (.int .u64 ((ux (rotr (at0 V 4) 14) (rotr (at0 V 4) 18)).toNat : Int)) hG hdep 6)
             have e1 := (oE (.int .u64 ((rotr (at0 V 4) 41).toNat : Int)) hG hdep 8)
             exact run_ux rfl ((oE (.int .u64 ((ux (rotr (at0 V 4) 14) (rotr (at0 V 4) 18)).toNat : Int)) hG hdep 6)) ((oE (.int .u64 ((rotr (at0 V 4) 41).toNat : Int)) hG hdep 8))
            ·refine step_pureO hs Wn rfl fun L u W hG hdep => ⟨_, ?_, rfl⟩
             have e0 := (oE (.int .u64 ((at0 V 7).toNat : Int)) hG hdep 1)
             have e1 := (oE (.int .u64 ((ux (ux (rotr (at0 V 4) 14) (rotr (at0 V 4) 18)) (rotr (at0 V 4) 41)).toNat : Int)) hG hdep 9)
             exact run_up rfl ((oE (.int .u64 ((at0 V 7).toNat : Int)) hG hdep 1)) ((oE (.int .u64 ((ux (ux (rotr (at0 V 4) 14) (rotr (at0 V 4) 18)) (rotr (at0 V 4) 41)).toNat : Int)) hG hdep 9))
            ·exact mvK hs fun _ => HC14.out
            ·refine step_pureO hs Wn rfl fun L u W hG hdep => ⟨_, ?_, rfl⟩
             have e0 := E12.out
             go_simp
             try rw [if_pos (by omega)]
             try rw [show ((5 : Nat) : Int).toNat = 5 by omega]
             try omega
            ·exact step_cell q12 5 hs Wn rfl rfl (fun _ h => load_u64 h) (fun L u W hG hdep => (oE (.pointer (some ⟨q12, 5, none⟩)) hG hdep 12)) (HasFs.cellW hmN12 (by omega) rfl) Na
            ·refine step_pureO hs Wn rfl fun L u W hG hdep => ⟨_, ?_, rfl⟩
             have e0 := (oE (.int .u64 ((at0 V 4).toNat : Int)) hG hdep 11)
             have e1 := (oE (.int .u64 ((at0 V 5).toNat : Int)) hG hdep 13)
             exact run_ua rfl ((oE (.int .u64 ((at0 V 4).toNat : Int)) hG hdep 11)) ((oE (.int .u64 ((at0 V 5).toNat : Int)) hG hdep 13))
            ·exact mvK hs fun _ => HC14.out
            ·refine step_pureO hs Wn rfl fun L u W hG hdep => ⟨_, ?_, rfl⟩
             exact run_un rfl ((oE (.int .u64 ((at0 V 4).toNat : Int)) hG hdep 15))
            ·refine step_pureO hs Wn rfl fun L u W hG hdep => ⟨_, ?_, rfl⟩
             have e0 := E12.out
             go_simp
             try rw [if_pos (by omega)]
             try rw [show ((6 : Nat) : Int).toNat = 6 by omega]
             try omega
            ·exact step_cell q12 6 hs Wn rfl rfl (fun _ h => load_u64 h) (fun L u W hG hdep => (oE (.pointer (some ⟨q12, 6, none⟩)) hG hdep 17)) (HasFs.cellW hmN12 (by omega) rfl) Na
            ·refine step_pureO hs Wn rfl fun L u W hG hdep => ⟨_, ?_, rfl⟩
             have e0 := (oE (.int .u64 ((un (at0 V 4)).toNat : Int)) hG hdep 16)
             have e1 := (oE (.int .u64 ((at0 V 6).toNat : Int)) hG hdep 18)
             exact run_ua rfl ((oE (.int .u64 ((un (at0 V 4)).toNat : Int)) hG hdep 16)) ((oE (.int .u64 ((at0 V 6).toNat : Int)) hG hdep 18))
            ·refine step_pureO hs Wn rfl fun L u W hG hdep => ⟨_, ?_, rfl⟩
             have e0 := (oE (.int .u64 ((ua (at0 V 4) (at0 V 5)).toNat : Int)) hG hdep 14)
             have e1 := (oE (.int .u64 ((ua (un (at0 V 4)) (at0 V 6)).toNat : Int)) hG hdep 19)
             exact run_ux rfl ((oE (.int .u64 ((ua (at0 V 4) (at0 V 5)).toNat : Int)) hG hdep 14)) ((oE (.int .u64 ((ua (un (at0 V 4)) (at0 V 6)).toNat : Int)) hG hdep 19))
            ·refine step_pureO hs Wn rfl fun L u W hG hdep => ⟨_, ?_, rfl⟩
             have e0 := (oE (.int .u64 ((up (at0 V 7) (ux (ux (rotr (at0 V 4) 14) (rotr (at0 V 4) 18)) (rotr (at0 V 4) 41))).toNat : Int)) hG hdep 10)
             have e1 := (oE (.int .u64 ((ux (ua (at0 V 4) (at0 V 5)) (ua (un (at0 V 4)) (at0 V 6))).toNat : Int)) hG hdep 20)
             exact run_up rfl ((oE (.int .u64 ((up (at0 V 7) (ux (ux (rotr (at0 V 4) 14) (rotr (at0 V 4) 18)) (rotr (at0 V 4) 41))).toNat : Int)) hG hdep 10)) ((oE (.int .u64 ((ux (ua (at0 V 4) (at0 V 5)) (ua (un (at0 V 4)) (at0 V 6))).toNat : Int)) hG hdep 20))
            ·exact mvK hs fun _ => rfl
            ·refine step_pureO hs Wn rfl fun L u W hG hdep => ⟨_, ?_, rfl⟩
             have e0 := E3.out
             have e1 := (oE (.int .i64 (t : Int)) hG hdep 22)
             have hltx := HLT.out
             go_simp
             try rw [if_pos (by omega)]
             try rw [show ((t : Nat) : Int).toNat = t by omega]
             try omega
            ·exact step_cell q3 t hs Wn rfl rfl (fun _ h => load_u64 h) (fun L u W hG hdep => (oE (.pointer (some ⟨q3, t, none⟩)) hG hdep 23)) (HasFs.cellW hmN3 HLT.out rfl) Na
            ·refine step_pureO hs Wn rfl fun L u W hG hdep => ⟨_, ?_, rfl⟩
             have e0 := (oE (.int .u64 ((up (up (at0 V 7) (ux (ux (rotr (at0 V 4) 14) (rotr (at0 V 4) 18)) (rotr (at0 V 4) 41))) (ux (ua (at0 V 4) (at0 V 5)) (ua (un (at0 V 4)) (at0 V 6)))).toNat : Int)) hG hdep 21)
             have e1 := (oE (.int .u64 ((at0 kTab t).toNat : Int)) hG hdep 24)
             exact run_up rfl ((oE (.int .u64 ((up (up (at0 V 7) (ux (ux (rotr (at0 V 4) 14) (rotr (at0 V 4) 18)) (rotr (at0 V 4) 41))) (ux (ua (at0 V 4) (at0 V 5)) (ua (un (at0 V 4)) (at0 V 6)))).toNat : Int)) hG hdep 21)) ((oE (.int .u64 ((at0 kTab t).toNat : Int)) hG hdep 24))
            ·exact mvK hs fun _ => rfl
            ·refine step_pureO hs Wn rfl fun L u W hG hdep => ⟨_, ?_, rfl⟩
             have e0 := E7.out
             have e1 := (oE (.int .i64 (t : Int)) hG hdep 26)
             have hltx := HLT.out
             go_simp
             try rw [if_pos (by omega)]
             try rw [show ((t : Nat) : Int).toNat = t by omega]
             try omega
            ·exact step_cell q7 t hs Wn rfl rfl (fun _ h => load_u64 h) (fun L u W hG hdep => (oE (.pointer (some ⟨q7, t, none⟩)) hG hdep 27)) (HasFs.cellW hmN7 HLT.out rfl) Na
            ·refine step_pureO hs Wn rfl fun L u W hG hdep => ⟨_, ?_, rfl⟩
             have e0 := (oE (.int .u64 ((up (up (up (at0 V 7) (ux (ux (rotr (at0 V 4) 14) (rotr (at0 V 4) 18)) (rotr (at0 V 4) 41))) (ux (ua (at0 V 4) (at0 V 5)) (ua (un (at0 V 4)) (at0 V 6)))) (at0 kTab t)).toNat : Int)) hG hdep 25)
             have e1 := (oE (.int .u64 ((at0 Wd t).toNat : Int)) hG hdep 28)
             exact run_up rfl ((oE (.int .u64 ((up (up (up (at0 V 7) (ux (ux (rotr (at0 V 4) 14) (rotr (at0 V 4) 18)) (rotr (at0 V 4) 41))) (ux (ua (at0 V 4) (at0 V 5)) (ua (un (at0 V 4)) (at0 V 6)))) (at0 kTab t)).toNat : Int)) hG hdep 25)) ((oE (.int .u64 ((at0 Wd t).toNat : Int)) hG hdep 28))
            ·exact mvO 29 hs
           intro L27 u27z W27z hall hJ hG
           have hb := hJ.all rfl
           have hbel := Below.call hbel hb
           have hmN3 := hmN3.later hb
           have hmN4 := hmN4.later hb
           have hmN7 := hmN7.later hb
           have hmN12 := hmN12.later hb
           have htN3 := there_later htN3 hb
           have htN4 := there_later htN4 hb
           have htN7 := there_later htN7 hb
           have htN12 := there_later htN12 hb
           have HB := Lib.hid (HB.out.below' hb)
           have HC16 := oC (.int .u64 ((up (up (up (up (at0 V 7) (ux (ux (rotr (at0 V 4) 14) (rotr (at0 V 4) 18)) (rotr (at0 V 4) 41))) (ux (ua (at0 V 4) (at0 V 5)) (ua (un (at0 V 4)) (at0 V 6)))) (at0 kTab t)) (at0 Wd t)).toNat : Int)) hG 30
           have hbel0 := hbel
           clear hJ hG hall hb
           go_upto_region 28 with fail
           refine rgM [(17, 24), (141, 0), (0, 1), (0, 2), (0, 3), (0, 4), (0, 5), (0, 6), (0, 7), (0, 8), (0, 9), (0, 10), (0, 11), (0, 12), (0, 13), (0, 14), (0, 15), (0, 16), (0, 17), (0, 18), (0, 19), (0, 20), (0, 21), (0, 22), (0, 23)] [.oth (fun v => v = .int .u64 ((at0 V 0).toNat : Int)), .oth (fun v => v = .int .u64 ((rotr (at0 V 0) 28).toNat : Int)), .oth (fun v => v = .int .u64 ((at0 V 0).toNat : Int)), .oth (fun v => v = .int .u64 ((rotr (at0 V 0) 34).toNat : Int)), .oth (fun v => v = .int .u64 ((ux (rotr (at0 V 0) 28) (rotr (at0 V 0) 34)).toNat : Int)), .oth (fun v => v = .int .u64 ((at0 V 0).toNat : Int)), .oth (fun v => v = .int .u64 ((rotr (at0 V 0) 39).toNat : Int)), .oth (fun v => v = .int .u64 ((ux (ux (rotr (at0 V 0) 28) (rotr (at0 V 0) 34)) (rotr (at0 V 0) 39)).toNat : Int)), .oth (fun v => v = .int .u64 ((at0 V 0).toNat : Int)), .oth (fun v => v = .pointer (some ⟨q12, 1, none⟩)), .oth (fun v => v = .int .u64 ((at0 V 1).toNat : Int)), .oth (fun v => v = .int .u64 ((ua (at0 V 0) (at0 V 1)).toNat : Int)), .oth (fun v => v = .int .u64 ((at0 V 0).toNat : Int)), .oth (fun v => v = .pointer (some ⟨q12, 2, none⟩)), .oth (fun v => v = .int .u64 ((at0 V 2).toNat : Int)), .oth (fun v => v = .int .u64 ((ua (at0 V 0) (at0 V 2)).toNat : Int)), .oth (fun v => v = .int .u64 ((ux (ua (at0 V 0) (at0 V 1)) (ua (at0 V 0) (at0 V 2))).toNat : Int)), .oth (fun v => v = .pointer (some ⟨q12, 1, none⟩)), .oth (fun v => v = .int .u64 ((at0 V 1).toNat : Int)), .oth (fun v => v = .pointer (some ⟨q12, 2, none⟩)), .oth (fun v => v = .int .u64 ((at0 V 2).toNat : Int)), .oth (fun v => v = .int .u64 ((ua (at0 V 1) (at0 V 2)).toNat : Int)), .oth (fun v => v = .int .u64 ((ux (ux (ua (at0 V 0) (at0 V 1)) (ua (at0 V 0) (at0 V 2))) (ua (at0 V 1) (at0 V 2))).toNat : Int)), .oth (fun v => v = .int .u64 ((up (ux (ux (rotr (at0 V 0) 28) (rotr (at0 V 0) 34)) (rotr (at0 V 0) 39)) (ux (ux (ua (at0 V 0) (at0 V 1)) (ua (at0 V 0) (at0 V 2))) (ua (at0 V 1) (at0 V 2)))).toNat : Int)), .oth (fun v => v = .int .u64 ((up (ux (ux (rotr (at0 V 0) 28) (rotr (at0 V 0) 34)) (rotr (at0 V 0) 39)) (ux (ux (ua (at0 V 0) (at0 V 1)) (ua (at0 V 0) (at0 V 2))) (ua (at0 V 1) (at0 V 2)))).toNat : Int))] ?_ ?_
           ·intro hs
            refine ⟨?_, ?_, ?_, ?_, ?_, ?_, ?_, ?_, ?_, ?_, ?_, ?_, ?_, ?_, ?_, ?_, ?_, ?_, ?_, ?_, ?_, ?_, ?_, ?_, ?_, trivial⟩
            ·exact mvK hs fun _ => HC15.out
            ·refine step_callO hs Wn rfl fun L u W hJ hG hL hdep K hK => ?_
             have x0 := (oE (.int .u64 ((at0 V 0).toNat : Int)) hG hdep 0)
             go_simp
             go_at_call 76
             (with_reducible refine (rrot_28 (x := at0 V 0) _).mono ?_); rintro e w1 ⟨rfl, hb⟩
             have hk := hK.out _ _ rfl hb
             simp only [x0] at hk
             exact hk
            ·exact mvK hs fun _ => HC15.out
            ·refine step_callO hs Wn rfl fun L u W hJ hG hL hdep K hK => ?_
             have x0 := (oE (.int .u64 ((at0 V 0).toNat : Int)) hG hdep 2)
             go_simp
             go_at_call 76
             (with_reducible refine (rrot_34 (x := at0 V 0) _).mono ?_); rintro e w1 ⟨rfl, hb⟩
             have hk := hK.out _ _ rfl hb
             simp only [x0] at hk
             exact hk
            ·refine step_pureO hs Wn rfl fun L u W hG hdep => ⟨_, ?_, rfl⟩
             have e0 := (oE (.int .u64 ((rotr (at0 V 0) 28).toNat : Int)) hG hdep 1)
             have e1 := (oE (.int .u64 ((rotr (at0 V 0) 34).toNat : Int)) hG hdep 3)
             exact run_ux rfl ((oE (.int .u64 ((rotr (at0 V 0) 28).toNat : Int)) hG hdep 1)) ((oE (.int .u64 ((rotr (at0 V 0) 34).toNat : Int)) hG hdep 3))
            ·exact mvK hs fun _ => HC15.out
            ·refine step_callO hs Wn rfl fun L u W hJ hG hL hdep K hK => ?_
             have x0 := (oE (.int .u64 ((at0 V 0).toNat : Int)) hG hdep 5)
             go_simp
             go_at_call 76
             (with_reducible refine (rrot_39 (x := at0 V 0) _).mono ?_); rintro e w1 ⟨rfl, hb⟩
             have hk := hK.out _ _ rfl hb
             simp only [x0] at hk
             exact hk
            ·refine step_pureO hs Wn rfl fun L u W hG hdep => ⟨_, ?_, rfl⟩
             have e0 := (oE (.int .u64 ((ux (rotr (at0 V 0) 28) (rotr (at0 V 0) 34)).toNat : Int)) hG hdep 4)
             have e1 := (oE (.int .u64 ((rotr (at0 V 0) 39).toNat : Int)) hG hdep 6)
             exact run_ux rfl ((oE (.int .u64 ((ux (rotr (at0 V 0) 28) (rotr (at0 V 0) 34)).toNat : Int)) hG hdep 4)) ((oE (.int .u64 ((rotr (at0 V 0) 39).toNat : Int)) hG hdep 6))
            ·exact mvK hs fun _ => HC15.out
            ·refine step_pureO hs Wn rfl fun L u W hG hdep => ⟨_, ?_, rfl⟩
             have e0 := E12.out
             go_simp
             try rw [if_pos (by omega)]
             try rw [show ((1 : Nat) : Int).toNat = 1 by omega]
             try omega
            ·exact step_cell q12 1 hs Wn rfl rfl (fun _ h => load_u64 h) (fun L u W hG hdep => (oE (.pointer (some ⟨q12, 1, none⟩)) hG hdep 9)) (HasFs.cellW hmN12 (by omega) rfl) Na
            ·refine step_pureO hs Wn rfl fun L u W hG hdep => ⟨_, ?_, rfl⟩
             have e0 := (oE (.int .u64 ((at0 V 0).toNat : Int)) hG hdep 8)
             have e1 := (oE (.int .u64 ((at0 V 1).toNat : Int)) hG hdep 10)
             exact run_ua rfl ((oE (.int .u64 ((at0 V 0).toNat : Int)) hG hdep 8)) ((oE (.int .u64 ((at0 V 1).toNat : Int)) hG hdep 10))
            ·exact mvK hs fun _ => HC15.out
            ·refine step_pureO hs Wn rfl fun L u W hG hdep => ⟨_, ?_, rfl⟩
             have e0 := E12.out
             go_simp
             try rw [if_pos (by omega)]
             try rw [show ((2 : Nat) : Int).toNat = 2 by omega]
             try omega
            ·exact step_cell q12 2 hs Wn rfl rfl (fun _ h => load_u64 h) (fun L u W hG hdep => (oE (.pointer (some ⟨q12, 2, none⟩)) hG hdep 13)) (HasFs.cellW hmN12 (by omega) rfl) Na
            ·refine step_pureO hs Wn rfl fun L u W hG hdep => ⟨_, ?_, rfl⟩
             have e0 := (oE (.int .u64 ((at0 V 0).toNat : Int)) hG hdep 12)
             have e1 := (oE (.int .u64 ((at0 V 2).toNat : Int)) hG hdep 14)
             exact run_ua rfl ((oE (.int .u64 ((at0 V 0).toNat : Int)) hG hdep 12)) ((oE (.int .u64 ((at0 V 2).toNat : Int)) hG hdep 14))
            ·refine step_pureO hs Wn rfl fun L u W hG hdep => ⟨_, ?_, rfl⟩
             have e0 := (oE (.int .u64 ((ua (at0 V 0) (at0 V 1)).toNat : Int)) hG hdep 11)
             have e1 := (oE (.int .u64 ((ua (at0 V 0) (at0 V 2)).toNat : Int)) hG hdep 15)
             exact run_ux rfl ((oE (.int .u64 ((ua (at0 V 0) (at0 V 1)).toNat : Int)) hG hdep 11)) ((oE (.int .u64 ((ua (at0 V 0) (at0 V 2)).toNat : Int)) hG hdep 15))
            ·refine step_pureO hs Wn rfl fun L u W hG hdep => ⟨_, ?_, rfl⟩
             have e0 := E12.out
             go_simp
             try rw [if_pos (by omega)]
             try rw [show ((1 : Nat) : Int).toNat = 1 by omega]
             try omega
            ·exact step_cell q12 1 hs Wn rfl rfl (fun _ h => load_u64 h) (fun L u W hG hdep => (oE (.pointer (some ⟨q12, 1, none⟩)) hG hdep 17)) (HasFs.cellW hmN12 (by omega) rfl) Na
            ·refine step_pureO hs Wn rfl fun L u W hG hdep => ⟨_, ?_, rfl⟩
             have e0 := E12.out
             go_simp
             try rw [if_pos (by omega)]
             try rw [show ((2 : Nat) : Int).toNat = 2 by omega]
             try omega
            ·exact step_cell q12 2 hs Wn rfl rfl (fun _ h => load_u64 h) (fun L u W hG hdep => (oE (.pointer (some ⟨q12, 2, none⟩)) hG hdep 19)) (HasFs.cellW hmN12 (by omega) rfl) Na
            ·refine step_pureO hs Wn rfl fun L u W hG hdep => ⟨_, ?_, rfl⟩
             have e0 := (oE (.int .u64 ((at0 V 1).toNat : Int)) hG hdep 18)
             have e1 := (oE (.int .u64 ((at0 V 2).toNat : Int)) hG hdep 20)
             exact run_ua rfl ((oE (.int .u64 ((at0 V 1).toNat : Int)) hG hdep 18)) ((oE (.int .u64 ((at0 V 2).toNat : Int)) hG hdep 20))
            ·refine step_pureO hs Wn rfl fun L u W hG hdep => ⟨_, ?_, rfl⟩
             have e0 := (oE (.int .u64 ((ux (ua (at0 V 0) (at0 V 1)) (ua (at0 V 0) (at0 V 2))).toNat : Int)) hG hdep 16)
             have e1 := (oE (.int .u64 ((ua (at0 V 1) (at0 V 2)).toNat : Int)) hG hdep 21)
             exact run_ux rfl ((oE (.int .u64 ((ux (ua (at0 V 0) (at0 V 1)) (ua (at0 V 0) (at0 V 2))).toNat : Int)) hG hdep 16)) ((oE (.int .u64 ((ua (at0 V 1) (at0 V 2)).toNat : Int)) hG hdep 21))
            ·refine step_pureO hs Wn rfl fun L u W hG hdep => ⟨_, ?_, rfl⟩
             have e0 := (oE (.int .u64 ((ux (ux (rotr (at0 V 0) 28) (rotr (at0 V 0) 34)) (rotr (at0 V 0) 39)).toNat : Int)) hG hdep 7)
             have e1 := (oE (.int .u64 ((ux (ux (ua (at0 V 0) (at0 V 1)) (ua (at0 V 0) (at0 V 2))) (ua (at0 V 1) (at0 V 2))).toNat : Int)) hG hdep 22)
             exact run_up rfl ((oE (.int .u64 ((ux (ux (rotr (at0 V 0) 28) (rotr (at0 V 0) 34)) (rotr (at0 V 0) 39)).toNat : Int)) hG hdep 7)) ((oE (.int .u64 ((ux (ux (ua (at0 V 0) (at0 V 1)) (ua (at0 V 0) (at0 V 2))) (ua (at0 V 1) (at0 V 2))).toNat : Int)) hG hdep 22))
            ·exact mvO 23 hs
           intro L28 u28z W28z hall hJ hG
           have hb := hJ.all rfl
           have hbel := Below.call hbel hb
           have hmN3 := hmN3.later hb
           have hmN4 := hmN4.later hb
           have hmN7 := hmN7.later hb
           have hmN12 := hmN12.later hb
           have htN3 := there_later htN3 hb
           have htN4 := there_later htN4 hb
           have htN7 := there_later htN7 hb
           have htN12 := there_later htN12 hb
           have HB := Lib.hid (HB.out.below' hb)
           have HC17 := oC (.int .u64 ((up (ux (ux (rotr (at0 V 0) 28) (rotr (at0 V 0) 34)) (rotr (at0 V 0) 39)) (ux (ux (ua (at0 V 0) (at0 V 1)) (ua (at0 V 0) (at0 V 2))) (ua (at0 V 1) (at0 V 2)))).toNat : Int)) hG 24
           have hbel0 := hbel
           clear hJ hG hall hb
           go_upto_region 29 with fail
           have HNV : Hid ([up (up (up (up (up (at0 V 7) (ux (ux (rotr (at0 V 4) 14) (rotr (at0 V 4) 18)) (rotr (at0 V 4) 41))) (ux (ua (at0 V 4) (at0 V 5)) (ua (un (at0 V 4)) (at0 V 6)))) (at0 kTab t)) (at0 Wd t)) (up (ux (ux (rotr (at0 V 0) 28) (rotr (at0 V 0) 34)) (rotr (at0 V 0) 39)) (ux (ux (ua (at0 V 0) (at0 V 1)) (ua (at0 V 0) (at0 V 2))) (ua (at0 V 1) (at0 V 2)))), at0 V 0, at0 V 1, at0 V 2, up (at0 V 3) (up (up (up (up (at0 V 7) (ux (ux (rotr (at0 V 4) 14) (rotr (at0 V 4) 18)) (rotr (at0 V 4) 41))) (ux (ua (at0 V 4) (at0 V 5)) (ua (un (at0 V 4)) (at0 V 6)))) (at0 kTab t)) (at0 Wd t)), at0 V 4, at0 V 5, at0 V 6] = rL h Wd (t + 1)) := Lib.hid (by rw [rL, ← HV.out]; rfl)
           refine rgT [(183, 0), (0, 1), (0, 2), (0, 3), (0, 4), (0, 5), (0, 6), (0, 7), (0, 8), (0, 9), (0, 10), (0, 11), (0, 12), (0, 13), (0, 14), (0, 15), (0, 16), (0, 17), (0, 18), (0, 19)] [.oth (fun v => v = .int .u64 ((up (up (up (up (at0 V 7) (ux (ux (rotr (at0 V 4) 14) (rotr (at0 V 4) 18)) (rotr (at0 V 4) 41))) (ux (ua (at0 V 4) (at0 V 5)) (ua (un (at0 V 4)) (at0 V 6)))) (at0 kTab t)) (at0 Wd t)).toNat : Int)), .oth (fun v => v = .int .u64 ((up (ux (ux (rotr (at0 V 0) 28) (rotr (at0 V 0) 34)) (rotr (at0 V 0) 39)) (ux (ux (ua (at0 V 0) (at0 V 1)) (ua (at0 V 0) (at0 V 2))) (ua (at0 V 1) (at0 V 2)))).toNat : Int)), .oth (fun v => v = .int .u64 ((up (up (up (up (up (at0 V 7) (ux (ux (rotr (at0 V 4) 14) (rotr (at0 V 4) 18)) (rotr (at0 V 4) 41))) (ux (ua (at0 V 4) (at0 V 5)) (ua (un (at0 V 4)) (at0 V 6)))) (at0 kTab t)) (at0 Wd t)) (up (ux (ux (rotr (at0 V 0) 28) (rotr (at0 V 0) 34)) (rotr (at0 V 0) 39)) (ux (ux (ua (at0 V 0) (at0 V 1)) (ua (at0 V 0) (at0 V 2))) (ua (at0 V 1) (at0 V 2))))).toNat : Int)), .oth (fun v => v = .pointer (some ⟨q12, 0, none⟩)), .oth (fun v => v = .int .u64 ((at0 V 0).toNat : Int)), .oth (fun v => v = .pointer (some ⟨q12, 1, none⟩)), .oth (fun v => v = .int .u64 ((at0 V 1).toNat : Int)), .oth (fun v => v = .pointer (some ⟨q12, 2, none⟩)), .oth (fun v => v = .int .u64 ((at0 V 2).toNat : Int)), .oth (fun v => v = .pointer (some ⟨q12, 3, none⟩)), .oth (fun v => v = .int .u64 ((at0 V 3).toNat : Int)), .oth (fun v => v = .int .u64 ((up (up (up (up (at0 V 7) (ux (ux (rotr (at0 V 4) 14) (rotr (at0 V 4) 18)) (rotr (at0 V 4) 41))) (ux (ua (at0 V 4) (at0 V 5)) (ua (un (at0 V 4)) (at0 V 6)))) (at0 kTab t)) (at0 Wd t)).toNat : Int)), .oth (fun v => v = .int .u64 ((up (at0 V 3) (up (up (up (up (at0 V 7) (ux (ux (rotr (at0 V 4) 14) (rotr (at0 V 4) 18)) (rotr (at0 V 4) 41))) (ux (ua (at0 V 4) (at0 V 5)) (ua (un (at0 V 4)) (at0 V 6)))) (at0 kTab t)) (at0 Wd t))).toNat : Int)), .oth (fun v => v = .pointer (some ⟨q12, 4, none⟩)), .oth (fun v => v = .int .u64 ((at0 V 4).toNat : Int)), .oth (fun v => v = .pointer (some ⟨q12, 5, none⟩)), .oth (fun v => v = .int .u64 ((at0 V 5).toNat : Int)), .oth (fun v => v = .pointer (some ⟨q12, 6, none⟩)), .oth (fun v => v = .int .u64 ((at0 V 6).toNat : Int)), .val rW8 [rL h Wd (t + 1)], .sto q12 rW8 [rL h Wd (t + 1)]] ?_ ?_
           ·intro hs
            refine ⟨?_, ?_, ?_, ?_, ?_, ?_, ?_, ?_, ?_, ?_, ?_, ?_, ?_, ?_, ?_, ?_, ?_, ?_, ?_, ?_, ?_, trivial⟩
            ·exact mvK hs fun _ => HC16.out
            ·exact mvK hs fun _ => HC17.out
            ·refine step_pureO hs Wn rfl fun L u W hG hdep => ⟨_, ?_, rfl⟩
             have e0 := (oE (.int .u64 ((up (up (up (up (at0 V 7) (ux (ux (rotr (at0 V 4) 14) (rotr (at0 V 4) 18)) (rotr (at0 V 4) 41))) (ux (ua (at0 V 4) (at0 V 5)) (ua (un (at0 V 4)) (at0 V 6)))) (at0 kTab t)) (at0 Wd t)).toNat : Int)) hG hdep 0)
             have e1 := (oE (.int .u64 ((up (ux (ux (rotr (at0 V 0) 28) (rotr (at0 V 0) 34)) (rotr (at0 V 0) 39)) (ux (ux (ua (at0 V 0) (at0 V 1)) (ua (at0 V 0) (at0 V 2))) (ua (at0 V 1) (at0 V 2)))).toNat : Int)) hG hdep 1)
             exact run_up rfl ((oE (.int .u64 ((up (up (up (up (at0 V 7) (ux (ux (rotr (at0 V 4) 14) (rotr (at0 V 4) 18)) (rotr (at0 V 4) 41))) (ux (ua (at0 V 4) (at0 V 5)) (ua (un (at0 V 4)) (at0 V 6)))) (at0 kTab t)) (at0 Wd t)).toNat : Int)) hG hdep 0)) ((oE (.int .u64 ((up (ux (ux (rotr (at0 V 0) 28) (rotr (at0 V 0) 34)) (rotr (at0 V 0) 39)) (ux (ux (ua (at0 V 0) (at0 V 1)) (ua (at0 V 0) (at0 V 2))) (ua (at0 V 1) (at0 V 2)))).toNat : Int)) hG hdep 1))
            ·refine step_pureO hs Wn rfl fun L u W hG hdep => ⟨_, ?_, rfl⟩
             have e0 := E12.out
             go_simp
             try rw [if_pos (by omega)]
             try rw [show ((0 : Nat) : Int).toNat = 0 by omega]
             try omega
            ·exact step_cell q12 0 hs Wn rfl rfl (fun _ h => load_u64 h) (fun L u W hG hdep => (oE (.pointer (some ⟨q12, 0, none⟩)) hG hdep 3)) (HasFs.cellW hmN12 (by omega) rfl) Na
            ·refine step_pureO hs Wn rfl fun L u W hG hdep => ⟨_, ?_, rfl⟩
             have e0 := E12.out
             go_simp
             try rw [if_pos (by omega)]
             try rw [show ((1 : Nat) : Int).toNat = 1 by omega]
             try omega
            ·exact step_cell q12 1 hs Wn rfl rfl (fun _ h => load_u64 h) (fun L u W hG hdep => (oE (.pointer (some ⟨q12, 1, none⟩)) hG hdep 5)) (HasFs.cellW hmN12 (by omega) rfl) Na
            ·refine step_pureO hs Wn rfl fun L u W hG hdep => ⟨_, ?_, rfl⟩
             have e0 := E12.out
             go_simp
             try rw [if_pos (by omega)]
             try rw [show ((2 : Nat) : Int).toNat = 2 by omega]
             try omega
            ·exact step_cell q12 2 hs Wn rfl rfl (fun _ h => load_u64 h) (fun L u W hG hdep => (oE (.pointer (some ⟨q12, 2, none⟩)) hG hdep 7)) (HasFs.cellW hmN12 (by omega) rfl) Na
            ·refine step_pureO hs Wn rfl fun L u W hG hdep => ⟨_, ?_, rfl⟩
             have e0 := E12.out
             go_simp
             try rw [if_pos (by omega)]
             try rw [show ((3 : Nat) : Int).toNat = 3 by omega]
             try omega
            ·exact step_cell q12 3 hs Wn rfl rfl (fun _ h => load_u64 h) (fun L u W hG hdep => (oE (.pointer (some ⟨q12, 3, none⟩)) hG hdep 9)) (HasFs.cellW hmN12 (by omega) rfl) Na
            ·exact mvK hs fun _ => HC16.out
            ·refine step_pureO hs Wn rfl fun L u W hG hdep => ⟨_, ?_, rfl⟩
             have e0 := (oE (.int .u64 ((at0 V 3).toNat : Int)) hG hdep 10)
             have e1 := (oE (.int .u64 ((up (up (up (up (at0 V 7) (ux (ux (rotr (at0 V 4) 14) (rotr (at0 V 4) 18)) (rotr (at0 V 4) 41))) (ux (ua (at0 V 4) (at0 V 5)) (ua (un (at0 V 4)) (at0 V 6)))) (at0 kTab t)) (at0 Wd t)).toNat : Int)) hG hdep 11)
             exact run_up rfl ((oE (.int .u64 ((at0 V 3).toNat : Int)) hG hdep 10)) ((oE (.int .u64 ((up (up (up (up (at0 V 7) (ux (ux (rotr (at0 V 4) 14) (rotr (at0 V 4) 18)) (rotr (at0 V 4) 41))) (ux (ua (at0 V 4) (at0 V 5)) (ua (un (at0 V 4)) (at0 V 6)))) (at0 kTab t)) (at0 Wd t)).toNat : Int)) hG hdep 11))
            ·refine step_pureO hs Wn rfl fun L u W hG hdep => ⟨_, ?_, rfl⟩
             have e0 := E12.out
             go_simp
             try rw [if_pos (by omega)]
             try rw [show ((4 : Nat) : Int).toNat = 4 by omega]
             try omega
            ·exact step_cell q12 4 hs Wn rfl rfl (fun _ h => load_u64 h) (fun L u W hG hdep => (oE (.pointer (some ⟨q12, 4, none⟩)) hG hdep 13)) (HasFs.cellW hmN12 (by omega) rfl) Na
            ·refine step_pureO hs Wn rfl fun L u W hG hdep => ⟨_, ?_, rfl⟩
             have e0 := E12.out
             go_simp
             try rw [if_pos (by omega)]
             try rw [show ((5 : Nat) : Int).toNat = 5 by omega]
             try omega
            ·exact step_cell q12 5 hs Wn rfl rfl (fun _ h => load_u64 h) (fun L u W hG hdep => (oE (.pointer (some ⟨q12, 5, none⟩)) hG hdep 15)) (HasFs.cellW hmN12 (by omega) rfl) Na
            ·refine step_pureO hs Wn rfl fun L u W hG hdep => ⟨_, ?_, rfl⟩
             have e0 := E12.out
             go_simp
             try rw [if_pos (by omega)]
             try rw [show ((6 : Nat) : Int).toNat = 6 by omega]
             try omega
            ·exact step_cell q12 6 hs Wn rfl rfl (fun _ h => load_u64 h) (fun L u W hG hdep => (oE (.pointer (some ⟨q12, 6, none⟩)) hG hdep 17)) (HasFs.cellW hmN12 (by omega) rfl) Na
            ·refine step_pure hs Wn rfl fun L u W hG hdep => ?_
             rw [← HNV.out]
             exact run_build8W rfl ((oE (.int .u64 ((up (up (up (up (up (at0 V 7) (ux (ux (rotr (at0 V 4) 14) (rotr (at0 V 4) 18)) (rotr (at0 V 4) 41))) (ux (ua (at0 V 4) (at0 V 5)) (ua (un (at0 V 4)) (at0 V 6)))) (at0 kTab t)) (at0 Wd t)) (up (ux (ux (rotr (at0 V 0) 28) (rotr (at0 V 0) 34)) (rotr (at0 V 0) 39)) (ux (ux (ua (at0 V 0) (at0 V 1)) (ua (at0 V 0) (at0 V 2))) (ua (at0 V 1) (at0 V 2))))).toNat : Int)) hG hdep 2)) ((oE (.int .u64 ((at0 V 0).toNat : Int)) hG hdep 4)) ((oE (.int .u64 ((at0 V 1).toNat : Int)) hG hdep 6)) ((oE (.int .u64 ((at0 V 2).toNat : Int)) hG hdep 8)) ((oE (.int .u64 ((up (at0 V 3) (up (up (up (up (at0 V 7) (ux (ux (rotr (at0 V 4) 14) (rotr (at0 V 4) 18)) (rotr (at0 V 4) 41))) (ux (ua (at0 V 4) (at0 V 5)) (ua (un (at0 V 4)) (at0 V 6)))) (at0 kTab t)) (at0 Wd t))).toNat : Int)) hG hdep 12)) ((oE (.int .u64 ((at0 V 4).toNat : Int)) hG hdep 14)) ((oE (.int .u64 ((at0 V 5).toNat : Int)) hG hdep 16)) ((oE (.int .u64 ((at0 V 6).toNat : Int)) hG hdep 18))
            ·refine step_storeO q12 8 hs Wn rfl rfl (by kernel_rfl) (fun k hk => ?_) (fun _ => E12.out) (there_lt htN12 (by omega)) htN12 (gO 19) tya8 rfl
             rcases k with _ | _ | _ | _ | _ | _ | _ | _ | _ | _ | _ | _ | _ | _ | _ | _ | _ | _ | _ | _ | _ | k
             all_goals first | (exact absurd rfl hk) | (intro e; cases e; done)
           intro L29 u29z W29z hall hJ hG
           have hb := hJ.beN hbel
           have hbel := hbel.trans hb
           have hmN3 := kC hmN3 hJ HD12_q3.out
           have hmN4 := kC hmN4 hJ HD12_q4.out
           have hmN7 := kC hmN7 hJ HD12_q7.out
           have htN3 := tC htN3 hJ HD12_q3.out
           have htN4 := tC htN4 hJ HD12_q4.out
           have htN7 := tC htN7 hJ HD12_q7.out
           have HB := Lib.hid (blk_keep HB.out (hJ.block _ (HB.out.lt) (fun k hk => by rcases k with _ | _ | _ | _ | _ | _ | _ | _ | _ | _ | _ | _ | _ | _ | _ | _ | _ | _ | _ | _ | _ | k <;> first | (cases hk; done) | (cases hk; exact absurd rfl (Ne.symm HD12_g5.out)))))
           obtain ⟨_, hs29_20t, hs29_20⟩ := oT 8 rW8 [rL h Wd (t + 1)] hG 20
           have hbel0 := hbel
           clear hJ hG hall hb
           have hlt := HLT.out
           go_wp2_with fail
           go_roundw
           case rel => exact ⟨t + 1, by omega, by go_num, hmN3, htN3, hmN4, htN4, hmN7, htN7, hs29_20, hs29_20t, HB.out, hbel⟩
           case measure => simp [intOf]; omega
          ·obtain rfl : t = 80 := by omega
           have hd1 : decide (((80 : Nat) : Int) < 80) = false := by decide
           obtain ⟨V, hV⟩ : ∃ V, V = rL h Wd 80 := ⟨_, rfl⟩
           rw [← hV] at hmN12
           have HV := Lib.hid hV
           have HHL := Lib.hid hmN4.lenW
           clear hV ht hlt
           go_wp2_with fail
           clear hd1
           go_wp2_with fail
           go_loopw [18] (fun sk wr => ∃ t : Nat, t ≤ 8 ∧ sk = .int .i64 (t : Int) ∧ HasFs rW80 wr q3 0 [kTab] ∧ wr.there q3 0 80 ∧ HasFs rW8 wr q4 0 [hP h V t] ∧ wr.there q4 0 8 ∧ HasFs rW8 wr q12 0 [V] ∧ wr.there q12 0 8 ∧ Blk wr g5 (P.map bV ++ r5) 5 ∧ Below w.heap.size w wr) (fun x _ => 8 - (intOf x).toNat)
           case atStart => exact ⟨0, by omega, rfl, hmN3, htN3, (by rw [hP_zero _ HHL.out]; exact hmN4), htN4, hmN12, htN12, HB.out, hbel⟩
           case round =>
            obtain ⟨t, ht, rfl, hmQ3, htQ3, hmQ4, htQ4, hmQ12, htQ12, hB', hbel'⟩ := hrel
            clear hmN12 hmN3 hmN4 htN12 htN3 htN4 hbel hbel0 HB
            have hbel := hbel'
            have hbel0 := hbel'
            have HB := Lib.hid hB'
            clear hB'
            by_cases hlt : t < 8
            ·have hd1 : decide ((t : Int) < 8) = true := decide_eq_true (by omega)
             have HLT := Lib.hid hlt
             clear hlt
             go_upto_region 33 with fail
             clear hd1
             refine rgM [(207, 0), (0, 1), (0, 2), (0, 3), (0, 4), (0, 5), (0, 6), (0, 7), (0, 8)] [.oth (fun v => v = .int .i64 (t : Int)), .oth (fun v => v = .int .i64 (t : Int)), .oth (fun v => v = .pointer (some ⟨q4, t, none⟩)), .oth (fun v => v = .int .u64 ((at0 h t).toNat : Int)), .oth (fun v => v = .int .i64 (t : Int)), .oth (fun v => v = .pointer (some ⟨q12, t, none⟩)), .oth (fun v => v = .int .u64 ((at0 V t).toNat : Int)), .oth (fun v => v = .int .u64 ((up (at0 h t) (at0 V t)).toNat : Int)), .oth (fun v => v = .pointer (some ⟨q4, t, none⟩)), .cst q4 t (.int .u64 ((up (at0 h t) (at0 V t)).toNat : Int))] ?_ ?_
             ·intro hs
              refine ⟨?_, ?_, ?_, ?_, ?_, ?_, ?_, ?_, ?_, ?_, trivial⟩
              ·exact mvK hs fun _ => rfl
              ·exact mvK hs fun _ => rfl
              ·refine step_pureO hs Wn rfl fun L u W hG hdep => ⟨_, ?_, rfl⟩
               have e0 := E4.out
               have e1 := (oE (.int .i64 (t : Int)) hG hdep 1)
               have hltx := HLT.out
               go_simp
               try rw [if_pos (by omega)]
               try rw [show ((t : Nat) : Int).toNat = t by omega]
               try omega
              ·exact step_cell q4 t hs Wn rfl rfl (fun _ h => load_u64 h) (fun L u W hG hdep => (oE (.pointer (some ⟨q4, t, none⟩)) hG hdep 2)) (HasFs.cellW hmQ4 HLT.out (hP_at HLT.out)) Na
              ·exact mvK hs fun _ => rfl
              ·refine step_pureO hs Wn rfl fun L u W hG hdep => ⟨_, ?_, rfl⟩
               have e0 := E12.out
               have e1 := (oE (.int .i64 (t : Int)) hG hdep 4)
               have hltx := HLT.out
               go_simp
               try rw [if_pos (by omega)]
               try rw [show ((t : Nat) : Int).toNat = t by omega]
               try omega
              ·exact step_cell q12 t hs Wn rfl rfl (fun _ h => load_u64 h) (fun L u W hG hdep => (oE (.pointer (some ⟨q12, t, none⟩)) hG hdep 5)) (HasFs.cellW hmQ12 HLT.out rfl) (apN HD12_q4.out)
              ·refine step_pureO hs Wn rfl fun L u W hG hdep => ⟨_, ?_, rfl⟩
               have e0 := (oE (.int .u64 ((at0 h t).toNat : Int)) hG hdep 3)
               have e1 := (oE (.int .u64 ((at0 V t).toNat : Int)) hG hdep 6)
               exact run_up rfl ((oE (.int .u64 ((at0 h t).toNat : Int)) hG hdep 3)) ((oE (.int .u64 ((at0 V t).toNat : Int)) hG hdep 6))
              ·refine step_pureO hs Wn rfl fun L u W hG hdep => ⟨_, ?_, rfl⟩
               have e0 := E4.out
               have e1 := (oE (.int .i64 (t : Int)) hG hdep 0)
               have hltx := HLT.out
               go_simp
               try rw [if_pos (by omega)]
               try rw [show ((t : Nat) : Int).toNat = t by omega]
               try omega
              ·refine step_cst (old := .int .u64 ((at0 h t).toNat : Int)) q4 t hs Wn rfl rfl (by kernel_rfl) (fun k hk => ?_) (fun _ h1 h2 => store_u64 h1 h2) (fun L u W hG hdep => (oE (.pointer (some ⟨q4, t, none⟩)) hG hdep 8)) (fun L u W hG hdep => (oE (.int .u64 ((up (at0 h t) (at0 V t)).toNat : Int)) hG hdep 7)) (HasFs.cellW hmQ4 HLT.out (hP_at HLT.out)) (there_frozen htQ4 HLT.out)
               rcases k with _ | _ | _ | _ | _ | _ | _ | _ | _ | _ | k
               all_goals first | (exact absurd rfl hk) | (intro e; cases e; done)
             intro L33 u33z W33z hall hJ hG
             have hb := hJ.beN hbel
             have hbel := hbel.trans hb
             have hmQ3 := kC hmQ3 hJ HD4_q3.out
             have hmQ4 : HasFs rW8 W33z q4 0 [hP h V (t + 1)] := by
              have z := (hmQ4.setW htQ4 HLT.out (up (at0 h t) (at0 V t))).blk (show _ ∧ W33z.heap[q4]? = (wr.setCell ⟨q4, t, none⟩ (.int .u64 ((up (at0 h t) (at0 V t)).toNat : Int))).heap[q4]? from hG 9 (by simp)).2
              rw [hP_set] at z
              exact z
             have hmQ12 := kB hmQ12 hJ HD12_q4.out
             have htQ3 := tC htQ3 hJ HD4_q3.out
             have htQ4 := there_blk (there_set (b := q4) (k := t) (v := .int .u64 ((up (at0 h t) (at0 V t)).toNat : Int)) htQ4) (show _ ∧ W33z.heap[q4]? = (wr.setCell ⟨q4, t, none⟩ (.int .u64 ((up (at0 h t) (at0 V t)).toNat : Int))).heap[q4]? from hG 9 (by simp)).2
             have htQ12 := tB htQ12 hJ HD12_q4.out
             have HB := Lib.hid (blk_keep HB.out (hJ.block _ (HB.out.lt) (fun k hk => by rcases k with _ | _ | _ | _ | _ | _ | _ | _ | _ | _ | k <;> first | (cases hk; done) | (cases hk; exact absurd rfl HN4.out))))
             have hbel0 := hbel
             clear hJ hG hall hb
             have hlt := HLT.out
             go_wp2_with fail
             go_roundw
             case rel => exact ⟨t + 1, by omega, by go_num, hmQ3, htQ3, hmQ4, htQ4, hmQ12, htQ12, HB.out, hbel⟩
             case measure => simp [intOf]; omega
            ·obtain rfl : t = 8 := by omega
             have hd1 : decide (((8 : Nat) : Int) < 8) = false := by decide
             have HT : Hid (hP h V 8 = hSt P (i + 1)) := Lib.hid (by rw [hP_full, HV.out, HWD.out, HHS.out, hSt, ← HAT.out]; rfl)
             clear ht hlt
             rw [HT.out] at hmQ4
             have hat2 : AT + 128 = 128 * (i + 1) := by have := HAT.out; omega
             have hsp := HSP.out
             have HA2 := Lib.hid hat2
             clear hat2
             go_wp2_with fail
             go_roundw
             case rel => exact ⟨i + 1, AT + 128, by have := HI.out; omega, HA2.out, by go_num, hmQ3, htQ3, hmQ4, htQ4, HB.out, hbel⟩
             case measure => simp [intOf]; omega
    ·obtain rfl : i = M := by omega
     have hdo : decide (AT < ML) = false := decide_eq_false (by have := HML.out; omega)
     obtain ⟨H, hH⟩ : ∃ H, H = hSt P i := ⟨_, rfl⟩
     rw [← hH] at hmO4
     have HT : Hid (outK H 8 = outK (hSt P i) 8) := Lib.hid (by rw [hH])
     clear hat hi hlt hH
     have hE4 := E4.out
     rw [hE4]
     clear hE4
     obtain ⟨WB, rfl⟩ : ∃ Z, Z = wr := ⟨_, rfl⟩
     go_wp2_with fail
     go_loopw [19, 20] (fun v k wx => ∃ j : Nat, j ≤ 8 ∧ k = .int .i64 (j : Int) ∧ wx.ownsRow WB.heap.size 5 1 v (8 * j) ((outK H j).map bV) ∧ Below WB.heap.size WB wx) (fun _ k _ => 8 - (intOf k).toNat)
     case atStart => exact ⟨0, by omega, rfl, World.ownsRow_nil _ _ _ _, Below.refl _ _⟩
     case round =>
      obtain ⟨j, hj, rfl, ho, hbx⟩ := hrel
      clear hdo
      by_cases hlt : j < 8
      ·have hd : decide ((j : Int) < 8) = true := decide_eq_true (by omega)
       have hm4 := hmO4.later hbx
       have hcl := HasFs.cellW hm4 hlt rfl
       have hj0 : (0 : Int) ≤ (j : Int) := by omega
       have hj8 : (j : Int) < 8 := by omega
       have HO := Lib.hid ho
       have HJ := Lib.hid hlt
       clear ho hlt hm4
       go_wp2_with (first | (go_at_call 74; go_must (refine (rbig_any (x := at0 H j) _).mono ?_; rintro e w5 ⟨rfl, hB, hb⟩; have hb5 := Below.call hbx hb; have HO4 := Lib.hid (own_below HO.out hb); have HBX := Lib.hid (RdB.blk (n := 8) (cap := 8) (l := be8 (at0 H j)) [] (by rw [List.append_nil]; exact hB) (be8_len _) (by omega) (by unfold maxLen; omega)); clear hB hb)) | (at_builtin; go_must (refine app_bytes _ rfl (.tmp 220) (.tmp 224) rfl WB.heap.size _ (8 * j) (outK H j) rfl HO4.out _ 8 8 (be8 (at0 H j)) rfl HBX.out (by have := HJ.out; omega) hb5.size WB hb5 ?_; intro v4 w6 ho hb6; have HO5 := Lib.hid ho; clear ho)))
       go_roundw
       case rel => exact ⟨j + 1, by have := HJ.out; omega, by go_num, by rw [outK_succ, show 8 * (j + 1) = 8 * j + 8 by omega]; exact HO5.out, hb6⟩
       case measure => have := HJ.out; simp [intOf]; omega
      ·obtain rfl : j = 8 := by omega
       have hd : decide (((8 : Nat) : Int) < 8) = false := by decide
       obtain ⟨g9, c9, r9, rfl, hg9, hB9, hl9, hc9, hm9⟩ := own_rdb ho (by omega)
       have HB9 := Lib.hid hB9; have HL9 := Lib.hid hl9
       have hg9' : w.heap.size ≤ g9 := by have := hbel.size; omega
       clear ho hB9 hl9
       go_wp2
       go_ret
       exact ⟨g9, 64, c9, r9, rfl, hg9', by rw [← HT.out]; exact HB9.out, by rw [outK_len], hc9, hm9, Below.call hbel hbx⟩
/-- The document's SHA-512. -/
theorem rsum512_any {a : Option Addr} {n cap : Nat} {l : List UInt8} {w : World} (h : RdB w a n cap l) (hs : l.length ≤ 1000000) :
  Calls Tryz.prog 31 #[.slice a n cap] w (NewB w (sha512 l)) := by
 have hp := padB_blocks l
 have h2 := padB_len l
 have h3 := h.hlen
 rw [← sha512_out]
 exact rsum512_walk h (by omega) rfl hp.1 hp.2 (by omega)
end Go.Proofs.YtielgpefoameiaaGreat
namespace Go.Proofs.YtielgpefoameiaaGreat
open Go.RowKit
set_option maxRecDepth 100000 in
set_option maxHeartbeats 400000 in
theorem rclamp_any {a : Option Addr} {n cap : Nat} {l : List UInt8} (w : World) (h : RdB w a n cap l) :
  Calls Tryz.prog 35 #[.slice a n cap] w fun e w' => e = .returned (.slice (some ⟨w.heap.size, 0, none⟩) 32 32) ∧ Blk w' w.heap.size ((clampB l).map bV) 5 ∧ Below w.heap.size w w' := by
 have hlen := first_len l 32
 have HC : Hid (clampB l = ((first l 32).set 0 ((first l 32).getD 0 0 &&& 248)).set 31 (((first l 32).getD 31 0 &&& 127) ||| 64)) := Lib.hid rfl
 generalize hfl : first l 32 = fl at *
 have HF := Lib.hid hfl; have HL := Lib.hid hlen
 obtain ⟨c0, hc0⟩ : ∃ c0, c0 = fl.getD 0 0 := ⟨_, rfl⟩
 obtain ⟨c1, hc1⟩ : ∃ c1, c1 = fl.getD 31 0 := ⟨_, rfl⟩
 have H0 := Lib.hid hc0; have H1 := Lib.hid hc1
 obtain ⟨d0, hd0⟩ : ∃ d0, d0 = c0 &&& 248 := ⟨_, rfl⟩
 obtain ⟨d1, hd1⟩ : ∃ d1, d1 = c1 &&& 127 := ⟨_, rfl⟩
 obtain ⟨d2, hd2⟩ : ∃ d2, d2 = d1 ||| 64 := ⟨_, rfl⟩
 have e0 : bits BinOp.and IntKind.u8 (c0.toNat : Int) 248 = ((d0.toNat : Nat) : Int) := by rw [hd0]; exact and8 c0 248
 have e1 : bits BinOp.and IntKind.u8 (c1.toNat : Int) 127 = ((d1.toNat : Nat) : Int) := by rw [hd1]; exact and8 c1 127
 have e2 : bits BinOp.or IntKind.u8 ((d1.toNat : Nat) : Int) 64 = ((d2.toNat : Nat) : Int) := by rw [hd2]; exact or8 d1 64
 rw [hd1] at hd2
 have D0 := Lib.hid hd0; have D2 := Lib.hid hd2
 clear hd0 hd1 hd2
 clear hfl hlen hc0 hc1
 go_enter Tryz.func35, Tryz.ntmps35
 go_wp2_with (go_at_call 87; go_must (refine (fill_any 32 (by omega) _ h).mono ?_; rintro e w1 ⟨rfl, hB, hb⟩; rw [HF.out] at hB; have k0 : w1.cell? ⟨w.heap.size, 0, none⟩ = some (.int .u8 (c0.toNat : Int)) := (by rw [hB.cell, H0.out]; have := HL.out; simp [bV, List.getElem?_eq_getElem (show 0 < fl.length by omega)]); have k1 : w1.cell? ⟨w.heap.size, 31, none⟩ = some (.int .u8 (c1.toNat : Int)) := (by rw [hB.cell, H1.out]; have := HL.out; simp [bV, List.getElem?_eq_getElem (show 31 < fl.length by omega)]); have kf := hB.frozen; have HB := Lib.hid hB; clear hB))
 go_ret
 refine ⟨rfl, ?_, belowBy⟩
 have hB := (HB.out.set 0 (bV d0)).set 31 (bV d2)
 rw [← List.map_set, ← List.map_set] at hB
 rw [HC.out, ← H0.out, ← H1.out, ← D0.out, ← D2.out]
 exact hB
end Go.Proofs.YtielgpefoameiaaGreat
namespace Go.Proofs.YtielgpefoameiaaGreat
open Go Go.RowKit
theorem gRSum {v : Value} {l : List UInt8} {w : World} (h : (IsB l).P v w) (hs : l.length ≤ 1000000) :
  Calls Tryz.prog 31 #[v] w fun e w' => ∃ r, e = .returned r ∧ (IsB (sha512 l)).P r w' ∧ Below w.heap.size w w' := by
 obtain ⟨a, n, cap, rfl, hr⟩ := h
 exact (rsum512_any hr hs).mono fun _ _ h => NewB.mk' h
theorem clamp_take (l : List UInt8) : clampB (l.take 32) = clampB l := by
 have h : first (l.take 32) 32 = first l 32 := by
  unfold first
  rw [List.take_take, List.length_take, Nat.min_self]
  congr 2
  omega
 unfold clampB
 rw [h]
theorem gRClamp {v : Value} {l : List UInt8} {w : World} (h : (IsB (l.take 32)).P v w) :
  Calls Tryz.prog 35 #[v] w fun e w' => ∃ r, e = .returned r ∧ (IsB (clampB l)).P r w' ∧ Below w.heap.size w w' := by
 obtain ⟨a, n, cap, rfl, hr⟩ := h
 rw [← clamp_take]
 exact (rclamp_any w hr).mono fun _ _ ⟨he, hB, hb⟩ => ⟨_, he, IsB.mk (RdB.blk (n := 32) (cap := 32) [] (by rw [List.append_nil]; exact hB) (clampB_len _) (by omega) (by unfold maxLen; omega)), hb⟩
theorem gRWide {v : Value} {l : List UInt8} {x : F} {w : World} (hx : wS l = x) (h : (IsB l).P v w) :
  Calls Tryz.prog 34 #[v] w fun e w' => ∃ r, e = .returned r ∧ IsFs rC r [x] ∧ Below w.heap.size w w' := by
 obtain ⟨a, n, cap, rfl, hr⟩ := h
 exact kWide hx hr
theorem gQEncode {v : Value} {P : EP} (h : IsFs rQ v [P]) (w : World) :
  Calls Tryz.prog 36 #[v] w fun e w' => ∃ r, e = .returned r ∧ (IsB (encP P)).P r w' ∧ Below w.heap.size w w' := (kEncode h w).mono fun _ _ h => NewB.mk' h
theorem gRScBytes {v : Value} {x : F} (h : IsFs rC v [x]) (w : World) :
  Calls Tryz.prog 40 #[v] w fun e w' => ∃ r, e = .returned r ∧ (IsB (leB 32 x.val)).P r w' ∧ Below w.heap.size w w' := (kScBytes h w).mono fun _ _ h => NewB.mk' h
set_option maxRecDepth 100000 in
set_option maxHeartbeats 1000000 in
theorem gRPublic {w : World} {v : Value} {seed : List UInt8} (h : (IsB seed).P v w) (hs : seed.length ≤ 1000000) :
  Calls Tryz.prog 12 #[v] w fun e w' => ∃ r, e = .returned r ∧ (IsB (edPub seed)).P r w' ∧ Below w.heap.size w w' := by
 have HS := Lib.hid hs; clear hs
 go_enter Tryz.func12, Tryz.ntmps12
 have hbel : Below w.heap.size w w := Below.refl _ _
 have hbel0 := hbel
 go_upto_region 0 with fail
 refine rgT [(2, 0)] [.wld (IsB []) none] ?_ ?_
 ·intro hs
  refine ⟨?_, trivial⟩
  ·exact step_runP hs Wn rfl fun L u W hJ hG hL hdep => run_moveP (.inr rfl) (IsB.nil W)
 intro L0 u0 W0 hall hJ hG
 have hb := hJ.all rfl
 have hbel := Below.call hbel hb
 have hw2 := oW (IsB []) hG 0
 have hbel0 := hbel
 clear hJ hG hall hb
 go_upto_region 1 with fail
 refine rgT [(3, 2), (0, 0), (0, 1)] [.wld (IsB seed) none, .wld (IsB (sha512 seed)) none, .wld (IsB (sha512 seed)) none] ?_ ?_
 ·intro hs
  refine ⟨?_, ?_, ?_, trivial⟩
  ·exact step_runP hs Wn rfl fun L u W hJ hG hL hdep => run_moveP (.inl rfl) ((IsB seed).st _ _ _ h (Below.call hbel (hJ.all rfl)))
  ·refine step_callP hs Wn rfl fun L u W hJ hG hL hdep K hK => ?_
   go_simp
   go_at_call 31
   (with_reducible refine (gRSum (holds_wld (φ := IsB seed) (hG 0 (hdep 0 (by kernel_rfl))) rfl till_none) (HS.out)).mono ?_); rintro e w1 ⟨r, rfl, hr, hb⟩
   exact hK.out _ _ hr hb
  ·exact step_runP hs Wn rfl fun L u W hJ hG hL hdep => run_moveP (.inr rfl) (hW (IsB (sha512 seed)) hG hdep 1)
 intro L1 u1 W1 hall hJ hG
 have hb := hJ.all rfl
 have hbel := Below.call hbel hb
 have hw2 := (IsB []).st _ _ _ hw2 hb
 have hw3 := oW (IsB (sha512 seed)) hG 2
 have hbel0 := hbel
 clear hJ hG hall hb
 go_upto_region 2 with fail
 refine rgM [(2, 7), (3, 0), (0, 1), (0, 2), (0, 3), (0, 4), (0, 5), (0, 6)] [.val rQ [base], .wld (IsB (sha512 seed)) none, .wld (IsB ((sha512 seed).take 32)) none, .wld (IsB (clampB (sha512 seed))) none, .val rC [edA seed], .val rQ [Cp.mul (edA seed).val base], .wld (IsB (encP (Cp.mul (edA seed).val base))) none, .wld (IsB (encP (Cp.mul (edA seed).val base))) none] ?_ ?_
 ·intro hs
  refine ⟨?_, ?_, ?_, ?_, ?_, ?_, ?_, ?_, trivial⟩
  ·refine step_call hs Wn rfl fun L u W hJ hG hL hdep K hK => ?_
   go_simp
   go_at_call 32
   (with_reducible refine (kBase _).mono ?_); rintro e w1 ⟨r, rfl, hr, hb⟩
   exact hK.out _ _ hr hb
  ·exact step_runP hs Wn rfl fun L u W hJ hG hL hdep => run_moveP (.inl rfl) ((IsB (sha512 seed)).st _ _ _ hw3 (hJ.all rfl))
  ·exact step_runP hs Wn rfl fun L u W hJ hG hL hdep => run_toP (k := 32) rfl rfl (hW (IsB (sha512 seed)) hG hdep 1) (by rw [sha512_len]; omega)
  ·refine step_callP hs Wn rfl fun L u W hJ hG hL hdep K hK => ?_
   go_simp
   go_at_call 35
   (with_reducible refine (gRClamp (l := (sha512 seed)) (holds_wld (φ := IsB ((sha512 seed).take 32)) (hG 2 (hdep 2 (by kernel_rfl))) rfl till_none)).mono ?_); rintro e w1 ⟨r, rfl, hr, hb⟩
   exact hK.out _ _ hr hb
  ·refine step_call hs Wn rfl fun L u W hJ hG hL hdep K hK => ?_
   go_simp
   go_at_call 34
   (with_reducible refine (gRWide (x := edA seed) rfl (holds_wld (φ := IsB (clampB (sha512 seed))) (hG 3 (hdep 3 (by kernel_rfl))) rfl till_none)).mono ?_); rintro e w1 ⟨r, rfl, hr, hb⟩
   exact hK.out _ _ hr hb
  ·refine step_call hs Wn rfl fun L u W hJ hG hL hdep K hK => ?_
   have a0 := (vE rQ [base] hG hdep 0)
   have a1 := (vE rC [edA seed] hG hdep 4)
   go_simp
   go_at_call 33
   (with_reducible refine (kMult rfl a0 a1 _).mono ?_); rintro e w1 ⟨r, rfl, hr, hb⟩
   exact hK.out _ _ hr hb
  ·refine step_callP hs Wn rfl fun L u W hJ hG hL hdep K hK => ?_
   have a0 := (vE rQ [Cp.mul (edA seed).val base] hG hdep 5)
   go_simp
   go_at_call 36
   (with_reducible refine (gQEncode a0 _).mono ?_); rintro e w1 ⟨r, rfl, hr, hb⟩
   exact hK.out _ _ hr hb
  ·exact step_runP hs Wn rfl fun L u W hJ hG hL hdep => run_moveP (.inr rfl) (hW (IsB (encP (Cp.mul (edA seed).val base))) hG hdep 6)
 intro L2 u2 W2 hall hJ hG
 have hb := hJ.all rfl
 have hbel := Below.call hbel hb
 have hw2 := (IsB []).st _ _ _ hw2 hb
 have hw3 := (IsB (sha512 seed)).st _ _ _ hw3 hb
 have hw2 := oW (IsB (encP (Cp.mul (edA seed).val base))) hG 7
 have hbel0 := hbel
 clear hJ hG hall hb
 go_wp2
 go_ret
 exact ⟨_, rfl, hw2, hbel⟩
set_option maxRecDepth 100000 in
set_option maxHeartbeats 1000000 in
theorem gRSign {w : World} {v v1 : Value} {seed l : List UInt8} (h : (IsB seed).P v w) (h1 : (IsB l).P v1 w) (hs : seed.length ≤ 1000000) (hm : l.length ≤ 100000) :
  Calls Tryz.prog 13 #[v, v1] w fun e w' => ∃ r, e = .returned r ∧ (IsB (edSig seed l)).P r w' ∧ Below w.heap.size w w' := by
 have HS := Lib.hid hs; have HM := Lib.hid hm; clear hs hm
 go_enter Tryz.func13, Tryz.ntmps13
 have hbel : Below w.heap.size w w := Below.refl _ _
 have hbel0 := hbel
 go_upto_region 0 with fail
 refine rgT [(4, 0)] [.wld (IsB []) none] ?_ ?_
 ·intro hs
  refine ⟨?_, trivial⟩
  ·exact step_runP hs Wn rfl fun L u W hJ hG hL hdep => run_moveP (.inr rfl) (IsB.nil W)
 intro L0 u0 W0 hall hJ hG
 have hb := hJ.all rfl
 have hbel := Below.call hbel hb
 have hw4 := oW (IsB []) hG 0
 have hbel0 := hbel
 clear hJ hG hall hb
 go_upto_region 1 with fail
 refine rgT [(5, 2), (5, 0), (0, 1)] [.wld (IsB seed) none, .wld (IsB (sha512 seed)) none, .wld (IsB (sha512 seed)) none] ?_ ?_
 ·intro hs
  refine ⟨?_, ?_, ?_, trivial⟩
  ·exact step_runP hs Wn rfl fun L u W hJ hG hL hdep => run_moveP (.inl rfl) ((IsB seed).st _ _ _ h (Below.call hbel (hJ.all rfl)))
  ·refine step_callP hs Wn rfl fun L u W hJ hG hL hdep K hK => ?_
   go_simp
   go_at_call 31
   (with_reducible refine (gRSum (holds_wld (φ := IsB seed) (hG 0 (hdep 0 (by kernel_rfl))) rfl till_none) (HS.out)).mono ?_); rintro e w1 ⟨r, rfl, hr, hb⟩
   exact hK.out _ _ hr hb
  ·exact step_runP hs Wn rfl fun L u W hJ hG hL hdep => run_moveP (.inr rfl) (hW (IsB (sha512 seed)) hG hdep 1)
 intro L1 u1 W1 hall hJ hG
 have hb := hJ.all rfl
 have hbel := Below.call hbel hb
 have hw4 := (IsB []).st _ _ _ hw4 hb
 have hw5 := oW (IsB (sha512 seed)) hG 2
 have hbel0 := hbel
 clear hJ hG hall hb
 go_upto_region 2 with fail
 refine rgT [(6, 4), (6, 0), (0, 1), (0, 2), (0, 3)] [.wld (IsB (sha512 seed)) (some 1), .wld (IsB ((sha512 seed).take 32)) (some 2), .wld (IsB (clampB (sha512 seed))) (some 3), .val rC [edA seed], .new 32, .st 4 rC [edA seed]] ?_ ?_
 ·intro hs
  refine ⟨?_, ?_, ?_, ?_, ?_, ?_, trivial⟩
  ·exact step_runP hs Wn rfl fun L u W hJ hG hL hdep => run_moveP (.inl rfl) ((IsB (sha512 seed)).st _ _ _ hw5 (hJ.all rfl))
  ·exact step_runP hs Wn rfl fun L u W hJ hG hL hdep => run_toP (k := 32) rfl rfl (hV (IsB (sha512 seed)) hG hdep hL 0) (by rw [sha512_len]; omega)
  ·refine step_callP hs Wn rfl fun L u W hJ hG hL hdep K hK => ?_
   go_simp
   go_at_call 35
   (with_reducible refine (gRClamp (l := (sha512 seed)) (holds_wld (φ := IsB ((sha512 seed).take 32)) (hG 1 (hdep 1 (by kernel_rfl))) rfl (till_some hL))).mono ?_); rintro e w1 ⟨r, rfl, hr, hb⟩
   exact hK.out _ _ hr hb
  ·refine step_call hs Wn rfl fun L u W hJ hG hL hdep K hK => ?_
   go_simp
   go_at_call 34
   (with_reducible refine (gRWide (x := edA seed) rfl (holds_wld (φ := IsB (clampB (sha512 seed))) (hG 2 (hdep 2 (by kernel_rfl))) rfl (till_some hL))).mono ?_); rintro e w1 ⟨r, rfl, hr, hb⟩
   exact hK.out _ _ hr hb
  ·exact step_alloc hs Wn rfl rfl (by omega) rfl allocSc
  ·exact step_store 4 hs (by kernel_rfl) Wn rfl rfl rfl (by kernel_rfl) (by kernel_rfl) (by kernel_rfl) (by kernel_rfl) (fun _ => rfl) (gO 3) tySc rfl
 intro L2 u2 W2 hall hJ hG
 obtain ⟨q6, e6, hq6, _, ht6⟩ := oN 32 hG 4
 have hm6 := oS rC [edA seed] hG 5 e6
 have hq6 : w.heap.size ≤ q6 := by have := hbel0.size; omega
 have E6 := Lib.hid e6; clear e6
 have hb := hJ.all rfl
 have hbel := Below.call hbel hb
 have hw4 := (IsB []).st _ _ _ hw4 hb
 have hw5 := (IsB (sha512 seed)).st _ _ _ hw5 hb
 have hbel0 := hbel
 clear hJ hG hall hb
 go_upto_region 3 with fail
 refine rgM [(7, 4), (9, 0), (0, 1), (0, 2), (0, 3)] [.val rQ [base], .val rC [edA seed], .val rQ [Cp.mul (edA seed).val base], .wld (IsB (encP (Cp.mul (edA seed).val base))) none, .wld (IsB (encP (Cp.mul (edA seed).val base))) none] ?_ ?_
 ·intro hs
  refine ⟨?_, ?_, ?_, ?_, ?_, trivial⟩
  ·refine step_call hs Wn rfl fun L u W hJ hG hL hdep K hK => ?_
   go_simp
   go_at_call 32
   (with_reducible refine (kBase _).mono ?_); rintro e w1 ⟨r, rfl, hr, hb⟩
   exact hK.out _ _ hr hb
  ·exact step_load q6 0 hs Wn rfl rfl tySc (fun _ => E6.out) hm6.lt hm6 Na
  ·refine step_call hs Wn rfl fun L u W hJ hG hL hdep K hK => ?_
   have a0 := (vE rQ [base] hG hdep 0)
   have a1 := (vE rC [edA seed] hG hdep 1)
   go_simp
   go_at_call 33
   (with_reducible refine (kMult rfl a0 a1 _).mono ?_); rintro e w1 ⟨r, rfl, hr, hb⟩
   exact hK.out _ _ hr hb
  ·refine step_callP hs Wn rfl fun L u W hJ hG hL hdep K hK => ?_
   have a0 := (vE rQ [Cp.mul (edA seed).val base] hG hdep 2)
   go_simp
   go_at_call 36
   (with_reducible refine (gQEncode a0 _).mono ?_); rintro e w1 ⟨r, rfl, hr, hb⟩
   exact hK.out _ _ hr hb
  ·exact step_runP hs Wn rfl fun L u W hJ hG hL hdep => run_moveP (.inr rfl) (hW (IsB (encP (Cp.mul (edA seed).val base))) hG hdep 3)
 intro L3 u3 W3 hall hJ hG
 have hb := hJ.all rfl
 have hbel := Below.call hbel hb
 have hm6 := hm6.later hb
 have ht6 := there_later ht6 hb
 have hw4 := (IsB []).st _ _ _ hw4 hb
 have hw5 := (IsB (sha512 seed)).st _ _ _ hw5 hb
 have hw7 := oW (IsB (encP (Cp.mul (edA seed).val base))) hG 4
 have hbel0 := hbel
 clear hJ hG hall hb
 go_upto_region 4 with fail
 refine rgT [(8, 7), (12, 0), (0, 1), (0, 2), (0, 3), (0, 4), (0, 5), (0, 6)] [.wld (IsB (sha512 seed)) (some 1), .wld (IsB ((sha512 seed).drop 32)) (some 3), .wld (IsB l) (some 3), .wld (IsR [(sha512 seed).drop 32, l]) (some 4), .wld (IsB (((sha512 seed).drop 32) ++ l)) (some 5), .wld (IsB (sha512 (((sha512 seed).drop 32) ++ l))) (some 6), .val rC [wS (sha512 (((sha512 seed).drop 32) ++ l))], .new 32, .st 7 rC [wS (sha512 (((sha512 seed).drop 32) ++ l))]] ?_ ?_
 ·intro hs
  refine ⟨?_, ?_, ?_, ?_, ?_, ?_, ?_, ?_, ?_, trivial⟩
  ·exact step_runP hs Wn rfl fun L u W hJ hG hL hdep => run_moveP (.inl rfl) ((IsB (sha512 seed)).st _ _ _ hw5 (hJ.all rfl))
  ·exact step_runP hs Wn rfl fun L u W hJ hG hL hdep => run_fromP (k := 32) rfl rfl (hV (IsB (sha512 seed)) hG hdep hL 0) (by rw [sha512_len]; omega)
  ·exact step_runP hs Wn rfl fun L u W hJ hG hL hdep => run_moveP (.inl rfl) ((IsB l).st _ _ _ h1 (Below.call hbel (hJ.all rfl)))
  ·exact step_runP hs Wn rfl fun L u W hJ hG hL hdep => run_rows2 rfl (hV (IsB ((sha512 seed).drop 32)) hG hdep hL 1) (hV (IsB l) hG hdep hL 2)
  ·refine step_callP hs Wn rfl fun L u W hJ hG hL hdep K hK => ?_
   go_simp
   go_at_call 37
   (with_reducible refine (gRCat (l := (((sha512 seed).drop 32) ++ l)) (holds_wld (φ := IsR [(sha512 seed).drop 32, l]) (hG 3 (hdep 3 (by kernel_rfl))) rfl (till_some hL)) (by simp) (by have := HM.out; (repeat rw [List.length_append]); (repeat rw [encP_len]); (try rw [leB_len]); (try rw [List.length_drop, sha512_len]); omega)).mono ?_); rintro e w1 ⟨r, rfl, hr, hb⟩
   exact hK.out _ _ hr hb
  ·refine step_callP hs Wn rfl fun L u W hJ hG hL hdep K hK => ?_
   go_simp
   go_at_call 31
   (with_reducible refine (gRSum (holds_wld (φ := IsB (((sha512 seed).drop 32) ++ l)) (hG 4 (hdep 4 (by kernel_rfl))) rfl (till_some hL)) (by have := HM.out; (repeat rw [List.length_append]); (repeat rw [encP_len]); (try rw [leB_len]); (try rw [List.length_drop, sha512_len]); omega)).mono ?_); rintro e w1 ⟨r, rfl, hr, hb⟩
   exact hK.out _ _ hr hb
  ·refine step_call hs Wn rfl fun L u W hJ hG hL hdep K hK => ?_
   go_simp
   go_at_call 34
   (with_reducible refine (gRWide (x := wS (sha512 (((sha512 seed).drop 32) ++ l))) rfl (holds_wld (φ := IsB (sha512 (((sha512 seed).drop 32) ++ l))) (hG 5 (hdep 5 (by kernel_rfl))) rfl (till_some hL))).mono ?_); rintro e w1 ⟨r, rfl, hr, hb⟩
   exact hK.out _ _ hr hb
  ·exact step_alloc hs Wn rfl rfl (by omega) rfl allocSc
  ·exact step_store 7 hs (by kernel_rfl) Wn rfl rfl rfl (by kernel_rfl) (by kernel_rfl) (by kernel_rfl) (by kernel_rfl) (fun _ => rfl) (gO 6) tySc rfl
 intro L4 u4 W4 hall hJ hG
 obtain ⟨q8, e8, hq8, _, ht8⟩ := oN 32 hG 7
 have hm8 := oS rC [wS (sha512 (((sha512 seed).drop 32) ++ l))] hG 8 e8
 have HD8_q6 := Lib.hid (show q6 ≠ q8 by have := there_lt ht6 (by omega); omega)
 have hq8 : w.heap.size ≤ q8 := by have := hbel0.size; omega
 have E8 := Lib.hid e8; clear e8
 have hb := hJ.all rfl
 have hbel := Below.call hbel hb
 have hm6 := hm6.later hb
 have ht6 := there_later ht6 hb
 have hw4 := (IsB []).st _ _ _ hw4 hb
 have hw5 := (IsB (sha512 seed)).st _ _ _ hw5 hb
 have hw7 := (IsB (encP (Cp.mul (edA seed).val base))).st _ _ _ hw7 hb
 have hbel0 := hbel
 clear hJ hG hall hb
 go_upto_region 5 with fail
 refine rgM [(9, 4), (18, 0), (0, 1), (0, 2), (0, 3)] [.val rQ [base], .val rC [wS (sha512 (((sha512 seed).drop 32) ++ l))], .val rQ [Cp.mul (wS (sha512 (((sha512 seed).drop 32) ++ l))).val base], .wld (IsB (encP (Cp.mul (wS (sha512 (((sha512 seed).drop 32) ++ l))).val base))) none, .wld (IsB (encP (Cp.mul (wS (sha512 (((sha512 seed).drop 32) ++ l))).val base))) none] ?_ ?_
 ·intro hs
  refine ⟨?_, ?_, ?_, ?_, ?_, trivial⟩
  ·refine step_call hs Wn rfl fun L u W hJ hG hL hdep K hK => ?_
   go_simp
   go_at_call 32
   (with_reducible refine (kBase _).mono ?_); rintro e w1 ⟨r, rfl, hr, hb⟩
   exact hK.out _ _ hr hb
  ·exact step_load q8 0 hs Wn rfl rfl tySc (fun _ => E8.out) hm8.lt hm8 Na
  ·refine step_call hs Wn rfl fun L u W hJ hG hL hdep K hK => ?_
   have a0 := (vE rQ [base] hG hdep 0)
   have a1 := (vE rC [wS (sha512 (((sha512 seed).drop 32) ++ l))] hG hdep 1)
   go_simp
   go_at_call 33
   (with_reducible refine (kMult rfl a0 a1 _).mono ?_); rintro e w1 ⟨r, rfl, hr, hb⟩
   exact hK.out _ _ hr hb
  ·refine step_callP hs Wn rfl fun L u W hJ hG hL hdep K hK => ?_
   have a0 := (vE rQ [Cp.mul (wS (sha512 (((sha512 seed).drop 32) ++ l))).val base] hG hdep 2)
   go_simp
   go_at_call 36
   (with_reducible refine (gQEncode a0 _).mono ?_); rintro e w1 ⟨r, rfl, hr, hb⟩
   exact hK.out _ _ hr hb
  ·exact step_runP hs Wn rfl fun L u W hJ hG hL hdep => run_moveP (.inr rfl) (hW (IsB (encP (Cp.mul (wS (sha512 (((sha512 seed).drop 32) ++ l))).val base))) hG hdep 3)
 intro L5 u5 W5 hall hJ hG
 have hb := hJ.all rfl
 have hbel := Below.call hbel hb
 have hm6 := hm6.later hb
 have hm8 := hm8.later hb
 have ht6 := there_later ht6 hb
 have ht8 := there_later ht8 hb
 have hw4 := (IsB []).st _ _ _ hw4 hb
 have hw5 := (IsB (sha512 seed)).st _ _ _ hw5 hb
 have hw7 := (IsB (encP (Cp.mul (edA seed).val base))).st _ _ _ hw7 hb
 have hw9 := oW (IsB (encP (Cp.mul (wS (sha512 (((sha512 seed).drop 32) ++ l))).val base))) hG 4
 have hbel0 := hbel
 clear hJ hG hall hb
 go_upto_region 6 with fail
 refine rgT [(10, 7), (21, 0), (0, 1), (0, 2), (0, 3), (0, 4), (0, 5), (0, 6)] [.wld (IsB (encP (Cp.mul (wS (sha512 (((sha512 seed).drop 32) ++ l))).val base))) (some 3), .wld (IsB (encP (Cp.mul (edA seed).val base))) (some 3), .wld (IsB l) (some 3), .wld (IsR [encP (Cp.mul (wS (sha512 (((sha512 seed).drop 32) ++ l))).val base), encP (Cp.mul (edA seed).val base), l]) (some 4), .wld (IsB ((encP (Cp.mul (wS (sha512 (((sha512 seed).drop 32) ++ l))).val base)) ++ ((encP (Cp.mul (edA seed).val base)) ++ l))) (some 5), .wld (IsB (sha512 ((encP (Cp.mul (wS (sha512 (((sha512 seed).drop 32) ++ l))).val base)) ++ ((encP (Cp.mul (edA seed).val base)) ++ l)))) (some 6), .val rC [wS (sha512 ((encP (Cp.mul (wS (sha512 (((sha512 seed).drop 32) ++ l))).val base)) ++ ((encP (Cp.mul (edA seed).val base)) ++ l)))], .new 32, .st 7 rC [wS (sha512 ((encP (Cp.mul (wS (sha512 (((sha512 seed).drop 32) ++ l))).val base)) ++ ((encP (Cp.mul (edA seed).val base)) ++ l)))]] ?_ ?_
 ·intro hs
  refine ⟨?_, ?_, ?_, ?_, ?_, ?_, ?_, ?_, ?_, trivial⟩
  ·exact step_runP hs Wn rfl fun L u W hJ hG hL hdep => run_moveP (.inl rfl) ((IsB (encP (Cp.mul (wS (sha512 (((sha512 seed).drop 32) ++ l))).val base))).st _ _ _ hw9 (hJ.all rfl))
  ·exact step_runP hs Wn rfl fun L u W hJ hG hL hdep => run_moveP (.inl rfl) ((IsB (encP (Cp.mul (edA seed).val base))).st _ _ _ hw7 (hJ.all rfl))
  ·exact step_runP hs Wn rfl fun L u W hJ hG hL hdep => run_moveP (.inl rfl) ((IsB l).st _ _ _ h1 (Below.call hbel (hJ.all rfl)))
  ·exact step_runP hs Wn rfl fun L u W hJ hG hL hdep => run_rows3 rfl (hV (IsB (encP (Cp.mul (wS (sha512 (((sha512 seed).drop 32) ++ l))).val base))) hG hdep hL 0) (hV (IsB (encP (Cp.mul (edA seed).val base))) hG hdep hL 1) (hV (IsB l) hG hdep hL 2)
  ·refine step_callP hs Wn rfl fun L u W hJ hG hL hdep K hK => ?_
   go_simp
   go_at_call 37
   (with_reducible refine (gRCat (l := ((encP (Cp.mul (wS (sha512 (((sha512 seed).drop 32) ++ l))).val base)) ++ ((encP (Cp.mul (edA seed).val base)) ++ l))) (holds_wld (φ := IsR [encP (Cp.mul (wS (sha512 (((sha512 seed).drop 32) ++ l))).val base), encP (Cp.mul (edA seed).val base), l]) (hG 3 (hdep 3 (by kernel_rfl))) rfl (till_some hL)) (by simp) (by have := HM.out; (repeat rw [List.length_append]); (repeat rw [encP_len]); (try rw [leB_len]); (try rw [List.length_drop, sha512_len]); omega)).mono ?_); rintro e w1 ⟨r, rfl, hr, hb⟩
   exact hK.out _ _ hr hb
  ·refine step_callP hs Wn rfl fun L u W hJ hG hL hdep K hK => ?_
   go_simp
   go_at_call 31
   (with_reducible refine (gRSum (holds_wld (φ := IsB ((encP (Cp.mul (wS (sha512 (((sha512 seed).drop 32) ++ l))).val base)) ++ ((encP (Cp.mul (edA seed).val base)) ++ l))) (hG 4 (hdep 4 (by kernel_rfl))) rfl (till_some hL)) (by have := HM.out; (repeat rw [List.length_append]); (repeat rw [encP_len]); (try rw [leB_len]); (try rw [List.length_drop, sha512_len]); omega)).mono ?_); rintro e w1 ⟨r, rfl, hr, hb⟩
   exact hK.out _ _ hr hb
  ·refine step_call hs Wn rfl fun L u W hJ hG hL hdep K hK => ?_
   go_simp
   go_at_call 34
   (with_reducible refine (gRWide (x := wS (sha512 ((encP (Cp.mul (wS (sha512 (((sha512 seed).drop 32) ++ l))).val base)) ++ ((encP (Cp.mul (edA seed).val base)) ++ l)))) rfl (holds_wld (φ := IsB (sha512 ((encP (Cp.mul (wS (sha512 (((sha512 seed).drop 32) ++ l))).val base)) ++ ((encP (Cp.mul (edA seed).val base)) ++ l)))) (hG 5 (hdep 5 (by kernel_rfl))) rfl (till_some hL))).mono ?_); rintro e w1 ⟨r, rfl, hr, hb⟩
   exact hK.out _ _ hr hb
  ·exact step_alloc hs Wn rfl rfl (by omega) rfl allocSc
  ·exact step_store 7 hs (by kernel_rfl) Wn rfl rfl rfl (by kernel_rfl) (by kernel_rfl) (by kernel_rfl) (by kernel_rfl) (fun _ => rfl) (gO 6) tySc rfl
 intro L6 u6 W6 hall hJ hG
 obtain ⟨q10, e10, hq10, _, ht10⟩ := oN 32 hG 7
 have hm10 := oS rC [wS (sha512 ((encP (Cp.mul (wS (sha512 (((sha512 seed).drop 32) ++ l))).val base)) ++ ((encP (Cp.mul (edA seed).val base)) ++ l)))] hG 8 e10
 have HD10_q6 := Lib.hid (show q6 ≠ q10 by have := there_lt ht6 (by omega); omega)
 have HD10_q8 := Lib.hid (show q8 ≠ q10 by have := there_lt ht8 (by omega); omega)
 have hq10 : w.heap.size ≤ q10 := by have := hbel0.size; omega
 have E10 := Lib.hid e10; clear e10
 have hb := hJ.all rfl
 have hbel := Below.call hbel hb
 have hm6 := hm6.later hb
 have hm8 := hm8.later hb
 have hw4 := (IsB []).st _ _ _ hw4 hb
 have hw5 := (IsB (sha512 seed)).st _ _ _ hw5 hb
 have hw7 := (IsB (encP (Cp.mul (edA seed).val base))).st _ _ _ hw7 hb
 have hw9 := (IsB (encP (Cp.mul (wS (sha512 (((sha512 seed).drop 32) ++ l))).val base))).st _ _ _ hw9 hb
 have hbel0 := hbel
 clear hJ hG hall hb
 go_upto_region 7 with fail
 refine rgM [(4, 9), (34, 0), (0, 1), (0, 2), (0, 3), (0, 4), (0, 5), (0, 6), (0, 7), (0, 8)] [.wld (IsB (encP (Cp.mul (wS (sha512 (((sha512 seed).drop 32) ++ l))).val base))) none, .val rC [wS (sha512 (((sha512 seed).drop 32) ++ l))], .val rC [wS (sha512 ((encP (Cp.mul (wS (sha512 (((sha512 seed).drop 32) ++ l))).val base)) ++ ((encP (Cp.mul (edA seed).val base)) ++ l)))], .val rC [edA seed], .val rC [dM (wS (sha512 ((encP (Cp.mul (wS (sha512 (((sha512 seed).drop 32) ++ l))).val base)) ++ ((encP (Cp.mul (edA seed).val base)) ++ l)))) (edA seed)], .val rC [dA (wS (sha512 (((sha512 seed).drop 32) ++ l))) (dM (wS (sha512 ((encP (Cp.mul (wS (sha512 (((sha512 seed).drop 32) ++ l))).val base)) ++ ((encP (Cp.mul (edA seed).val base)) ++ l)))) (edA seed))], .wld (IsB (leB 32 (dA (wS (sha512 (((sha512 seed).drop 32) ++ l))) (dM (wS (sha512 ((encP (Cp.mul (wS (sha512 (((sha512 seed).drop 32) ++ l))).val base)) ++ ((encP (Cp.mul (edA seed).val base)) ++ l)))) (edA seed))).val)) none, .wld (IsR [encP (Cp.mul (wS (sha512 (((sha512 seed).drop 32) ++ l))).val base), leB 32 (dA (wS (sha512 (((sha512 seed).drop 32) ++ l))) (dM (wS (sha512 ((encP (Cp.mul (wS (sha512 (((sha512 seed).drop 32) ++ l))).val base)) ++ ((encP (Cp.mul (edA seed).val base)) ++ l)))) (edA seed))).val]) none, .wld (IsB ((encP (Cp.mul (wS (sha512 (((sha512 seed).drop 32) ++ l))).val base)) ++ (leB 32 (dA (wS (sha512 (((sha512 seed).drop 32) ++ l))) (dM (wS (sha512 ((encP (Cp.mul (wS (sha512 (((sha512 seed).drop 32) ++ l))).val base)) ++ ((encP (Cp.mul (edA seed).val base)) ++ l)))) (edA seed))).val))) none, .wld (IsB ((encP (Cp.mul (wS (sha512 (((sha512 seed).drop 32) ++ l))).val base)) ++ (leB 32 (dA (wS (sha512 (((sha512 seed).drop 32) ++ l))) (dM (wS (sha512 ((encP (Cp.mul (wS (sha512 (((sha512 seed).drop 32) ++ l))).val base)) ++ ((encP (Cp.mul (edA seed).val base)) ++ l)))) (edA seed))).val))) none] ?_ ?_
 ·intro hs
  refine ⟨?_, ?_, ?_, ?_, ?_, ?_, ?_, ?_, ?_, ?_, trivial⟩
  ·exact step_runP hs Wn rfl fun L u W hJ hG hL hdep => run_moveP (.inl rfl) ((IsB (encP (Cp.mul (wS (sha512 (((sha512 seed).drop 32) ++ l))).val base))).st _ _ _ hw9 (hJ.all rfl))
  ·exact step_load q8 0 hs Wn rfl rfl tySc (fun _ => E8.out) hm8.lt hm8 Na
  ·exact step_load q10 0 hs Wn rfl rfl tySc (fun _ => E10.out) hm10.lt hm10 Na
  ·exact step_load q6 0 hs Wn rfl rfl tySc (fun _ => E6.out) hm6.lt hm6 Na
  ·refine step_call hs Wn rfl fun L u W hJ hG hL hdep K hK => ?_
   have a0 := (vE rC [wS (sha512 ((encP (Cp.mul (wS (sha512 (((sha512 seed).drop 32) ++ l))).val base)) ++ ((encP (Cp.mul (edA seed).val base)) ++ l)))] hG hdep 2)
   have a1 := (vE rC [edA seed] hG hdep 3)
   go_simp
   go_at_call 39
   (with_reducible refine (kScMul a0 a1 _).mono ?_); rintro e w1 ⟨r, rfl, hr, hb⟩
   exact hK.out _ _ hr hb
  ·refine step_call hs Wn rfl fun L u W hJ hG hL hdep K hK => ?_
   have a0 := (vE rC [wS (sha512 (((sha512 seed).drop 32) ++ l))] hG hdep 1)
   have a1 := (vE rC [dM (wS (sha512 ((encP (Cp.mul (wS (sha512 (((sha512 seed).drop 32) ++ l))).val base)) ++ ((encP (Cp.mul (edA seed).val base)) ++ l)))) (edA seed)] hG hdep 4)
   go_simp
   go_at_call 38
   (with_reducible refine (kScAdd a0 a1 _).mono ?_); rintro e w1 ⟨r, rfl, hr, hb⟩
   exact hK.out _ _ hr hb
  ·refine step_callP hs Wn rfl fun L u W hJ hG hL hdep K hK => ?_
   have a0 := (vE rC [dA (wS (sha512 (((sha512 seed).drop 32) ++ l))) (dM (wS (sha512 ((encP (Cp.mul (wS (sha512 (((sha512 seed).drop 32) ++ l))).val base)) ++ ((encP (Cp.mul (edA seed).val base)) ++ l)))) (edA seed))] hG hdep 5)
   go_simp
   go_at_call 40
   (with_reducible refine (gRScBytes a0 _).mono ?_); rintro e w1 ⟨r, rfl, hr, hb⟩
   exact hK.out _ _ hr hb
  ·exact step_runP hs Wn rfl fun L u W hJ hG hL hdep => run_rows2 rfl (hW (IsB (encP (Cp.mul (wS (sha512 (((sha512 seed).drop 32) ++ l))).val base))) hG hdep 0) (hW (IsB (leB 32 (dA (wS (sha512 (((sha512 seed).drop 32) ++ l))) (dM (wS (sha512 ((encP (Cp.mul (wS (sha512 (((sha512 seed).drop 32) ++ l))).val base)) ++ ((encP (Cp.mul (edA seed).val base)) ++ l)))) (edA seed))).val)) hG hdep 6)
  ·refine step_callP hs Wn rfl fun L u W hJ hG hL hdep K hK => ?_
   go_simp
   go_at_call 37
   (with_reducible refine (gRCat (l := ((encP (Cp.mul (wS (sha512 (((sha512 seed).drop 32) ++ l))).val base)) ++ (leB 32 (dA (wS (sha512 (((sha512 seed).drop 32) ++ l))) (dM (wS (sha512 ((encP (Cp.mul (wS (sha512 (((sha512 seed).drop 32) ++ l))).val base)) ++ ((encP (Cp.mul (edA seed).val base)) ++ l)))) (edA seed))).val))) (holds_wld (φ := IsR [encP (Cp.mul (wS (sha512 (((sha512 seed).drop 32) ++ l))).val base), leB 32 (dA (wS (sha512 (((sha512 seed).drop 32) ++ l))) (dM (wS (sha512 ((encP (Cp.mul (wS (sha512 (((sha512 seed).drop 32) ++ l))).val base)) ++ ((encP (Cp.mul (edA seed).val base)) ++ l)))) (edA seed))).val]) (hG 7 (hdep 7 (by kernel_rfl))) rfl till_none) (by simp) (by have := HM.out; (repeat rw [List.length_append]); (repeat rw [encP_len]); (try rw [leB_len]); (try rw [List.length_drop, sha512_len]); omega)).mono ?_); rintro e w1 ⟨r, rfl, hr, hb⟩
   exact hK.out _ _ hr hb
  ·exact step_runP hs Wn rfl fun L u W hJ hG hL hdep => run_moveP (.inr rfl) (hW (IsB ((encP (Cp.mul (wS (sha512 (((sha512 seed).drop 32) ++ l))).val base)) ++ (leB 32 (dA (wS (sha512 (((sha512 seed).drop 32) ++ l))) (dM (wS (sha512 ((encP (Cp.mul (wS (sha512 (((sha512 seed).drop 32) ++ l))).val base)) ++ ((encP (Cp.mul (edA seed).val base)) ++ l)))) (edA seed))).val))) hG hdep 8)
 intro L7 u7 W7 hall hJ hG
 have hb := hJ.all rfl
 have hbel := Below.call hbel hb
 have hw4 := (IsB []).st _ _ _ hw4 hb
 have hw5 := (IsB (sha512 seed)).st _ _ _ hw5 hb
 have hw7 := (IsB (encP (Cp.mul (edA seed).val base))).st _ _ _ hw7 hb
 have hw9 := (IsB (encP (Cp.mul (wS (sha512 (((sha512 seed).drop 32) ++ l))).val base))).st _ _ _ hw9 hb
 have hw4 := oW (IsB ((encP (Cp.mul (wS (sha512 (((sha512 seed).drop 32) ++ l))).val base)) ++ (leB 32 (dA (wS (sha512 (((sha512 seed).drop 32) ++ l))) (dM (wS (sha512 ((encP (Cp.mul (wS (sha512 (((sha512 seed).drop 32) ++ l))).val base)) ++ ((encP (Cp.mul (edA seed).val base)) ++ l)))) (edA seed))).val))) hG 9
 have hbel0 := hbel
 clear hJ hG hall hb
 go_wp2
 go_ret
 exact ⟨_, rfl, hw4, hbel⟩
end Go.Proofs.YtielgpefoameiaaGreat
