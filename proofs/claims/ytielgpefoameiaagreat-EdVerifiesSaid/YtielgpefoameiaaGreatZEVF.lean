/- What EV rests on, part 6 of 6: my own texts, put together (merge.py). -/
import Derived.Deep.RegionHeld3
import Derived.WalkKit
import Derived.ProofKit
import Derived.Lib.Hide
import Derived.OpenShut
import Derived.Deep.MidRow
import Derived.Test.YtielgpefoameiaaGreatRows
import Derived.WalkSpells
import Derived.StillTactics
import Derived.Laws.Pointers
import Derived.Laws.CopyOwn
import Derived.Laws.AppendOwnNone
import Derived.RowKit3
import Derived.BigQuiet
import Derived.Deep.QuietTactic
import Derived.Deep.LoopGhost
import Derived.Deep.DeepFit
import Derived.WalkLawsBesides
import Derived.Shelf.Spec.BitsCarry
import Derived.Laws.IdiomStrings
import Derived.Deep.WholeRow
import Derived.Laws.Rows
import Derived.Deep.DeepCutAuto
import Derived.Lib.AppendZerosOnto
import Derived.Lib.SliceRun
import Derived.Deep.Matrix
import Derived.Deep.AppendLies
import Derived.ShutString
import Derived.ChangeOld
import Derived.Test.YtielgpefoameiaaGreatZEVE
set_option maxRecDepth 100000
namespace Go.Proofs.YtielgpefoameiaaGreat
open Go Go.RowKit
set_option maxHeartbeats 4000000 in
theorem rrounds_any (w : World) :
  Calls Tryz.prog 72 #[] w fun e w' => ∃ r, e = .returned r ∧ IsFs rW80 r [kTab] ∧ Below w.heap.size w w' := by
 go_enter Tryz.func72, Tryz.ntmps72
 have hbel : Below w.heap.size w w := Below.refl _ _
 have hbel0 := hbel
 go_upto_region 0 with fail
 refine rgT [(0, 0)] [.new 80] ?_ ?_
 ·intro hs
  refine ⟨?_, trivial⟩
  ·exact step_alloc hs Wn rfl rfl (by omega) rfl alloca80
 intro L0 u0 W0 hall hJ hG
 obtain ⟨q0, e0, hq0, _, ht0⟩ := oN 80 hG 0
 have hq0 : w.heap.size ≤ q0 := by have := hbel0.size; omega
 have E0 := Lib.hid e0; clear e0
 have hb := hJ.all rfl
 have hbel := Below.call hbel hb
 have hbel0 := hbel
 clear hJ hG hall hb
 go_upto_region 1 with fail
 refine rgT [(1, 0)] [.val rW80 [kTab], .sto q0 rW80 [kTab]] ?_ ?_
 ·intro hs
  refine ⟨?_, ?_, trivial⟩
  ·exact step_pure hs Wn rfl fun L u W hG hdep => kt_build rfl
  ·refine step_storeO q0 80 hs Wn rfl rfl (by kernel_rfl) (fun k hk => ?_) (fun _ => E0.out) (there_lt ht0 (by omega)) ht0 (gO 0) tya80 rfl
   rcases k with _ | _ | k
   all_goals first | (exact absurd rfl hk) | (intro e; cases e; done)
 intro L1 u1 W1 hall hJ hG
 have hb := hJ.beN hbel
 have hbel := hbel.trans hb
 obtain ⟨_, hs1_1t, hs1_1⟩ := oT 80 rW80 [kTab] hG 1
 have hbel0 := hbel
 clear hJ hG hall hb
 go_wp2
 exact ret_cell1 (R := rW80) Tryz.results72 (by exact E0.out) hs1_1 tya80 rfl (fun r hr => ⟨r, rfl, hr, hbel⟩)
set_option maxHeartbeats 4000000 in
theorem rstart_any (w : World) :
  Calls Tryz.prog 73 #[] w fun e w' => ∃ r, e = .returned r ∧ IsFs rW8 r [hTab] ∧ Below w.heap.size w w' := by
 go_enter Tryz.func73, Tryz.ntmps73
 have hbel : Below w.heap.size w w := Below.refl _ _
 have hbel0 := hbel
 go_upto_region 0 with fail
 refine rgT [(0, 0)] [.new 8] ?_ ?_
 ·intro hs
  refine ⟨?_, trivial⟩
  ·exact step_alloc hs Wn rfl rfl (by omega) rfl alloca8
 intro L0 u0 W0 hall hJ hG
 obtain ⟨q0, e0, hq0, _, ht0⟩ := oN 8 hG 0
 have hq0 : w.heap.size ≤ q0 := by have := hbel0.size; omega
 have E0 := Lib.hid e0; clear e0
 have hb := hJ.all rfl
 have hbel := Below.call hbel hb
 have hbel0 := hbel
 clear hJ hG hall hb
 go_upto_region 1 with fail
 refine rgT [(1, 0)] [.val rW8 [hTab], .sto q0 rW8 [hTab]] ?_ ?_
 ·intro hs
  refine ⟨?_, ?_, trivial⟩
  ·exact step_pure hs Wn rfl fun L u W hG hdep => ht_build rfl
  ·refine step_storeO q0 8 hs Wn rfl rfl (by kernel_rfl) (fun k hk => ?_) (fun _ => E0.out) (there_lt ht0 (by omega)) ht0 (gO 0) tya8 rfl
   rcases k with _ | _ | k
   all_goals first | (exact absurd rfl hk) | (intro e; cases e; done)
 intro L1 u1 W1 hall hJ hG
 have hb := hJ.beN hbel
 have hbel := hbel.trans hb
 obtain ⟨_, hs1_1t, hs1_1⟩ := oT 8 rW8 [hTab] hG 1
 have hbel0 := hbel
 clear hJ hG hall hb
 go_wp2
 exact ret_cell1 (R := rW8) Tryz.results73 (by exact E0.out) hs1_1 tya8 rfl (fun r hr => ⟨r, rfl, hr, hbel⟩)
theorem pad_rel {n K j : Nat} (hK : K = (240 - (n + 1) % 128) % 128) (hj : j ≤ K) : ((n + 1 + j) % 128 = 112 ↔ j = K) := by omega
theorem rd_cut {W : World} {g A m c : Nat} {P : List UInt8} {r : List Value} (hB : Blk W g (P.map bV ++ r) 5) (h : A + m ≤ P.length) (hc : m ≤ c) (hm : c ≤ maxLen) : RdB W (some ⟨g, A, none⟩) m c ((P.drop A).take m) := by
 refine ⟨by rw [List.length_take, List.length_drop]; omega, hc, hm, fun j hj => ⟨g, A, rfl, ?_⟩, fun h => by cases h⟩
 have hj2 := hj
 rw [List.length_take, List.length_drop] at hj2
 rw [hB.cell, List.getElem?_append_left (by rw [List.length_map]; omega), List.getElem?_map, List.getElem?_eq_getElem (by omega), List.getElem_take, List.getElem_drop]; rfl
set_option maxHeartbeats 8000000 in
theorem rsum512_walk {a : Option Addr} {n cap M : Nat} {l P : List UInt8} {w : World} (h : RdB w a n cap l) (hs : n ≤ 1000000) (hP : padB l = P) (hM : P.length = 128 * M) (hM0 : 0 < M) (hM1 : M ≤ 10000) :
  Calls Tryz.prog 31 #[.slice a n cap] w (NewB w (outK (hSt P M) 8)) := by
 have HS := Lib.hid hs
 have HR := Lib.hid h
 have HL := Lib.hid h.hlen
 obtain ⟨K, hK⟩ : ∃ K : Nat, K = (240 - (n + 1) % 128) % 128 := ⟨_, rfl⟩
 have HKM : Hid (n + 1 + K + 8 + 8 = 128 * M) := Lib.hid (by rw [← hM, ← hP, padB_len, h.hlen, hK])
 have HK := Lib.hid hK
 have e8 : IntKind.u64.wrap ((n : Int) * 8) = (((UInt64.ofNat (8 * n)).toNat : Nat) : Int) := by rw [IntKind.wrap_u64, UInt64.toNat_ofNat']; omega
 have e9 : IntKind.u64.wrap (n : Int) = (n : Int) := by rw [IntKind.wrap_u64]; omega
 have HP : Hid ((l ++ [128] ++ List.replicate K 0 ++ List.replicate 8 0 ++ be8 (UInt64.ofNat (8 * n))) = P) := Lib.hid (by rw [← hP]; unfold padB; rw [h.hlen, ← hK]; simp)
 have HM := Lib.hid hM; have HM0 := Lib.hid hM0; have HM1 := Lib.hid hM1
 clear h hs hP hM hM0 hM1 hK
 generalize UInt64.ofNat (8 * n) = X at *
 go_enter Tryz.func31, Tryz.ntmps31
 have hbel : Below w.heap.size w w := Below.refl _ _
 have hbel0 := hbel
 go_upto_region 0 with fail
 refine rgT [(2, 0)] [.wld (IsB []) none] ?_ ?_
 ·intro hs
  refine ⟨?_, trivial⟩
  ·exact step_runP hs Wn rfl fun L u W hJ hG hL hdep => run_moveP (.inr rfl) (IsB.nil W)
 intro L0 u0z W0z hall hJ hG
 have hb := hJ.all rfl
 have hbel := Below.call hbel hb
 have hw2z := oW (IsB []) hG 0
 have hbel0 := hbel
 clear hJ hG hall hb
 go_upto_region 1 with fail
 refine rgT [(3, 1), (17, 0)] [.val rW80 [kTab], .new 80, .st 1 rW80 [kTab]] ?_ ?_
 ·intro hs
  refine ⟨?_, ?_, ?_, trivial⟩
  ·refine step_call hs Wn rfl fun L u W hJ hG hL hdep K hK => ?_
   go_simp
   go_at_call 72
   (with_reducible refine (rrounds_any _).mono ?_); rintro e w1 ⟨r, rfl, hr, hb⟩
   exact hK.out _ _ hr hb
  ·exact step_alloc hs Wn rfl rfl (by omega) rfl alloca80
  ·exact step_store 1 hs (by kernel_rfl) Wn rfl rfl rfl (by kernel_rfl) (by kernel_rfl) (by kernel_rfl) (by kernel_rfl) (fun _ => rfl) (gO 0) tya80 rfl
 intro L1 u1z W1z hall hJ hG
 obtain ⟨q3, e3, hq3, _, ht3⟩ := oN 80 hG 1
 have hm3 := oS rW80 [kTab] hG 2 e3
 have hq3 : w.heap.size ≤ q3 := by have := hbel0.size; omega
 have E3 := Lib.hid e3; clear e3
 have hb := hJ.all rfl
 have hbel := Below.call hbel hb
 have hw2z := (IsB []).st _ _ _ hw2z hb
 have hbel0 := hbel
 clear hJ hG hall hb
 go_upto_region 2 with fail
 refine rgT [(4, 1), (17, 0)] [.val rW8 [hTab], .new 8, .st 1 rW8 [hTab]] ?_ ?_
 ·intro hs
  refine ⟨?_, ?_, ?_, trivial⟩
  ·refine step_call hs Wn rfl fun L u W hJ hG hL hdep K hK => ?_
   go_simp
   go_at_call 73
   (with_reducible refine (rstart_any _).mono ?_); rintro e w1 ⟨r, rfl, hr, hb⟩
   exact hK.out _ _ hr hb
  ·exact step_alloc hs Wn rfl rfl (by omega) rfl alloca8
  ·exact step_store 1 hs (by kernel_rfl) Wn rfl rfl rfl (by kernel_rfl) (by kernel_rfl) (by kernel_rfl) (by kernel_rfl) (fun _ => rfl) (gO 0) tya8 rfl
 intro L2 u2z W2z hall hJ hG
 obtain ⟨q4, e4, hq4, _, ht4⟩ := oN 8 hG 1
 have hm4 := oS rW8 [hTab] hG 2 e4
 have HD4_q3 := Lib.hid (show q3 ≠ q4 by have := there_lt ht3 (by omega); omega)
 have hq4 : w.heap.size ≤ q4 := by have := hbel0.size; omega
 have E4 := Lib.hid e4; clear e4
 have hb := hJ.all rfl
 have hbel := Below.call hbel hb
 have hm3 := hm3.later hb
 have ht3 := there_later ht3 hb
 have hw2z := (IsB []).st _ _ _ hw2z hb
 have hbel0 := hbel
 clear hJ hG hall hb
 have HLT3 := Lib.hid hm3.lt; have HLT4 := Lib.hid hm4.lt
 have hn0 : (0 : Int) ≤ (n : Int) := by omega
 have hn1 : (n : Int) ≤ 1000000 := by have := HS.out; omega
 have HAB := Lib.hid hbel
 have HA := Lib.hid hbel.size
 have hRA := Lib.hid (HR.out.below hbel)
 clear hbel hbel0
 go_upto_region 4 with (at_builtin; first
  | (refine app_bytes _ rfl (.tmp 23) (.tmp 24) rfl W2z.heap.size _ 0 [] rfl (own_none W2z 5 W2z.heap.size (Nat.le_refl _)) _ _ _ l rfl (by exact hRA.out.below belowBy) (by have := HS.out; omega) (by simp) W2z (by exact belowBy) ?_; intro v1 w1 ho hb1; rw [Nat.zero_add, List.nil_append] at ho; have HO := Lib.hid ho; clear ho)
  | go_must (refine app_bytes _ rfl (.tmp 25) (.tmp 26) rfl W2z.heap.size _ n l rfl (HO.out.alloc _) _ 1 1 [128] rfl (RdB.blk (g := w1.heap.size) [] (Blk.new w1 #[.int .u8 128] 5) rfl (by omega) (by unfold maxLen; omega)) (by have := HS.out; omega) (by have := hb1.size; simp; omega) W2z (by exact belowBy) ?_; intro v2 w2 ho hb2; have HO1 := Lib.hid ho; clear ho))
 clear hb1 HO
 go_loopw [5] (fun b wr => ∃ j : Nat, j ≤ K ∧ wr.ownsRow W2z.heap.size 5 1 b (n + 1 + j) ((l ++ [128] ++ List.replicate j 0).map bV) ∧ Below W2z.heap.size W2z wr) (fun b _ => match b with | .slice _ m _ => n + 1 + K - m | _ => 0)
 case atStart => exact ⟨0, by omega, by simpa using HO1.out, hb2⟩
 case round =>
  obtain ⟨j, hj, ho, hbr⟩ := hrel
  clear HO1 hb2
  have hrel2 := pad_rel HK.out hj
  rcases ho.2 with ⟨_, h0⟩ | ⟨g0, c0, cur0, rfl, hr0⟩
  ·omega
  clear hr0
  have hjn : (0 : Int) ≤ (j : Int) := by omega
  have hjm : (j : Int) < 128 := by have := HK.out; omega
  obtain ⟨m, hm⟩ : ∃ m : Nat, m = n + 1 + j := ⟨_, rfl⟩
  rw [← hm] at ho hrel2 ⊢
  have HO2 := Lib.hid ho; have HB2 := Lib.hid hbr
  clear ho hbr
  have hm0 : (0 : Int) ≤ (m : Int) := by omega
  have hm1 : (m : Int) ≤ 1000129 := by omega
  by_cases hlt : j < K
  ·have hd : ((m : Int) % 128 != 112) = true := by simp; omega
   have HLT := Lib.hid hlt; have HMM := Lib.hid hm
   clear hlt hrel2 hj hm
   go_wp2_with (at_builtin; go_must (refine app_bytes _ rfl (.tmp 32) (.tmp 33) rfl W2z.heap.size _ m (l ++ [128] ++ List.replicate j 0) rfl (HO2.out.alloc _) _ 1 1 [0] rfl (RdB.blk (g := wr.heap.size) [] (Blk.new wr #[.int .u8 0] 5) rfl (by omega) (by unfold maxLen; omega)) (by omega) (by have := HB2.out.size; simp; omega) W2z (by have hbz := HB2.out; exact belowBy) ?_; intro v3 w3 ho hb3; have HO3 := Lib.hid ho; clear ho))
   rcases HO3.out.2 with ⟨_, h0⟩ | ⟨g1, c1, cur1, rfl, hr1⟩
   ·omega
   clear hr1
   go_roundw
   case rel => exact ⟨j + 1, by have := HLT.out; omega, by have h9 := HO3.out; rw [List.replicate_succ', ← List.append_assoc, show n + 1 + (j + 1) = m + 1 by have := HMM.out; omega]; exact h9, hb3⟩
   case measure => have := HMM.out; have := HLT.out; show n + 1 + K - (m + 1) < n + 1 + K - m; omega
  ·obtain rfl : j = K := by omega
   have hd : ((m : Int) % 128 != 112) = false := by simp; omega
   have HMM := Lib.hid hm
   clear hlt hrel2 hj hm
   go_upto_region 7 with (first
    | (go_at_call 74; go_must (refine (rbig_any (x := X) _).mono ?_; rintro e w5 ⟨rfl, hB, hb⟩; have hb5 := Below.call hb4 hb; have HO4 := Lib.hid (own_below HO3.out hb); have HBX := Lib.hid (RdB.blk (n := 8) (cap := 8) (l := be8 X) [] (by rw [List.append_nil]; exact hB) (be8_len _) (by omega) (by unfold maxLen; omega)); clear hB hb))
    | (at_builtin; first
     | (refine app_zeros _ rfl (.tmp 35) (.const (.int .i64 8)) rfl W2z.heap.size _ m (l ++ [128] ++ List.replicate j 0) rfl HO2.out 8 rfl (by omega) HB2.out.size W2z HB2.out ?_; intro v3 w4 ho hb4; have HO3 := Lib.hid ho; clear ho)
     | go_must (refine app_bytes _ rfl (.tmp 36) (.tmp 41) rfl W2z.heap.size _ (m + 8) (l ++ [128] ++ List.replicate j 0 ++ List.replicate 8 0) rfl HO4.out _ 8 8 (be8 X) rfl HBX.out (by omega) hb5.size W2z hb5 ?_; intro v4 w6 ho hb6; have HO5 := Lib.hid ho; clear ho)))
   obtain ⟨ML, hML⟩ : ∃ ML : Nat, ML = 128 * M := ⟨_, rfl⟩
   have hmm : m + 8 + 8 = ML := by have := HKM.out; have := HMM.out; omega
   have ho5 := HO5.out
   rw [hmm, HP.out] at ho5
   obtain ⟨g5, c5, r5, rfl, hg5, hB5, _, hc5, hm5⟩ := own_rdb ho5 (by omega)
   have HB := Lib.hid hB5; have HML := Lib.hid hML; have HC5 := Lib.hid hc5; have HM5 := Lib.hid hm5
   have HPL : Hid (P.length = ML) := Lib.hid (by rw [HM.out, hML])
   clear ho5 hB5 hc5 hm5 hmm hML HO5 hb5 hb4 HO3 HO4 HBX HO2 HB2
   have hm3 := hm3.later hb6
   have hm4 := hm4.later hb6
   have ht3 := there_later ht3 hb6
   have ht4 := there_later ht4 hb6
   have hbel : Below w.heap.size w w6 := Below.call HAB.out hb6
   have HG5 : Hid (W2z.heap.size ≤ g5) := Lib.hid hg5
   have HN3 : Hid (q3 ≠ g5) := Lib.hid (by have := HLT3.out; omega)
   have HN4 : Hid (q4 ≠ g5) := Lib.hid (by have := HLT4.out; omega)
   clear hb6 hg5
   have hi0 : (0 : Int) ≤ (ML : Int) := by omega
   go_wp2_with fail
   go_loopw [6] (fun sk wr => ∃ i AT : Nat, i ≤ M ∧ AT = 128 * i ∧ sk = .int .i64 (AT : Int) ∧ HasFs rW80 wr q3 0 [kTab] ∧ wr.there q3 0 80 ∧ HasFs rW8 wr q4 0 [hSt P i] ∧ wr.there q4 0 8 ∧ Blk wr g5 (P.map bV ++ r5) 5 ∧ Below w.heap.size w wr) (fun x _ => ML - (intOf x).toNat)
   case atStart => exact ⟨0, 0, by omega, rfl, rfl, hm3, ht3, hm4, ht4, HB.out, hbel⟩
   case round =>
    obtain ⟨i, AT, hi, hat, rfl, hmO3, htO3, hmO4, htO4, hB', hbel'⟩ := hrel
    clear hm3 hm4 ht3 ht4 hbel HB
    have hbel := hbel'
    have hbel0 := hbel'
    have HB := Lib.hid hB'
    clear hB'
    have HAT := Lib.hid hat
    by_cases hlt : i < M
    ·have hml := HML.out
     have hdo : decide (AT < ML) = true := decide_eq_true (by omega)
     have HI := Lib.hid hlt
     have hml1 : (ML : Int) ≤ 1280000 := by have := HM1.out; omega
     have hsp : AT + 128 ≤ ML := by omega
     have HSP := Lib.hid hsp
     clear hat hi hlt hml hsp
     go_upto_region 10 with fail
     clear hdo
     refine rgT [(7, 0)] [.box rW80 [(List.replicate 80 0)]] ?_ ?_
     ·intro hs
      refine ⟨?_, trivial⟩
      ·exact step_allocZ hs Wn rfl rfl zero80 alloca80
     intro L10 u10z W10z hall hJ hG
     obtain ⟨q7, e7, ⟨hq7, _⟩, ht7, hm7⟩ := oB 80 rW80 [(List.replicate 80 0)] hG 0
     have HD7_q3 := Lib.hid (show q3 ≠ q7 by have := there_lt htO3 (by omega); omega)
     have HD7_q4 := Lib.hid (show q4 ≠ q7 by have := there_lt htO4 (by omega); omega)
     have HD7_g5 := Lib.hid (show g5 ≠ q7 by have := HB.out.lt; omega)
     have hq7 : w.heap.size ≤ q7 := by have := hbel0.size; omega
     have E7 := Lib.hid e7; clear e7
     have hb := hJ.all rfl
     have hbel := Below.call hbel hb
     have hmO3 := hmO3.later hb
     have hmO4 := hmO4.later hb
     have htO3 := there_later htO3 hb
     have htO4 := there_later htO4 hb
     have HB := Lib.hid (HB.out.below' hb)
     have hbel0 := hbel
     clear hJ hG hall hb
     go_wp2_with fail
     go_loopw [8] (fun sk wr => ∃ t : Nat, t ≤ 16 ∧ sk = .int .i64 (t : Int) ∧ HasFs rW80 wr q3 0 [kTab] ∧ wr.there q3 0 80 ∧ HasFs rW8 wr q4 0 [hSt P i] ∧ wr.there q4 0 8 ∧ HasFs rW80 wr q7 0 [wP (words (P.drop AT)) t] ∧ wr.there q7 0 80 ∧ Blk wr g5 (P.map bV ++ r5) 5 ∧ Below w.heap.size w wr) (fun x _ => 16 - (intOf x).toNat)
     case atStart => exact ⟨0, by omega, rfl, hmO3, htO3, hmO4, htO4, (by rw [wP_zero]; exact hm7), ht7, HB.out, hbel⟩
     case round =>
      obtain ⟨t, ht, rfl, hmL3, htL3, hmL4, htL4, hmL7, htL7, hB', hbel'⟩ := hrel
      clear hm7 hmO3 hmO4 ht7 htO3 htO4 hbel hbel0 HB
      have hbel := hbel'
      have hbel0 := hbel'
      have HB := Lib.hid hB'
      clear hB'
      by_cases hlt : t < 16
      ·have hd1 : decide ((t : Int) < 16) = true := decide_eq_true (by omega)
       have HLT := Lib.hid hlt
       obtain ⟨x, hx⟩ : ∃ x, beW (first (((P.drop AT).drop (8 * t)).take 8) 8) = x := ⟨_, rfl⟩
       have HX := Lib.hid hx
       have hsp := HSP.out; have hml1 : ML ≤ 1280000 := by have := HML.out; have := HM1.out; omega
       have hA8 : AT + 8 * t + 8 ≤ ML := by omega
       have HXS : Hid ((if t < 16 then at0 (words (P.drop AT)) t else wNext (wL (words (P.drop AT)) t) t) = x) := Lib.hid (by rw [if_pos hlt]; unfold words; rw [at0_map hlt, ← hx, first_take (by rw [List.length_take, List.length_drop, List.length_drop, HPL.out]; omega), List.take_take]; rfl)
       have HA8 := Lib.hid hA8
       have hc5 := HC5.out; have hm5 := HM5.out
       unfold maxLen at hm5
       clear hx hlt hsp
       go_upto_region 14 with fail
       clear hd1
       refine rgT [(53, 0), (0, 1), (0, 2), (0, 3), (0, 4), (0, 5), (0, 6), (0, 7), (0, 8), (0, 9), (0, 10), (0, 11), (0, 12), (0, 13)] [.oth (fun v => v = .int .i64 (t : Int)), .oth (fun v => v = .slice (some ⟨g5, 0, none⟩) ML c5), .oth (fun v => v = .int .i64 (AT : Int)), .oth (fun v => v = .int .i64 (t : Int)), .oth (fun v => v = .int .i64 ((8 * t : Nat) : Int)), .oth (fun v => v = .int .i64 ((AT + 8 * t : Nat) : Int)), .oth (fun v => v = .int .i64 (AT : Int)), .oth (fun v => v = .int .i64 (t : Int)), .oth (fun v => v = .int .i64 ((8 * t : Nat) : Int)), .oth (fun v => v = .int .i64 ((AT + 8 * t : Nat) : Int)), .oth (fun v => v = .int .i64 ((AT + 8 * t + 8 : Nat) : Int)), .oth (fun v => v = .slice (some ⟨g5, AT + 8 * t, none⟩) 8 (c5 - (AT + 8 * t))), .oth (fun v => v = .int .u64 ((x).toNat : Int)), .oth (fun v => v = .pointer (some ⟨q7, t, none⟩)), .cst q7 t (.int .u64 ((x).toNat : Int))] ?_ ?_
       ·intro hs
        refine ⟨?_, ?_, ?_, ?_, ?_, ?_, ?_, ?_, ?_, ?_, ?_, ?_, ?_, ?_, ?_, trivial⟩
        ·exact mvK hs fun _ => rfl
        ·exact mvK hs fun _ => rfl
        ·exact mvK hs fun _ => rfl
        ·exact mvK hs fun _ => rfl
        ·refine step_pureO hs Wn rfl fun L u W hG hdep => ⟨_, ?_, rfl⟩
         have e0 := (oE (.int .i64 (t : Int)) hG hdep 3)
         go_simp
         try (rw [IntKind.wrap_i64]; omega)
        ·refine step_pureO hs Wn rfl fun L u W hG hdep => ⟨_, ?_, rfl⟩
         have e0 := (oE (.int .i64 (AT : Int)) hG hdep 2)
         have e1 := (oE (.int .i64 ((8 * t : Nat) : Int)) hG hdep 4)
         go_simp
         try (rw [IntKind.wrap_i64]; omega)
        ·exact mvK hs fun _ => rfl
        ·exact mvK hs fun _ => rfl
        ·refine step_pureO hs Wn rfl fun L u W hG hdep => ⟨_, ?_, rfl⟩
         have e0 := (oE (.int .i64 (t : Int)) hG hdep 7)
         go_simp
         try (rw [IntKind.wrap_i64]; omega)
        ·refine step_pureO hs Wn rfl fun L u W hG hdep => ⟨_, ?_, rfl⟩
         have e0 := (oE (.int .i64 (AT : Int)) hG hdep 6)
         have e1 := (oE (.int .i64 ((8 * t : Nat) : Int)) hG hdep 8)
         go_simp
         try (rw [IntKind.wrap_i64]; omega)
        ·refine step_pureO hs Wn rfl fun L u W hG hdep => ⟨_, ?_, rfl⟩
         have e0 := (oE (.int .i64 ((AT + 8 * t : Nat) : Int)) hG hdep 9)
         go_simp
         try (rw [IntKind.wrap_i64]; omega)
        ·refine step_pureO hs Wn rfl fun L u W hG hdep => ⟨_, ?_, rfl⟩
         have e0 := (oE (.slice (some ⟨g5, 0, none⟩) ML c5) hG hdep 1)
         have e1 := (oE (.int .i64 ((AT + 8 * t : Nat) : Int)) hG hdep 5)
         have e2 := (oE (.int .i64 ((AT + 8 * t + 8 : Nat) : Int)) hG hdep 10)
         have h8 := HA8.out
         go_simp
         repeat rw [if_pos (by omega)]
         try rw [if_neg (by omega)]
         try rw [show ((AT : Int) + 8 * (t : Int)).toNat = AT + 8 * t by omega]
         try rw [show ((AT : Int) + 8 * (t : Int) + 8).toNat - (AT + 8 * t) = 8 by omega]
         try rfl
        ·refine step_callO hs Wn rfl fun L u W hJ hG hL hdep K hK => ?_
         have x0 := (oE (.slice (some ⟨g5, AT + 8 * t, none⟩) 8 (c5 - (AT + 8 * t))) hG hdep 11)
         have hRB0 := (by have h9 := rd_cut (A := AT + 8 * t) (m := 8) (c := c5 - (AT + 8 * t)) (blk_keep HB.out (hJ.block _ HB.out.lt (fun k hk => by rcases k with _ | _ | _ | _ | _ | _ | _ | _ | _ | _ | _ | _ | _ | _ | _ | k <;> first | (cases hk; done) | (cases hk; exact absurd rfl (Ne.symm HD7_g5.out))))) (by have := HPL.out; have := HA8.out; omega) (by have := HA8.out; have := HC5.out; omega) (by have := HM5.out; omega); rw [← List.drop_drop] at h9; exact h9)
         go_simp
         go_at_call 75
         (with_reducible refine (rgetbig_any hRB0 HX.out).mono ?_); rintro e w1 ⟨rfl, hb⟩
         have hk := hK.out _ _ rfl hb
         simp only [x0] at hk
         exact hk
        ·refine step_pureO hs Wn rfl fun L u W hG hdep => ⟨_, ?_, rfl⟩
         have e0 := E7.out
         have e1 := (oE (.int .i64 (t : Int)) hG hdep 0)
         have hltx := HLT.out
         go_simp
         try rw [if_pos (by omega)]
         try rw [show ((t : Nat) : Int).toNat = t by omega]
         try omega
        ·refine step_cst (old := .int .u64 ((at0 (wP (words (P.drop AT)) t) t).toNat : Int)) q7 t hs Wn rfl rfl (by kernel_rfl) (fun k hk => ?_) (fun _ h1 h2 => store_u64 h1 h2) (fun L u W hG hdep => (oE (.pointer (some ⟨q7, t, none⟩)) hG hdep 13)) (fun L u W hG hdep => (oE (.int .u64 ((x).toNat : Int)) hG hdep 12)) (HasFs.cellW hmL7 (by have := HLT.out; omega) rfl) (there_frozen htL7 (by have := HLT.out; omega))
         rcases k with _ | _ | _ | _ | _ | _ | _ | _ | _ | _ | _ | _ | _ | _ | _ | k
         all_goals first | (exact absurd rfl hk) | (intro e; cases e; done)
       intro L14 u14z W14z hall hJ hG
       have hb := hJ.beN hbel
       have hbel := hbel.trans hb
       have hmL3 := kC hmL3 hJ HD7_q3.out
       have hmL4 := kC hmL4 hJ HD7_q4.out
       have hmL7 : HasFs rW80 W14z q7 0 [wP (words (P.drop AT)) (t + 1)] := by
        have z := (hmL7.setW htL7 (by have := HLT.out; omega) x).blk (show _ ∧ W14z.heap[q7]? = (wr.setCell ⟨q7, t, none⟩ (.int .u64 ((x).toNat : Int))).heap[q7]? from hG 14 (by simp)).2
        rw [wP_set (by have := HLT.out; omega) HXS.out] at z
        exact z
       have htL3 := tC htL3 hJ HD7_q3.out
       have htL4 := tC htL4 hJ HD7_q4.out
       have htL7 := there_blk (there_set (b := q7) (k := t) (v := .int .u64 ((x).toNat : Int)) htL7) (show _ ∧ W14z.heap[q7]? = (wr.setCell ⟨q7, t, none⟩ (.int .u64 ((x).toNat : Int))).heap[q7]? from hG 14 (by simp)).2
       have HB := Lib.hid (blk_keep HB.out (hJ.block _ (HB.out.lt) (fun k hk => by rcases k with _ | _ | _ | _ | _ | _ | _ | _ | _ | _ | _ | _ | _ | _ | _ | k <;> first | (cases hk; done) | (cases hk; exact absurd rfl (Ne.symm HD7_g5.out)))))
       have hbel0 := hbel
       clear hJ hG hall hb
       have hlt := HLT.out
       go_wp2_with fail
       go_roundw
       case rel => exact ⟨t + 1, by omega, by go_num, hmL3, htL3, hmL4, htL4, hmL7, htL7, HB.out, hbel⟩
       case measure => simp [intOf]; omega
      ·obtain rfl : t = 16 := by omega
       have hd1 : decide (((16 : Nat) : Int) < 16) = false := by decide
       clear ht hlt
       go_wp2_with fail
       go_wp2_with fail
       go_loopw [9] (fun sk wr => ∃ t : Nat, 16 ≤ t ∧ t ≤ 80 ∧ sk = .int .i64 (t : Int) ∧ HasFs rW80 wr q3 0 [kTab] ∧ wr.there q3 0 80 ∧ HasFs rW8 wr q4 0 [hSt P i] ∧ wr.there q4 0 8 ∧ HasFs rW80 wr q7 0 [wP (words (P.drop AT)) t] ∧ wr.there q7 0 80 ∧ Blk wr g5 (P.map bV ++ r5) 5 ∧ Below w.heap.size w wr) (fun x _ => 80 - (intOf x).toNat)
       case atStart => exact ⟨16, by omega, by omega, rfl, hmL3, htL3, hmL4, htL4, hmL7, htL7, HB.out, hbel⟩
       case round =>
        obtain ⟨t, hge, ht, rfl, hmM3, htM3, hmM4, htM4, hmM7, htM7, hB', hbel'⟩ := hrel
        clear hmL3 hmL4 hmL7 htL3 htL4 htL7 hbel hbel0 HB
        have hbel := hbel'
        have hbel0 := hbel'
        have HB := Lib.hid hB'
        clear hB'
        by_cases hlt : t < 80
        ·have hd1 : decide ((t : Int) < 80) = true := decide_eq_true (by omega)
         have HLT := Lib.hid hlt
         obtain ⟨x15, hx15⟩ : ∃ x, at0 (wP (words (P.drop AT)) t) (t - 15) = x := ⟨_, rfl⟩
         obtain ⟨x2, hx2⟩ : ∃ x, at0 (wP (words (P.drop AT)) t) (t - 2) = x := ⟨_, rfl⟩
         obtain ⟨x16, hx16⟩ : ∃ x, at0 (wP (words (P.drop AT)) t) (t - 16) = x := ⟨_, rfl⟩
         obtain ⟨x7, hx7⟩ : ∃ x, at0 (wP (words (P.drop AT)) t) (t - 7) = x := ⟨_, rfl⟩
         have HXS : Hid ((if t < 16 then at0 (words (P.drop AT)) t else wNext (wL (words (P.drop AT)) t) t) = up (up (up x16 (sg0 x15)) x7) (sg1 x2)) := Lib.hid (by
          rw [if_neg (by omega), ← hx15, ← hx2, ← hx16, ← hx7, wP_at (by omega), wP_at (by omega), wP_at (by omega), wP_at (by omega)]; rfl)
         have HX15 := Lib.hid hx15; have HX2 := Lib.hid hx2; have HX16 := Lib.hid hx16; have HX7 := Lib.hid hx7
         clear hx15 hx2 hx16 hx7 hlt
         go_upto_region 18 with fail
         clear hd1
         refine rgM [(10, 17), (60, 0), (0, 1), (0, 2), (0, 3), (0, 4), (0, 5), (0, 6), (0, 7), (0, 8), (0, 9), (0, 10), (0, 11), (0, 12), (0, 13), (0, 14), (0, 15), (0, 16)] [.oth (fun v => v = .int .i64 (t : Int)), .oth (fun v => v = .int .i64 ((t - 15 : Nat) : Int)), .oth (fun v => v = .pointer (some ⟨q7, t - 15, none⟩)), .oth (fun v => v = .int .u64 ((x15).toNat : Int)), .oth (fun v => v = .int .u64 ((rotr x15 1).toNat : Int)), .oth (fun v => v = .int .i64 (t : Int)), .oth (fun v => v = .int .i64 ((t - 15 : Nat) : Int)), .oth (fun v => v = .pointer (some ⟨q7, t - 15, none⟩)), .oth (fun v => v = .int .u64 ((x15).toNat : Int)), .oth (fun v => v = .int .u64 ((rotr x15 8).toNat : Int)), .oth (fun v => v = .int .u64 ((ux (rotr x15 1) (rotr x15 8)).toNat : Int)), .oth (fun v => v = .int .i64 (t : Int)), .oth (fun v => v = .int .i64 ((t - 15 : Nat) : Int)), .oth (fun v => v = .pointer (some ⟨q7, t - 15, none⟩)), .oth (fun v => v = .int .u64 ((x15).toNat : Int)), .oth (fun v => v = .int .u64 ((ush x15 7).toNat : Int)), .oth (fun v => v = .int .u64 ((ux (ux (rotr x15 1) (rotr x15 8)) (ush x15 7)).toNat : Int)), .oth (fun v => v = .int .u64 ((ux (ux (rotr x15 1) (rotr x15 8)) (ush x15 7)).toNat : Int))] ?_ ?_
         ·intro hs
          refine ⟨?_, ?_, ?_, ?_, ?_, ?_, ?_, ?_, ?_, ?_, ?_, ?_, ?_, ?_, ?_, ?_, ?_, ?_, trivial⟩
          ·exact mvK hs fun _ => rfl
          ·refine step_pureO hs Wn rfl fun L u W hG hdep => ⟨_, ?_, rfl⟩
           have e0 := (oE (.int .i64 (t : Int)) hG hdep 0)
           go_simp
           try (rw [IntKind.wrap_i64]; omega)
          ·refine step_pureO hs Wn rfl fun L u W hG hdep => ⟨_, ?_, rfl⟩
           have e0 := E7.out
           have e1 := (oE (.int .i64 ((t - 15 : Nat) : Int)) hG hdep 1)
           have hltx := HLT.out
           go_simp
           try rw [if_pos (by omega)]
           try rw [show ((t - 15 : Nat) : Int).toNat = t - 15 by omega]
           try omega
          ·exact step_cell q7 (t - 15) hs Wn rfl rfl (fun _ h => load_u64 h) (fun L u W hG hdep => (oE (.pointer (some ⟨q7, t - 15, none⟩)) hG hdep 2)) (HasFs.cellW hmM7 (by have := HLT.out; omega) HX15.out) Na
          ·refine step_callO hs Wn rfl fun L u W hJ hG hL hdep K hK => ?_
           have x0 := (oE (.int .u64 ((x15).toNat : Int)) hG hdep 3)
           go_simp
           go_at_call 76
           (with_reducible refine (rrot_1 (x := x15) _).mono ?_); rintro e w1 ⟨rfl, hb⟩
           have hk := hK.out _ _ rfl hb
           simp only [x0] at hk
           exact hk
          ·exact mvK hs fun _ => rfl
          ·refine step_pureO hs Wn rfl fun L u W hG hdep => ⟨_, ?_, rfl⟩
           have e0 := (oE (.int .i64 (t : Int)) hG hdep 5)
           go_simp
           try (rw [IntKind.wrap_i64]; omega)
          ·refine step_pureO hs Wn rfl fun L u W hG hdep => ⟨_, ?_, rfl⟩
           have e0 := E7.out
           have e1 := (oE (.int .i64 ((t - 15 : Nat) : Int)) hG hdep 6)
           have hltx := HLT.out
           go_simp
           try rw [if_pos (by omega)]
           try rw [show ((t - 15 : Nat) : Int).toNat = t - 15 by omega]
           try omega
          ·exact step_cell q7 (t - 15) hs Wn rfl rfl (fun _ h => load_u64 h) (fun L u W hG hdep => (oE (.pointer (some ⟨q7, t - 15, none⟩)) hG hdep 7)) (HasFs.cellW hmM7 (by have := HLT.out; omega) HX15.out) Na
          ·refine step_callO hs Wn rfl fun L u W hJ hG hL hdep K hK => ?_
           have x0 := (oE (.int .u64 ((x15).toNat : Int)) hG hdep 8)
           go_simp
           go_at_call 76
           (with_reducible refine (rrot_8 (x := x15) _).mono ?_); rintro e w1 ⟨rfl, hb⟩
           have hk := hK.out _ _ rfl hb
           simp only [x0] at hk
           exact hk
          ·refine step_pureO hs Wn rfl fun L u W hG hdep => ⟨_, ?_, rfl⟩
           have e0 := (oE (.int .u64 ((rotr x15 1).toNat : Int)) hG hdep 4)
           have e1 := (oE (.int .u64 ((rotr x15 8).toNat : Int)) hG hdep 9)
           exact run_ux rfl ((oE (.int .u64 ((rotr x15 1).toNat : Int)) hG hdep 4)) ((oE (.int .u64 ((rotr x15 8).toNat : Int)) hG hdep 9))
          ·exact mvK hs fun _ => rfl
          ·refine step_pureO hs Wn rfl fun L u W hG hdep => ⟨_, ?_, rfl⟩
           have e0 := (oE (.int .i64 (t : Int)) hG hdep 11)
           go_simp
           try (rw [IntKind.wrap_i64]; omega)
          ·refine step_pureO hs Wn rfl fun L u W hG hdep => ⟨_, ?_, rfl⟩
           have e0 := E7.out
           have e1 := (oE (.int .i64 ((t - 15 : Nat) : Int)) hG hdep 12)
           have hltx := HLT.out
           go_simp
           try rw [if_pos (by omega)]
           try rw [show ((t - 15 : Nat) : Int).toNat = t - 15 by omega]
           try omega
          ·exact step_cell q7 (t - 15) hs Wn rfl rfl (fun _ h => load_u64 h) (fun L u W hG hdep => (oE (.pointer (some ⟨q7, t - 15, none⟩)) hG hdep 13)) (HasFs.cellW hmM7 (by have := HLT.out; omega) HX15.out) Na
          ·refine step_pureO hs Wn rfl fun L u W hG hdep => ⟨_, ?_, rfl⟩
           have e0 := (oE (.int .u64 ((x15).toNat : Int)) hG hdep 14)
           exact run_ush7 rfl rfl ((oE (.int .u64 ((x15).toNat : Int)) hG hdep 14))
          ·refine step_pureO hs Wn rfl fun L u W hG hdep => ⟨_, ?_, rfl⟩
           have e0 := (oE (.int .u64 ((ux (rotr x15 1) (rotr x15 8)).toNat : Int)) hG hdep 10)
           have e1 := (oE (.int .u64 ((ush x15 7).toNat : Int)) hG hdep 15)
           exact run_ux rfl ((oE (.int .u64 ((ux (rotr x15 1) (rotr x15 8)).toNat : Int)) hG hdep 10)) ((oE (.int .u64 ((ush x15 7).toNat : Int)) hG hdep 15))
          ·exact mvO 16 hs
         intro L18 u18z W18z hall hJ hG
         have hb := hJ.all rfl
         have hbel := Below.call hbel hb
         have hmM3 := hmM3.later hb
         have hmM4 := hmM4.later hb
         have hmM7 := hmM7.later hb
         have htM3 := there_later htM3 hb
         have htM4 := there_later htM4 hb
         have htM7 := there_later htM7 hb
         have HB := Lib.hid (HB.out.below' hb)
         have HC10 := oC (.int .u64 ((ux (ux (rotr x15 1) (rotr x15 8)) (ush x15 7)).toNat : Int)) hG 17
         have hbel0 := hbel
         clear hJ hG hall hb
         go_upto_region 19 with fail
         refine rgM [(11, 17), (76, 0), (0, 1), (0, 2), (0, 3), (0, 4), (0, 5), (0, 6), (0, 7), (0, 8), (0, 9), (0, 10), (0, 11), (0, 12), (0, 13), (0, 14), (0, 15), (0, 16)] [.oth (fun v => v = .int .i64 (t : Int)), .oth (fun v => v = .int .i64 ((t - 2 : Nat) : Int)), .oth (fun v => v = .pointer (some ⟨q7, t - 2, none⟩)), .oth (fun v => v = .int .u64 ((x2).toNat : Int)), .oth (fun v => v = .int .u64 ((rotr x2 19).toNat : Int)), .oth (fun v => v = .int .i64 (t : Int)), .oth (fun v => v = .int .i64 ((t - 2 : Nat) : Int)), .oth (fun v => v = .pointer (some ⟨q7, t - 2, none⟩)), .oth (fun v => v = .int .u64 ((x2).toNat : Int)), .oth (fun v => v = .int .u64 ((rotr x2 61).toNat : Int)), .oth (fun v => v = .int .u64 ((ux (rotr x2 19) (rotr x2 61)).toNat : Int)), .oth (fun v => v = .int .i64 (t : Int)), .oth (fun v => v = .int .i64 ((t - 2 : Nat) : Int)), .oth (fun v => v = .pointer (some ⟨q7, t - 2, none⟩)), .oth (fun v => v = .int .u64 ((x2).toNat : Int)), .oth (fun v => v = .int .u64 ((ush x2 6).toNat : Int)), .oth (fun v => v = .int .u64 ((ux (ux (rotr x2 19) (rotr x2 61)) (ush x2 6)).toNat : Int)), .oth (fun v => v = .int .u64 ((ux (ux (rotr x2 19) (rotr x2 61)) (ush x2 6)).toNat : Int))] ?_ ?_
         ·intro hs
          refine ⟨?_, ?_, ?_, ?_, ?_, ?_, ?_, ?_, ?_, ?_, ?_, ?_, ?_, ?_, ?_, ?_, ?_, ?_, trivial⟩
          ·exact mvK hs fun _ => rfl
          ·refine step_pureO hs Wn rfl fun L u W hG hdep => ⟨_, ?_, rfl⟩
           have e0 := (oE (.int .i64 (t : Int)) hG hdep 0)
           go_simp
           try (rw [IntKind.wrap_i64]; omega)
          ·refine step_pureO hs Wn rfl fun L u W hG hdep => ⟨_, ?_, rfl⟩
           have e0 := E7.out
           have e1 := (oE (.int .i64 ((t - 2 : Nat) : Int)) hG hdep 1)
           have hltx := HLT.out
           go_simp
           try rw [if_pos (by omega)]
           try rw [show ((t - 2 : Nat) : Int).toNat = t - 2 by omega]
           try omega
          ·exact step_cell q7 (t - 2) hs Wn rfl rfl (fun _ h => load_u64 h) (fun L u W hG hdep => (oE (.pointer (some ⟨q7, t - 2, none⟩)) hG hdep 2)) (HasFs.cellW hmM7 (by have := HLT.out; omega) HX2.out) Na
          ·refine step_callO hs Wn rfl fun L u W hJ hG hL hdep K hK => ?_
           have x0 := (oE (.int .u64 ((x2).toNat : Int)) hG hdep 3)
           go_simp
           go_at_call 76
           (with_reducible refine (rrot_19 (x := x2) _).mono ?_); rintro e w1 ⟨rfl, hb⟩
           have hk := hK.out _ _ rfl hb
           simp only [x0] at hk
           exact hk
          ·exact mvK hs fun _ => rfl
          ·refine step_pureO hs Wn rfl fun L u W hG hdep => ⟨_, ?_, rfl⟩
           have e0 := (oE (.int .i64 (t : Int)) hG hdep 5)
           go_simp
           try (rw [IntKind.wrap_i64]; omega)
          ·refine step_pureO hs Wn rfl fun L u W hG hdep => ⟨_, ?_, rfl⟩
           have e0 := E7.out
           have e1 := (oE (.int .i64 ((t - 2 : Nat) : Int)) hG hdep 6)
           have hltx := HLT.out
           go_simp
           try rw [if_pos (by omega)]
           try rw [show ((t - 2 : Nat) : Int).toNat = t - 2 by omega]
           try omega
          ·exact step_cell q7 (t - 2) hs Wn rfl rfl (fun _ h => load_u64 h) (fun L u W hG hdep => (oE (.pointer (some ⟨q7, t - 2, none⟩)) hG hdep 7)) (HasFs.cellW hmM7 (by have := HLT.out; omega) HX2.out) Na
          ·refine step_callO hs Wn rfl fun L u W hJ hG hL hdep K hK => ?_
           have x0 := (oE (.int .u64 ((x2).toNat : Int)) hG hdep 8)
           go_simp
           go_at_call 76
           (with_reducible refine (rrot_61 (x := x2) _).mono ?_); rintro e w1 ⟨rfl, hb⟩
           have hk := hK.out _ _ rfl hb
           simp only [x0] at hk
           exact hk
          ·refine step_pureO hs Wn rfl fun L u W hG hdep => ⟨_, ?_, rfl⟩
           have e0 := (oE (.int .u64 ((rotr x2 19).toNat : Int)) hG hdep 4)
           have e1 := (oE (.int .u64 ((rotr x2 61).toNat : Int)) hG hdep 9)
           exact run_ux rfl ((oE (.int .u64 ((rotr x2 19).toNat : Int)) hG hdep 4)) ((oE (.int .u64 ((rotr x2 61).toNat : Int)) hG hdep 9))
          ·exact mvK hs fun _ => rfl
          ·refine step_pureO hs Wn rfl fun L u W hG hdep => ⟨_, ?_, rfl⟩
           have e0 := (oE (.int .i64 (t : Int)) hG hdep 11)
           go_simp
           try (rw [IntKind.wrap_i64]; omega)
          ·refine step_pureO hs Wn rfl fun L u W hG hdep => ⟨_, ?_, rfl⟩
           have e0 := E7.out
           have e1 := (oE (.int .i64 ((t - 2 : Nat) : Int)) hG hdep 12)
           have hltx := HLT.out
           go_simp
           try rw [if_pos (by omega)]
           try rw [show ((t - 2 : Nat) : Int).toNat = t - 2 by omega]
           try omega
          ·exact step_cell q7 (t - 2) hs Wn rfl rfl (fun _ h => load_u64 h) (fun L u W hG hdep => (oE (.pointer (some ⟨q7, t - 2, none⟩)) hG hdep 13)) (HasFs.cellW hmM7 (by have := HLT.out; omega) HX2.out) Na
          ·refine step_pureO hs Wn rfl fun L u W hG hdep => ⟨_, ?_, rfl⟩
           have e0 := (oE (.int .u64 ((x2).toNat : Int)) hG hdep 14)
           exact run_ush6 rfl rfl ((oE (.int .u64 ((x2).toNat : Int)) hG hdep 14))
          ·refine step_pureO hs Wn rfl fun L u W hG hdep => ⟨_, ?_, rfl⟩
           have e0 := (oE (.int .u64 ((ux (rotr x2 19) (rotr x2 61)).toNat : Int)) hG hdep 10)
           have e1 := (oE (.int .u64 ((ush x2 6).toNat : Int)) hG hdep 15)
           exact run_ux rfl ((oE (.int .u64 ((ux (rotr x2 19) (rotr x2 61)).toNat : Int)) hG hdep 10)) ((oE (.int .u64 ((ush x2 6).toNat : Int)) hG hdep 15))
          ·exact mvO 16 hs
         intro L19 u19z W19z hall hJ hG
         have hb := hJ.all rfl
         have hbel := Below.call hbel hb
         have hmM3 := hmM3.later hb
         have hmM4 := hmM4.later hb
         have hmM7 := hmM7.later hb
         have htM3 := there_later htM3 hb
         have htM4 := there_later htM4 hb
         have htM7 := there_later htM7 hb
         have HB := Lib.hid (HB.out.below' hb)
         have HC11 := oC (.int .u64 ((ux (ux (rotr x2 19) (rotr x2 61)) (ush x2 6)).toNat : Int)) hG 17
         have hbel0 := hbel
         clear hJ hG hall hb
         go_upto_region 20 with fail
         refine rgM [(105, 0), (0, 1), (0, 2), (0, 3), (0, 4), (0, 5), (0, 6), (0, 7), (0, 8), (0, 9), (0, 10), (0, 11), (0, 12), (0, 13), (0, 14)] [.oth (fun v => v = .int .i64 (t : Int)), .oth (fun v => v = .int .i64 (t : Int)), .oth (fun v => v = .int .i64 ((t - 16 : Nat) : Int)), .oth (fun v => v = .pointer (some ⟨q7, t - 16, none⟩)), .oth (fun v => v = .int .u64 ((x16).toNat : Int)), .oth (fun v => v = .int .u64 ((ux (ux (rotr x15 1) (rotr x15 8)) (ush x15 7)).toNat : Int)), .oth (fun v => v = .int .u64 ((up x16 (ux (ux (rotr x15 1) (rotr x15 8)) (ush x15 7))).toNat : Int)), .oth (fun v => v = .int .i64 (t : Int)), .oth (fun v => v = .int .i64 ((t - 7 : Nat) : Int)), .oth (fun v => v = .pointer (some ⟨q7, t - 7, none⟩)), .oth (fun v => v = .int .u64 ((x7).toNat : Int)), .oth (fun v => v = .int .u64 ((up (up x16 (ux (ux (rotr x15 1) (rotr x15 8)) (ush x15 7))) x7).toNat : Int)), .oth (fun v => v = .int .u64 ((ux (ux (rotr x2 19) (rotr x2 61)) (ush x2 6)).toNat : Int)), .oth (fun v => v = .int .u64 ((up (up (up x16 (ux (ux (rotr x15 1) (rotr x15 8)) (ush x15 7))) x7) (ux (ux (rotr x2 19) (rotr x2 61)) (ush x2 6))).toNat : Int)), .oth (fun v => v = .pointer (some ⟨q7, t, none⟩)), .cst q7 t (.int .u64 ((up (up (up x16 (ux (ux (rotr x15 1) (rotr x15 8)) (ush x15 7))) x7) (ux (ux (rotr x2 19) (rotr x2 61)) (ush x2 6))).toNat : Int))] ?_ ?_
         ·intro hs
          refine ⟨?_, ?_, ?_, ?_, ?_, ?_, ?_, ?_, ?_, ?_, ?_, ?_, ?_, ?_, ?_, ?_, trivial⟩
          ·exact mvK hs fun _ => rfl
          ·exact mvK hs fun _ => rfl
          ·refine step_pureO hs Wn rfl fun L u W hG hdep => ⟨_, ?_, rfl⟩
           have e0 := (oE (.int .i64 (t : Int)) hG hdep 1)
           go_simp
           try (rw [IntKind.wrap_i64]; omega)
          ·refine step_pureO hs Wn rfl fun L u W hG hdep => ⟨_, ?_, rfl⟩
           have e0 := E7.out
           have e1 := (oE (.int .i64 ((t - 16 : Nat) : Int)) hG hdep 2)
           have hltx := HLT.out
           go_simp
           try rw [if_pos (by omega)]
           try rw [show ((t - 16 : Nat) : Int).toNat = t - 16 by omega]
           try omega
          ·exact step_cell q7 (t - 16) hs Wn rfl rfl (fun _ h => load_u64 h) (fun L u W hG hdep => (oE (.pointer (some ⟨q7, t - 16, none⟩)) hG hdep 3)) (HasFs.cellW hmM7 (by have := HLT.out; omega) HX16.out) Na
          ·exact mvK hs fun _ => HC10.out
          ·refine step_pureO hs Wn rfl fun L u W hG hdep => ⟨_, ?_, rfl⟩
           have e0 := (oE (.int .u64 ((x16).toNat : Int)) hG hdep 4)
           have e1 := (oE (.int .u64 ((ux (ux (rotr x15 1) (rotr x15 8)) (ush x15 7)).toNat : Int)) hG hdep 5)
           exact run_up rfl ((oE (.int .u64 ((x16).toNat : Int)) hG hdep 4)) ((oE (.int .u64 ((ux (ux (rotr x15 1) (rotr x15 8)) (ush x15 7)).toNat : Int)) hG hdep 5))
          ·exact mvK hs fun _ => rfl
          ·refine step_pureO hs Wn rfl fun L u W hG hdep => ⟨_, ?_, rfl⟩
           have e0 := (oE (.int .i64 (t : Int)) hG hdep 7)
           go_simp
           try (rw [IntKind.wrap_i64]; omega)
          ·refine step_pureO hs Wn rfl fun L u W hG hdep => ⟨_, ?_, rfl⟩
           have e0 := E7.out
           have e1 := (oE (.int .i64 ((t - 7 : Nat) : Int)) hG hdep 8)
           have hltx := HLT.out
           go_simp
           try rw [if_pos (by omega)]
           try rw [show ((t - 7 : Nat) : Int).toNat = t - 7 by omega]
           try omega
          ·exact step_cell q7 (t - 7) hs Wn rfl rfl (fun _ h => load_u64 h) (fun L u W hG hdep => (oE (.pointer (some ⟨q7, t - 7, none⟩)) hG hdep 9)) (HasFs.cellW hmM7 (by have := HLT.out; omega) HX7.out) Na
          ·refine step_pureO hs Wn rfl fun L u W hG hdep => ⟨_, ?_, rfl⟩
           have e0 := (oE (.int .u64 ((up x16 (ux (ux (rotr x15 1) (rotr x15 8)) (ush x15 7))).toNat : Int)) hG hdep 6)
           have e1 := (oE (.int .u64 ((x7).toNat : Int)) hG hdep 10)
           exact run_up rfl ((oE (.int .u64 ((up x16 (ux (ux (rotr x15 1) (rotr x15 8)) (ush x15 7))).toNat : Int)) hG hdep 6)) ((oE (.int .u64 ((x7).toNat : Int)) hG hdep 10))
          ·exact mvK hs fun _ => HC11.out
          ·refine step_pureO hs Wn rfl fun L u W hG hdep => ⟨_, ?_, rfl⟩
           have e0 := (oE (.int .u64 ((up (up x16 (ux (ux (rotr x15 1) (rotr x15 8)) (ush x15 7))) x7).toNat : Int)) hG hdep 11)
           have e1 := (oE (.int .u64 ((ux (ux (rotr x2 19) (rotr x2 61)) (ush x2 6)).toNat : Int)) hG hdep 12)
           exact run_up rfl ((oE (.int .u64 ((up (up x16 (ux (ux (rotr x15 1) (rotr x15 8)) (ush x15 7))) x7).toNat : Int)) hG hdep 11)) ((oE (.int .u64 ((ux (ux (rotr x2 19) (rotr x2 61)) (ush x2 6)).toNat : Int)) hG hdep 12))
          ·refine step_pureO hs Wn rfl fun L u W hG hdep => ⟨_, ?_, rfl⟩
           have e0 := E7.out
           have e1 := (oE (.int .i64 (t : Int)) hG hdep 0)
           have hltx := HLT.out
           go_simp
           try rw [if_pos (by omega)]
           try rw [show ((t : Nat) : Int).toNat = t by omega]
           try omega
          ·refine step_cst (old := .int .u64 ((at0 (wP (words (P.drop AT)) t) t).toNat : Int)) q7 t hs Wn rfl rfl (by kernel_rfl) (fun k hk => ?_) (fun _ h1 h2 => store_u64 h1 h2) (fun L u W hG hdep => (oE (.pointer (some ⟨q7, t, none⟩)) hG hdep 14)) (fun L u W hG hdep => (oE (.int .u64 ((up (up (up x16 (ux (ux (rotr x15 1) (rotr x15 8)) (ush x15 7))) x7) (ux (ux (rotr x2 19) (rotr x2 61)) (ush x2 6))).toNat : Int)) hG hdep 13)) (HasFs.cellW hmM7 HLT.out rfl) (there_frozen htM7 HLT.out)
           rcases k with _ | _ | _ | _ | _ | _ | _ | _ | _ | _ | _ | _ | _ | _ | _ | _ | k
           all_goals first | (exact absurd rfl hk) | (intro e; cases e; done)
         intro L20 u20z W20z hall hJ hG
         have hb := hJ.beN hbel
         have hbel := hbel.trans hb
         have hmM3 := kC hmM3 hJ HD7_q3.out
         have hmM4 := kC hmM4 hJ HD7_q4.out
         have hmM7 : HasFs rW80 W20z q7 0 [wP (words (P.drop AT)) (t + 1)] := by
          have z := (hmM7.setW htM7 HLT.out (up (up (up x16 (ux (ux (rotr x15 1) (rotr x15 8)) (ush x15 7))) x7) (ux (ux (rotr x2 19) (rotr x2 61)) (ush x2 6)))).blk (show _ ∧ W20z.heap[q7]? = (W19z.setCell ⟨q7, t, none⟩ (.int .u64 ((up (up (up x16 (ux (ux (rotr x15 1) (rotr x15 8)) (ush x15 7))) x7) (ux (ux (rotr x2 19) (rotr x2 61)) (ush x2 6))).toNat : Int))).heap[q7]? from hG 15 (by simp)).2
          rw [(show (wP (words (P.drop AT)) t).set t (up (up (up x16 (ux (ux (rotr x15 1) (rotr x15 8)) (ush x15 7))) x7) (ux (ux (rotr x2 19) (rotr x2 61)) (ush x2 6))) = wP (words (P.drop AT)) (t + 1) from wP_set HLT.out HXS.out)] at z
          exact z
         have htM3 := tC htM3 hJ HD7_q3.out
         have htM4 := tC htM4 hJ HD7_q4.out
         have htM7 := there_blk (there_set (b := q7) (k := t) (v := .int .u64 ((up (up (up x16 (ux (ux (rotr x15 1) (rotr x15 8)) (ush x15 7))) x7) (ux (ux (rotr x2 19) (rotr x2 61)) (ush x2 6))).toNat : Int)) htM7) (show _ ∧ W20z.heap[q7]? = (W19z.setCell ⟨q7, t, none⟩ (.int .u64 ((up (up (up x16 (ux (ux (rotr x15 1) (rotr x15 8)) (ush x15 7))) x7) (ux (ux (rotr x2 19) (rotr x2 61)) (ush x2 6))).toNat : Int))).heap[q7]? from hG 15 (by simp)).2
         have HB := Lib.hid (blk_keep HB.out (hJ.block _ (HB.out.lt) (fun k hk => by rcases k with _ | _ | _ | _ | _ | _ | _ | _ | _ | _ | _ | _ | _ | _ | _ | _ | k <;> first | (cases hk; done) | (cases hk; exact absurd rfl (Ne.symm HD7_g5.out)))))
         have hbel0 := hbel
         clear hJ hG hall hb
         have hlt := HLT.out
         go_wp2_with fail
         go_roundw
         case rel => exact ⟨t + 1, by omega, by omega, by go_num, hmM3, htM3, hmM4, htM4, hmM7, htM7, HB.out, hbel⟩
         case measure => simp [intOf]; omega
        ·obtain rfl : t = 80 := by omega
         have hd1 : decide (((80 : Nat) : Int) < 80) = false := by decide
         rw [wP_full] at hmM7
         obtain ⟨Wd, hWd⟩ : ∃ Z, Z = wL (words (P.drop AT)) 80 := ⟨_, rfl⟩
         rw [← hWd] at hmM7
         obtain ⟨h, hh⟩ : ∃ Z, Z = hSt P i := ⟨_, rfl⟩
         rw [← hh] at hmM4
         have HWD := Lib.hid hWd; have HHS := Lib.hid hh
         clear hWd hh ht hge hlt
         go_upto_region 21 with fail
         clear hd1
         refine rgT [(12, 1), (107, 0)] [.val rW8 [h], .new 8, .st 1 rW8 [h]] ?_ ?_
         ·intro hs
          refine ⟨?_, ?_, ?_, trivial⟩
          ·exact step_load q4 0 hs Wn rfl rfl tya8 (fun _ => E4.out) hmM4.lt hmM4 Na
          ·exact step_alloc hs Wn rfl rfl (by omega) rfl alloca8
          ·exact step_store 1 hs (by kernel_rfl) Wn rfl rfl rfl (by kernel_rfl) (by kernel_rfl) (by kernel_rfl) (by kernel_rfl) (fun _ => rfl) (gO 0) tya8 rfl
         intro L21 u21z W21z hall hJ hG
         obtain ⟨q12, e12, hq12, _, ht12⟩ := oN 8 hG 1
         have hm12 := oS rW8 [h] hG 2 e12
         have HD12_q3 := Lib.hid (show q3 ≠ q12 by have := there_lt htM3 (by omega); omega)
         have HD12_q4 := Lib.hid (show q4 ≠ q12 by have := there_lt htM4 (by omega); omega)
         have HD12_q7 := Lib.hid (show q7 ≠ q12 by have := there_lt htM7 (by omega); omega)
         have HD12_g5 := Lib.hid (show g5 ≠ q12 by have := HB.out.lt; omega)
         have hq12 : w.heap.size ≤ q12 := by have := hbel0.size; omega
         have E12 := Lib.hid e12; clear e12
         have hb := hJ.all rfl
         have hbel := Below.call hbel hb
         have hmM3 := hmM3.later hb
         have hmM4 := hmM4.later hb
         have hmM7 := hmM7.later hb
         have htM3 := there_later htM3 hb
         have htM4 := there_later htM4 hb
         have htM7 := there_later htM7 hb
         have HB := Lib.hid (HB.out.below' hb)
         have hbel0 := hbel
         clear hJ hG hall hb
         go_wp2_with fail
         go_loopw [13] (fun sk wr => ∃ t : Nat, t ≤ 80 ∧ sk = .int .i64 (t : Int) ∧ HasFs rW80 wr q3 0 [kTab] ∧ wr.there q3 0 80 ∧ HasFs rW8 wr q4 0 [h] ∧ wr.there q4 0 8 ∧ HasFs rW80 wr q7 0 [Wd] ∧ wr.there q7 0 80 ∧ HasFs rW8 wr q12 0 [rL h Wd t] ∧ wr.there q12 0 8 ∧ Blk wr g5 (P.map bV ++ r5) 5 ∧ Below w.heap.size w wr) (fun x _ => 80 - (intOf x).toNat)
         case atStart => exact ⟨0, by omega, rfl, hmM3, htM3, hmM4, htM4, hmM7, htM7, hm12, ht12, HB.out, hbel⟩
         case round =>
          obtain ⟨t, ht, rfl, hmN3, htN3, hmN4, htN4, hmN7, htN7, hmN12, htN12, hB', hbel'⟩ := hrel
          clear hm12 hmM3 hmM4 hmM7 ht12 htM3 htM4 htM7 hbel hbel0 HB
          have hbel := hbel'
          have hbel0 := hbel'
          have HB := Lib.hid hB'
          clear hB'
          by_cases hlt : t < 80
          ·have hd1 : decide ((t : Int) < 80) = true := decide_eq_true (by omega)
           have HLT := Lib.hid hlt
           obtain ⟨V, hV⟩ : ∃ V, V = rL h Wd t := ⟨_, rfl⟩
           rw [← hV] at hmN12
           have HV := Lib.hid hV
           clear hV hlt
           go_upto_region 25 with fail
           clear hd1
           refine rgT [(14, 2), (110, 0), (0, 1)] [.oth (fun v => v = .pointer (some ⟨q12, 4, none⟩)), .oth (fun v => v = .int .u64 ((at0 V 4).toNat : Int)), .oth (fun v => v = .int .u64 ((at0 V 4).toNat : Int))] ?_ ?_
           ·intro hs
            refine ⟨?_, ?_, ?_, trivial⟩
            ·refine step_pureO hs Wn rfl fun L u W hG hdep => ⟨_, ?_, rfl⟩
             have e0 := E12.out
             go_simp
             try rw [if_pos (by omega)]
             try rw [show ((4 : Nat) : Int).toNat = 4 by omega]
             try omega
            ·exact step_cell q12 4 hs Wn rfl rfl (fun _ h => load_u64 h) (fun L u W hG hdep => (oE (.pointer (some ⟨q12, 4, none⟩)) hG hdep 0)) (HasFs.cellW hmN12 (by omega) rfl) Na
            ·exact mvO 1 hs
           intro L25 u25z W25z hall hJ hG
           have hb := hJ.all rfl
           have hbel := Below.call hbel hb
           have hmN3 := hmN3.later hb
           have hmN4 := hmN4.later hb
           have hmN7 := hmN7.later hb
           have hmN12 := hmN12.later hb
           have htN3 := there_later htN3 hb
           have htN4 := there_later htN4 hb
           have htN7 := there_later htN7 hb
           have htN12 := there_later htN12 hb
           have HB := Lib.hid (HB.out.below' hb)
           have HC14 := oC (.int .u64 ((at0 V 4).toNat : Int)) hG 2
           have hbel0 := hbel
           clear hJ hG hall hb
           go_upto_region 26 with fail
           refine rgT [(15, 2), (111, 0), (0, 1)] [.oth (fun v => v = .pointer (some ⟨q12, 0, none⟩)), .oth (fun v => v = .int .u64 ((at0 V 0).toNat : Int)), .oth (fun v => v = .int .u64 ((at0 V 0).toNat : Int))] ?_ ?_
           ·intro hs
            refine ⟨?_, ?_, ?_, trivial⟩
            ·refine step_pureO hs Wn rfl fun L u W hG hdep => ⟨_, ?_, rfl⟩
             have e0 := E12.out
             go_simp
             try rw [if_pos (by omega)]
             try rw [show ((0 : Nat) : Int).toNat = 0 by omega]
             try omega
            ·exact step_cell q12 0 hs Wn rfl rfl (fun _ h => load_u64 h) (fun L u W hG hdep => (oE (.pointer (some ⟨q12, 0, none⟩)) hG hdep 0)) (HasFs.cellW hmN12 (by omega) rfl) Na
            ·exact mvO 1 hs
           intro L26 u26z W26z hall hJ hG
           have hb := hJ.all rfl
           have hbel := Below.call hbel hb
           have hmN3 := hmN3.later hb
           have hmN4 := hmN4.later hb
           have hmN7 := hmN7.later hb
           have hmN12 := hmN12.later hb
           have htN3 := there_later htN3 hb
           have htN4 := there_later htN4 hb
           have htN7 := there_later htN7 hb
           have htN12 := there_later htN12 hb
           have HB := Lib.hid (HB.out.below' hb)
           have HC15 := oC (.int .u64 ((at0 V 0).toNat : Int)) hG 2
           have hbel0 := hbel
           clear hJ hG hall hb
           go_upto_region 27 with fail
           refine rgM [(16, 30), (112, 0), (0, 1), (0, 2), (0, 3), (0, 4), (0, 5), (0, 6), (0, 7), (0, 8), (0, 9), (0, 10), (0, 11), (0, 12), (0, 13), (0, 14), (0, 15), (0, 16), (0, 17), (0, 18), (0, 19), (0, 20), (0, 21), (0, 22), (0, 23), (0, 24), (0, 25), (0, 26), (0, 27), (0, 28), (0, 29)] [.oth (fun v => v = .pointer (some ⟨q12, 7, none⟩)), .oth (fun v => v = .int .u64 ((at0 V 7).toNat : Int)), .oth (fun v => v = .int .u64 ((at0 V 4).toNat : Int)), .oth (fun v => v = .int .u64 ((rotr (at0 V 4) 14).toNat : Int)), .oth (fun v => v = .int .u64 ((at0 V 4).toNat : Int)), .oth (fun v => v = .int .u64 ((rotr (at0 V 4) 18).toNat : Int)), .oth (fun v => v = .int .u64 ((ux (rotr (at0 V 4) 14) (rotr (at0 V 4) 18)).toNat : Int)), .oth (fun v => v = .int .u64 ((at0 V 4).toNat : Int)), .oth (fun v => v = .int .u64 ((rotr (at0 V 4) 41).toNat : Int)), .oth (fun v => v = .int .u64 ((ux (ux (rotr (at0 V 4) 14) (rotr (at0 V 4) 18)) (rotr (at0 V 4) 41)).toNat : Int)), .oth (fun v => v = .int .u64 ((up (at0 V 7) (ux (ux (rotr (at0 V 4) 14) (rotr (at0 V 4) 18)) (rotr (at0 V 4) 41))).toNat : Int)), .oth (fun v => v = .int .u64 ((at0 V 4).toNat : Int)), .oth (fun v => v = .pointer (some ⟨q12, 5, none⟩)), .oth (fun v => v = .int .u64 ((at0 V 5).toNat : Int)), .oth (fun v => v = .int .u64 ((ua (at0 V 4) (at0 V 5)).toNat : Int)), .oth (fun v => v = .int .u64 ((at0 V 4).toNat : Int)), .oth (fun v => v = .int .u64 ((un (at0 V 4)).toNat : Int)), .oth (fun v => v = .pointer (some ⟨q12, 6, none⟩)), .oth (fun v => v = .int .u64 ((at0 V 6).toNat : Int)), .oth (fun v => v = .int .u64 ((ua (un (at0 V 4)) (at0 V 6)).toNat : Int)), .oth (fun v => v = .int .u64 ((ux (ua (at0 V 4) (at0 V 5)) (ua (un (at0 V 4)) (at0 V 6))).toNat : Int)), .oth (fun v => v = .int .u64 ((up (up (at0 V 7) (ux (ux (rotr (at0 V 4) 14) (rotr (at0 V 4) 18)) (rotr (at0 V 4) 41))) (ux (ua (at0 V 4) (at0 V 5)) (ua (un (at0 V 4)) (at0 V 6)))).toNat : Int)), .oth (fun v => v = .int .i64 (t : Int)), .oth (fun v => v = .pointer (some ⟨q3, t, none⟩)), .oth (fun v => v = .int .u64 ((at0 kTab t).toNat : Int)), .oth (fun v => v = .int .u64 ((up (up (up (at0 V 7) (ux (ux (rotr (at0 V 4) 14) (rotr (at0 V 4) 18)) (rotr (at0 V 4) 41))) (ux (ua (at0 V 4) (at0 V 5)) (ua (un (at0 V 4)) (at0 V 6)))) (at0 kTab t)).toNat : Int)), .oth (fun v => v = .int .i64 (t : Int)), .oth (fun v => v = .pointer (some ⟨q7, t, none⟩)), .oth (fun v => v = .int .u64 ((at0 Wd t).toNat : Int)), .oth (fun v => v = .int .u64 ((up (up (up (up (at0 V 7) (ux (ux (rotr (at0 V 4) 14) (rotr (at0 V 4) 18)) (rotr (at0 V 4) 41))) (ux (ua (at0 V 4) (at0 V 5)) (ua (un (at0 V 4)) (at0 V 6)))) (at0 kTab t)) (at0 Wd t)).toNat : Int)), .oth (fun v => v = .int .u64 ((up (up (up (up (at0 V 7) (ux (ux (rotr (at0 V 4) 14) (rotr (at0 V 4) 18)) (rotr (at0 V 4) 41))) (ux (ua (at0 V 4) (at0 V 5)) (ua (un (at0 V 4)) (at0 V 6)))) (at0 kTab t)) (at0 Wd t)).toNat : Int))] ?_ ?_
           ·intro hs
            refine ⟨?_, ?_, ?_, ?_, ?_, ?_, ?_, ?_, ?_, ?_, ?_, ?_, ?_, ?_, ?_, ?_, ?_, ?_, ?_, ?_, ?_, ?_, ?_, ?_, ?_, ?_, ?_, ?_, ?_, ?_, ?_, trivial⟩
            ·refine step_pureO hs Wn rfl fun L u W hG hdep => ⟨_, ?_, rfl⟩
             have e0 := E12.out
             go_simp
             try rw [if_pos (by omega)]
             try rw [show ((7 : Nat) : Int).toNat = 7 by omega]
             try omega
            ·exact step_cell q12 7 hs Wn rfl rfl (fun _ h => load_u64 h) (fun L u W hG hdep => (oE (.pointer (some ⟨q12, 7, none⟩)) hG hdep 0)) (HasFs.cellW hmN12 (by omega) rfl) Na
            ·exact mvK hs fun _ => HC14.out
            ·refine step_callO hs Wn rfl fun L u W hJ hG hL hdep K hK => ?_
             have x0 := (oE (.int .u64 ((at0 V 4).toNat : Int)) hG hdep 2)
             go_simp
             go_at_call 76
             (with_reducible refine (rrot_14 (x := at0 V 4) _).mono ?_); rintro e w1 ⟨rfl, hb⟩
             have hk := hK.out _ _ rfl hb
             simp only [x0] at hk
             exact hk
            ·exact mvK hs fun _ => HC14.out
            ·refine step_callO hs Wn rfl fun L u W hJ hG hL hdep K hK => ?_
             have x0 := (oE (.int .u64 ((at0 V 4).toNat : Int)) hG hdep 4)
             go_simp
             go_at_call 76
             (with_reducible refine (rrot_18 (x := at0 V 4) _).mono ?_); rintro e w1 ⟨rfl, hb⟩
             have hk := hK.out _ _ rfl hb
             simp only [x0] at hk
             exact hk
            ·refine step_pureO hs Wn rfl fun L u W hG hdep => ⟨_, ?_, rfl⟩
             have e0 := (oE (.int .u64 ((rotr (at0 V 4) 14).toNat : Int)) hG hdep 3)
             have e1 := (oE (.int .u64 ((rotr (at0 V 4) 18).toNat : Int)) hG hdep 5)
             exact run_ux rfl ((oE (.int .u64 ((rotr (at0 V 4) 14).toNat : Int)) hG hdep 3)) ((oE (.int .u64 ((rotr (at0 V 4) 18).toNat : Int)) hG hdep 5))
            ·exact mvK hs fun _ => HC14.out
            ·refine step_callO hs Wn rfl fun L u W hJ hG hL hdep K hK => ?_
             have x0 := (oE (.int .u64 ((at0 V 4).toNat : Int)) hG hdep 7)
             go_simp
             go_at_call 76
             (with_reducible refine (rrot_41 (x := at0 V 4) _).mono ?_); rintro e w1 ⟨rfl, hb⟩
             have hk := hK.out _ _ rfl hb
             simp only [x0] at hk
             exact hk
            ·refine step_pureO hs Wn rfl fun L u W hG hdep => ⟨_, ?_, rfl⟩
             have e0 := (oE (.int .u64 ((ux (rotr (at0 V 4) 14) (rotr (at0 V 4) 18)).toNat : Int)) hG hdep 6)
             have e1 := (oE (.int .u64 ((rotr (at0 V 4) 41).toNat : Int)) hG hdep 8)
             exact run_ux rfl ((oE (.int .u64 ((ux (rotr (at0 V 4) 14) (rotr (at0 V 4) 18)).toNat : Int)) hG hdep 6)) ((oE (.int .u64 ((rotr (at0 V 4) 41).toNat : Int)) hG hdep 8))
            ·refine step_pureO hs Wn rfl fun L u W hG hdep => ⟨_, ?_, rfl⟩
             have e0 := (oE (.int .u64 ((at0 V 7).toNat : Int)) hG hdep 1)
             have e1 := (oE (.int .u64 ((ux (ux (rotr (at0 V 4) 14) (rotr (at0 V 4) 18)) (rotr (at0 V 4) 41)).toNat : Int)) hG hdep 9)
             exact run_up rfl ((oE (.int .u64 ((at0 V 7).toNat : Int)) hG hdep 1)) ((oE (.int .u64 ((ux (ux (rotr (at0 V 4) 14) (rotr (at0 V 4) 18)) (rotr (at0 V 4) 41)).toNat : Int)) hG hdep 9))
            ·exact mvK hs fun _ => HC14.out
            ·refine step_pureO hs Wn rfl fun L u W hG hdep => ⟨_, ?_, rfl⟩
             have e0 := E12.out
             go_simp
             try rw [if_pos (by omega)]
             try rw [show ((5 : Nat) : Int).toNat = 5 by omega]
             try omega
            ·exact step_cell q12 5 hs Wn rfl rfl (fun _ h => load_u64 h) (fun L u W hG hdep => (oE (.pointer (some ⟨q12, 5, none⟩)) hG hdep 12)) (HasFs.cellW hmN12 (by omega) rfl) Na
            ·refine step_pureO hs Wn rfl fun L u W hG hdep => ⟨_, ?_, rfl⟩
             have e0 := (oE (.int .u64 ((at0 V 4).toNat : Int)) hG hdep 11)
             have e1 := (oE (.int .u64 ((at0 V 5).toNat : Int)) hG hdep 13)
             exact run_ua rfl ((oE (.int .u64 ((at0 V 4).toNat : Int)) hG hdep 11)) ((oE (.int .u64 ((at0 V 5).toNat : Int)) hG hdep 13))
            ·exact mvK hs fun _ => HC14.out
            ·refine step_pureO hs Wn rfl fun L u W hG hdep => ⟨_, ?_, rfl⟩
             exact run_un rfl ((oE (.int .u64 ((at0 V 4).toNat : Int)) hG hdep 15))
            ·refine step_pureO hs Wn rfl fun L u W hG hdep => ⟨_, ?_, rfl⟩
             have e0 := E12.out
             go_simp
             try rw [if_pos (by omega)]
             try rw [show ((6 : Nat) : Int).toNat = 6 by omega]
             try omega
            ·exact step_cell q12 6 hs Wn rfl rfl (fun _ h => load_u64 h) (fun L u W hG hdep => (oE (.pointer (some ⟨q12, 6, none⟩)) hG hdep 17)) (HasFs.cellW hmN12 (by omega) rfl) Na
            ·refine step_pureO hs Wn rfl fun L u W hG hdep => ⟨_, ?_, rfl⟩
             have e0 := (oE (.int .u64 ((un (at0 V 4)).toNat : Int)) hG hdep 16)
             have e1 := (oE (.int .u64 ((at0 V 6).toNat : Int)) hG hdep 18)
             exact run_ua rfl ((oE (.int .u64 ((un (at0 V 4)).toNat : Int)) hG hdep 16)) ((oE (.int .u64 ((at0 V 6).toNat : Int)) hG hdep 18))
            ·refine step_pureO hs Wn rfl fun L u W hG hdep => ⟨_, ?_, rfl⟩
             have e0 := (oE (.int .u64 ((ua (at0 V 4) (at0 V 5)).toNat : Int)) hG hdep 14)
             have e1 := (oE (.int .u64 ((ua (un (at0 V 4)) (at0 V 6)).toNat : Int)) hG hdep 19)
             exact run_ux rfl ((oE (.int .u64 ((ua (at0 V 4) (at0 V 5)).toNat : Int)) hG hdep 14)) ((oE (.int .u64 ((ua (un (at0 V 4)) (at0 V 6)).toNat : Int)) hG hdep 19))
            ·refine step_pureO hs Wn rfl fun L u W hG hdep => ⟨_, ?_, rfl⟩
             have e0 := (oE (.int .u64 ((up (at0 V 7) (ux (ux (rotr (at0 V 4) 14) (rotr (at0 V 4) 18)) (rotr (at0 V 4) 41))).toNat : Int)) hG hdep 10)
             have e1 := (oE (.int .u64 ((ux (ua (at0 V 4) (at0 V 5)) (ua (un (at0 V 4)) (at0 V 6))).toNat : Int)) hG hdep 20)
             exact run_up rfl ((oE (.int .u64 ((up (at0 V 7) (ux (ux (rotr (at0 V 4) 14) (rotr (at0 V 4) 18)) (rotr (at0 V 4) 41))).toNat : Int)) hG hdep 10)) ((oE (.int .u64 ((ux (ua (at0 V 4) (at0 V 5)) (ua (un (at0 V 4)) (at0 V 6))).toNat : Int)) hG hdep 20))
            ·exact mvK hs fun _ => rfl
            ·refine step_pureO hs Wn rfl fun L u W hG hdep => ⟨_, ?_, rfl⟩
             have e0 := E3.out
             have e1 := (oE (.int .i64 (t : Int)) hG hdep 22)
             have hltx := HLT.out
             go_simp
             try rw [if_pos (by omega)]
             try rw [show ((t : Nat) : Int).toNat = t by omega]
             try omega
            ·exact step_cell q3 t hs Wn rfl rfl (fun _ h => load_u64 h) (fun L u W hG hdep => (oE (.pointer (some ⟨q3, t, none⟩)) hG hdep 23)) (HasFs.cellW hmN3 HLT.out rfl) Na
            ·refine step_pureO hs Wn rfl fun L u W hG hdep => ⟨_, ?_, rfl⟩
             have e0 := (oE (.int .u64 ((up (up (at0 V 7) (ux (ux (rotr (at0 V 4) 14) (rotr (at0 V 4) 18)) (rotr (at0 V 4) 41))) (ux (ua (at0 V 4) (at0 V 5)) (ua (un (at0 V 4)) (at0 V 6)))).toNat : Int)) hG hdep 21)
             have e1 := (oE (.int .u64 ((at0 kTab t).toNat : Int)) hG hdep 24)
             exact run_up rfl ((oE (.int .u64 ((up (up (at0 V 7) (ux (ux (rotr (at0 V 4) 14) (rotr (at0 V 4) 18)) (rotr (at0 V 4) 41))) (ux (ua (at0 V 4) (at0 V 5)) (ua (un (at0 V 4)) (at0 V 6)))).toNat : Int)) hG hdep 21)) ((oE (.int .u64 ((at0 kTab t).toNat : Int)) hG hdep 24))
            ·exact mvK hs fun _ => rfl
            ·refine step_pureO hs Wn rfl fun L u W hG hdep => ⟨_, ?_, rfl⟩
             have e0 := E7.out
             have e1 := (oE (.int .i64 (t : Int)) hG hdep 26)
             have hltx := HLT.out
             go_simp
             try rw [if_pos (by omega)]
             try rw [show ((t : Nat) : Int).toNat = t by omega]
             try omega
            ·exact step_cell q7 t hs Wn rfl rfl (fun _ h => load_u64 h) (fun L u W hG hdep => (oE (.pointer (some ⟨q7, t, none⟩)) hG hdep 27)) (HasFs.cellW hmN7 HLT.out rfl) Na
            ·refine step_pureO hs Wn rfl fun L u W hG hdep => ⟨_, ?_, rfl⟩
             have e0 := (oE (.int .u64 ((up (up (up (at0 V 7) (ux (ux (rotr (at0 V 4) 14) (rotr (at0 V 4) 18)) (rotr (at0 V 4) 41))) (ux (ua (at0 V 4) (at0 V 5)) (ua (un (at0 V 4)) (at0 V 6)))) (at0 kTab t)).toNat : Int)) hG hdep 25)
             have e1 := (oE (.int .u64 ((at0 Wd t).toNat : Int)) hG hdep 28)
             exact run_up rfl ((oE (.int .u64 ((up (up (up (at0 V 7) (ux (ux (rotr (at0 V 4) 14) (rotr (at0 V 4) 18)) (rotr (at0 V 4) 41))) (ux (ua (at0 V 4) (at0 V 5)) (ua (un (at0 V 4)) (at0 V 6)))) (at0 kTab t)).toNat : Int)) hG hdep 25)) ((oE (.int .u64 ((at0 Wd t).toNat : Int)) hG hdep 28))
            ·exact mvO 29 hs
           intro L27 u27z W27z hall hJ hG
           have hb := hJ.all rfl
           have hbel := Below.call hbel hb
           have hmN3 := hmN3.later hb
           have hmN4 := hmN4.later hb
           have hmN7 := hmN7.later hb
           have hmN12 := hmN12.later hb
           have htN3 := there_later htN3 hb
           have htN4 := there_later htN4 hb
           have htN7 := there_later htN7 hb
           have htN12 := there_later htN12 hb
           have HB := Lib.hid (HB.out.below' hb)
           have HC16 := oC (.int .u64 ((up (up (up (up (at0 V 7) (ux (ux (rotr (at0 V 4) 14) (rotr (at0 V 4) 18)) (rotr (at0 V 4) 41))) (ux (ua (at0 V 4) (at0 V 5)) (ua (un (at0 V 4)) (at0 V 6)))) (at0 kTab t)) (at0 Wd t)).toNat : Int)) hG 30
           have hbel0 := hbel
           clear hJ hG hall hb
           go_upto_region 28 with fail
           refine rgM [(17, 24), (141, 0), (0, 1), (0, 2), (0, 3), (0, 4), (0, 5), (0, 6), (0, 7), (0, 8), (0, 9), (0, 10), (0, 11), (0, 12), (0, 13), (0, 14), (0, 15), (0, 16), (0, 17), (0, 18), (0, 19), (0, 20), (0, 21), (0, 22), (0, 23)] [.oth (fun v => v = .int .u64 ((at0 V 0).toNat : Int)), .oth (fun v => v = .int .u64 ((rotr (at0 V 0) 28).toNat : Int)), .oth (fun v => v = .int .u64 ((at0 V 0).toNat : Int)), .oth (fun v => v = .int .u64 ((rotr (at0 V 0) 34).toNat : Int)), .oth (fun v => v = .int .u64 ((ux (rotr (at0 V 0) 28) (rotr (at0 V 0) 34)).toNat : Int)), .oth (fun v => v = .int .u64 ((at0 V 0).toNat : Int)), .oth (fun v => v = .int .u64 ((rotr (at0 V 0) 39).toNat : Int)), .oth (fun v => v = .int .u64 ((ux (ux (rotr (at0 V 0) 28) (rotr (at0 V 0) 34)) (rotr (at0 V 0) 39)).toNat : Int)), .oth (fun v => v = .int .u64 ((at0 V 0).toNat : Int)), .oth (fun v => v = .pointer (some ⟨q12, 1, none⟩)), .oth (fun v => v = .int .u64 ((at0 V 1).toNat : Int)), .oth (fun v => v = .int .u64 ((ua (at0 V 0) (at0 V 1)).toNat : Int)), .oth (fun v => v = .int .u64 ((at0 V 0).toNat : Int)), .oth (fun v => v = .pointer (some ⟨q12, 2, none⟩)), .oth (fun v => v = .int .u64 ((at0 V 2).toNat : Int)), .oth (fun v => v = .int .u64 ((ua (at0 V 0) (at0 V 2)).toNat : Int)), .oth (fun v => v = .int .u64 ((ux (ua (at0 V 0) (at0 V 1)) (ua (at0 V 0) (at0 V 2))).toNat : Int)), .oth (fun v => v = .pointer (some ⟨q12, 1, none⟩)), .oth (fun v => v = .int .u64 ((at0 V 1).toNat : Int)), .oth (fun v => v = .pointer (some ⟨q12, 2, none⟩)), .oth (fun v => v = .int .u64 ((at0 V 2).toNat : Int)), .oth (fun v => v = .int .u64 ((ua (at0 V 1) (at0 V 2)).toNat : Int)), .oth (fun v => v = .int .u64 ((ux (ux (ua (at0 V 0) (at0 V 1)) (ua (at0 V 0) (at0 V 2))) (ua (at0 V 1) (at0 V 2))).toNat : Int)), .oth (fun v => v = .int .u64 ((up (ux (ux (rotr (at0 V 0) 28) (rotr (at0 V 0) 34)) (rotr (at0 V 0) 39)) (ux (ux (ua (at0 V 0) (at0 V 1)) (ua (at0 V 0) (at0 V 2))) (ua (at0 V 1) (at0 V 2)))).toNat : Int)), .oth (fun v => v = .int .u64 ((up (ux (ux (rotr (at0 V 0) 28) (rotr (at0 V 0) 34)) (rotr (at0 V 0) 39)) (ux (ux (ua (at0 V 0) (at0 V 1)) (ua (at0 V 0) (at0 V 2))) (ua (at0 V 1) (at0 V 2)))).toNat : Int))] ?_ ?_
           ·intro hs
            refine ⟨?_, ?_, ?_, ?_, ?_, ?_, ?_, ?_, ?_, ?_, ?_, ?_, ?_, ?_, ?_, ?_, ?_, ?_, ?_, ?_, ?_, ?_, ?_, ?_, ?_, trivial⟩
            ·exact mvK hs fun _ => HC15.out
            ·refine step_callO hs Wn rfl fun L u W hJ hG hL hdep K hK => ?_
             have x0 := (oE (.int .u64 ((at0 V 0).toNat : Int)) hG hdep 0)
             go_simp
             go_at_call 76
             (with_reducible refine (rrot_28 (x := at0 V 0) _).mono ?_); rintro e w1 ⟨rfl, hb⟩
             have hk := hK.out _ _ rfl hb
             simp only [x0] at hk
             exact hk
            ·exact mvK hs fun _ => HC15.out
            ·refine step_callO hs Wn rfl fun L u W hJ hG hL hdep K hK => ?_
             have x0 := (oE (.int .u64 ((at0 V 0).toNat : Int)) hG hdep 2)
             go_simp
             go_at_call 76
             (with_reducible refine (rrot_34 (x := at0 V 0) _).mono ?_); rintro e w1 ⟨rfl, hb⟩
             have hk := hK.out _ _ rfl hb
             simp only [x0] at hk
             exact hk
            ·refine step_pureO hs Wn rfl fun L u W hG hdep => ⟨_, ?_, rfl⟩
             have e0 := (oE (.int .u64 ((rotr (at0 V 0) 28).toNat : Int)) hG hdep 1)
             have e1 := (oE (.int .u64 ((rotr (at0 V 0) 34).toNat : Int)) hG hdep 3)
             exact run_ux rfl ((oE (.int .u64 ((rotr (at0 V 0) 28).toNat : Int)) hG hdep 1)) ((oE (.int .u64 ((rotr (at0 V 0) 34).toNat : Int)) hG hdep 3))
            ·exact mvK hs fun _ => HC15.out
            ·refine step_callO hs Wn rfl fun L u W hJ hG hL hdep K hK => ?_
             have x0 := (oE (.int .u64 ((at0 V 0).toNat : Int)) hG hdep 5)
             go_simp
             go_at_call 76
             (with_reducible refine (rrot_39 (x := at0 V 0) _).mono ?_); rintro e w1 ⟨rfl, hb⟩
             have hk := hK.out _ _ rfl hb
             simp only [x0] at hk
             exact hk
            ·refine step_pureO hs Wn rfl fun L u W hG hdep => ⟨_, ?_, rfl⟩
             have e0 := (oE (.int .u64 ((ux (rotr (at0 V 0) 28) (rotr (at0 V 0) 34)).toNat : Int)) hG hdep 4)
             have e1 := (oE (.int .u64 ((rotr (at0 V 0) 39).toNat : Int)) hG hdep 6)
             exact run_ux rfl ((oE (.int .u64 ((ux (rotr (at0 V 0) 28) (rotr (at0 V 0) 34)).toNat : Int)) hG hdep 4)) ((oE (.int .u64 ((rotr (at0 V 0) 39).toNat : Int)) hG hdep 6))
            ·exact mvK hs fun _ => HC15.out
            ·refine step_pureO hs Wn rfl fun L u W hG hdep => ⟨_, ?_, rfl⟩
             have e0 := E12.out
             go_simp
             try rw [if_pos (by omega)]
             try rw [show ((1 : Nat) : Int).toNat = 1 by omega]
             try omega
            ·exact step_cell q12 1 hs Wn rfl rfl (fun _ h => load_u64 h) (fun L u W hG hdep => (oE (.pointer (some ⟨q12, 1, none⟩)) hG hdep 9)) (HasFs.cellW hmN12 (by omega) rfl) Na
            ·refine step_pureO hs Wn rfl fun L u W hG hdep => ⟨_, ?_, rfl⟩
             have e0 := (oE (.int .u64 ((at0 V 0).toNat : Int)) hG hdep 8)
             have e1 := (oE (.int .u64 ((at0 V 1).toNat : Int)) hG hdep 10)
             exact run_ua rfl ((oE (.int .u64 ((at0 V 0).toNat : Int)) hG hdep 8)) ((oE (.int .u64 ((at0 V 1).toNat : Int)) hG hdep 10))
            ·exact mvK hs fun _ => HC15.out
            ·refine step_pureO hs Wn rfl fun L u W hG hdep => ⟨_, ?_, rfl⟩
             have e0 := E12.out
             go_simp
             try rw [if_pos (by omega)]
             try rw [show ((2 : Nat) : Int).toNat = 2 by omega]
             try omega
            ·exact step_cell q12 2 hs Wn rfl rfl (fun _ h => load_u64 h) (fun L u W hG hdep => (oE (.pointer (some ⟨q12, 2, none⟩)) hG hdep 13)) (HasFs.cellW hmN12 (by omega) rfl) Na
            ·refine step_pureO hs Wn rfl fun L u W hG hdep => ⟨_, ?_, rfl⟩
             have e0 := (oE (.int .u64 ((at0 V 0).toNat : Int)) hG hdep 12)
             have e1 := (oE (.int .u64 ((at0 V 2).toNat : Int)) hG hdep 14)
             exact run_ua rfl ((oE (.int .u64 ((at0 V 0).toNat : Int)) hG hdep 12)) ((oE (.int .u64 ((at0 V 2).toNat : Int)) hG hdep 14))
            ·refine step_pureO hs Wn rfl fun L u W hG hdep => ⟨_, ?_, rfl⟩
             have e0 := (oE (.int .u64 ((ua (at0 V 0) (at0 V 1)).toNat : Int)) hG hdep 11)
             have e1 := (oE (.int .u64 ((ua (at0 V 0) (at0 V 2)).toNat : Int)) hG hdep 15)
             exact run_ux rfl ((oE (.int .u64 ((ua (at0 V 0) (at0 V 1)).toNat : Int)) hG hdep 11)) ((oE (.int .u64 ((ua (at0 V 0) (at0 V 2)).toNat : Int)) hG hdep 15))
            ·refine step_pureO hs Wn rfl fun L u W hG hdep => ⟨_, ?_, rfl⟩
             have e0 := E12.out
             go_simp
             try rw [if_pos (by omega)]
             try rw [show ((1 : Nat) : Int).toNat = 1 by omega]
             try omega
            ·exact step_cell q12 1 hs Wn rfl rfl (fun _ h => load_u64 h) (fun L u W hG hdep => (oE (.pointer (some ⟨q12, 1, none⟩)) hG hdep 17)) (HasFs.cellW hmN12 (by omega) rfl) Na
            ·refine step_pureO hs Wn rfl fun L u W hG hdep => ⟨_, ?_, rfl⟩
             have e0 := E12.out
             go_simp
             try rw [if_pos (by omega)]
             try rw [show ((2 : Nat) : Int).toNat = 2 by omega]
             try omega
            ·exact step_cell q12 2 hs Wn rfl rfl (fun _ h => load_u64 h) (fun L u W hG hdep => (oE (.pointer (some ⟨q12, 2, none⟩)) hG hdep 19)) (HasFs.cellW hmN12 (by omega) rfl) Na
            ·refine step_pureO hs Wn rfl fun L u W hG hdep => ⟨_, ?_, rfl⟩
             have e0 := (oE (.int .u64 ((at0 V 1).toNat : Int)) hG hdep 18)
             have e1 := (oE (.int .u64 ((at0 V 2).toNat : Int)) hG hdep 20)
             exact run_ua rfl ((oE (.int .u64 ((at0 V 1).toNat : Int)) hG hdep 18)) ((oE (.int .u64 ((at0 V 2).toNat : Int)) hG hdep 20))
            ·refine step_pureO hs Wn rfl fun L u W hG hdep => ⟨_, ?_, rfl⟩
             have e0 := (oE (.int .u64 ((ux (ua (at0 V 0) (at0 V 1)) (ua (at0 V 0) (at0 V 2))).toNat : Int)) hG hdep 16)
             have e1 := (oE (.int .u64 ((ua (at0 V 1) (at0 V 2)).toNat : Int)) hG hdep 21)
             exact run_ux rfl ((oE (.int .u64 ((ux (ua (at0 V 0) (at0 V 1)) (ua (at0 V 0) (at0 V 2))).toNat : Int)) hG hdep 16)) ((oE (.int .u64 ((ua (at0 V 1) (at0 V 2)).toNat : Int)) hG hdep 21))
            ·refine step_pureO hs Wn rfl fun L u W hG hdep => ⟨_, ?_, rfl⟩
             have e0 := (oE (.int .u64 ((ux (ux (rotr (at0 V 0) 28) (rotr (at0 V 0) 34)) (rotr (at0 V 0) 39)).toNat : Int)) hG hdep 7)
             have e1 := (oE (.int .u64 ((ux (ux (ua (at0 V 0) (at0 V 1)) (ua (at0 V 0) (at0 V 2))) (ua (at0 V 1) (at0 V 2))).toNat : Int)) hG hdep 22)
             exact run_up rfl ((oE (.int .u64 ((ux (ux (rotr (at0 V 0) 28) (rotr (at0 V 0) 34)) (rotr (at0 V 0) 39)).toNat : Int)) hG hdep 7)) ((oE (.int .u64 ((ux (ux (ua (at0 V 0) (at0 V 1)) (ua (at0 V 0) (at0 V 2))) (ua (at0 V 1) (at0 V 2))).toNat : Int)) hG hdep 22))
            ·exact mvO 23 hs
           intro L28 u28z W28z hall hJ hG
           have hb := hJ.all rfl
           have hbel := Below.call hbel hb
           have hmN3 := hmN3.later hb
           have hmN4 := hmN4.later hb
           have hmN7 := hmN7.later hb
           have hmN12 := hmN12.later hb
           have htN3 := there_later htN3 hb
           have htN4 := there_later htN4 hb
           have htN7 := there_later htN7 hb
           have htN12 := there_later htN12 hb
           have HB := Lib.hid (HB.out.below' hb)
           have HC17 := oC (.int .u64 ((up (ux (ux (rotr (at0 V 0) 28) (rotr (at0 V 0) 34)) (rotr (at0 V 0) 39)) (ux (ux (ua (at0 V 0) (at0 V 1)) (ua (at0 V 0) (at0 V 2))) (ua (at0 V 1) (at0 V 2)))).toNat : Int)) hG 24
           have hbel0 := hbel
           clear hJ hG hall hb
           go_upto_region 29 with fail
           have HNV : Hid ([up (up (up (up (up (at0 V 7) (ux (ux (rotr (at0 V 4) 14) (rotr (at0 V 4) 18)) (rotr (at0 V 4) 41))) (ux (ua (at0 V 4) (at0 V 5)) (ua (un (at0 V 4)) (at0 V 6)))) (at0 kTab t)) (at0 Wd t)) (up (ux (ux (rotr (at0 V 0) 28) (rotr (at0 V 0) 34)) (rotr (at0 V 0) 39)) (ux (ux (ua (at0 V 0) (at0 V 1)) (ua (at0 V 0) (at0 V 2))) (ua (at0 V 1) (at0 V 2)))), at0 V 0, at0 V 1, at0 V 2, up (at0 V 3) (up (up (up (up (at0 V 7) (ux (ux (rotr (at0 V 4) 14) (rotr (at0 V 4) 18)) (rotr (at0 V 4) 41))) (ux (ua (at0 V 4) (at0 V 5)) (ua (un (at0 V 4)) (at0 V 6)))) (at0 kTab t)) (at0 Wd t)), at0 V 4, at0 V 5, at0 V 6] = rL h Wd (t + 1)) := Lib.hid (by rw [rL, ← HV.out]; rfl)
           refine rgT [(183, 0), (0, 1), (0, 2), (0, 3), (0, 4), (0, 5), (0, 6), (0, 7), (0, 8), (0, 9), (0, 10), (0, 11), (0, 12), (0, 13), (0, 14), (0, 15), (0, 16), (0, 17), (0, 18), (0, 19)] [.oth (fun v => v = .int .u64 ((up (up (up (up (at0 V 7) (ux (ux (rotr (at0 V 4) 14) (rotr (at0 V 4) 18)) (rotr (at0 V 4) 41))) (ux (ua (at0 V 4) (at0 V 5)) (ua (un (at0 V 4)) (at0 V 6)))) (at0 kTab t)) (at0 Wd t)).toNat : Int)), .oth (fun v => v = .int .u64 ((up (ux (ux (rotr (at0 V 0) 28) (rotr (at0 V 0) 34)) (rotr (at0 V 0) 39)) (ux (ux (ua (at0 V 0) (at0 V 1)) (ua (at0 V 0) (at0 V 2))) (ua (at0 V 1) (at0 V 2)))).toNat : Int)), .oth (fun v => v = .int .u64 ((up (up (up (up (up (at0 V 7) (ux (ux (rotr (at0 V 4) 14) (rotr (at0 V 4) 18)) (rotr (at0 V 4) 41))) (ux (ua (at0 V 4) (at0 V 5)) (ua (un (at0 V 4)) (at0 V 6)))) (at0 kTab t)) (at0 Wd t)) (up (ux (ux (rotr (at0 V 0) 28) (rotr (at0 V 0) 34)) (rotr (at0 V 0) 39)) (ux (ux (ua (at0 V 0) (at0 V 1)) (ua (at0 V 0) (at0 V 2))) (ua (at0 V 1) (at0 V 2))))).toNat : Int)), .oth (fun v => v = .pointer (some ⟨q12, 0, none⟩)), .oth (fun v => v = .int .u64 ((at0 V 0).toNat : Int)), .oth (fun v => v = .pointer (some ⟨q12, 1, none⟩)), .oth (fun v => v = .int .u64 ((at0 V 1).toNat : Int)), .oth (fun v => v = .pointer (some ⟨q12, 2, none⟩)), .oth (fun v => v = .int .u64 ((at0 V 2).toNat : Int)), .oth (fun v => v = .pointer (some ⟨q12, 3, none⟩)), .oth (fun v => v = .int .u64 ((at0 V 3).toNat : Int)), .oth (fun v => v = .int .u64 ((up (up (up (up (at0 V 7) (ux (ux (rotr (at0 V 4) 14) (rotr (at0 V 4) 18)) (rotr (at0 V 4) 41))) (ux (ua (at0 V 4) (at0 V 5)) (ua (un (at0 V 4)) (at0 V 6)))) (at0 kTab t)) (at0 Wd t)).toNat : Int)), .oth (fun v => v = .int .u64 ((up (at0 V 3) (up (up (up (up (at0 V 7) (ux (ux (rotr (at0 V 4) 14) (rotr (at0 V 4) 18)) (rotr (at0 V 4) 41))) (ux (ua (at0 V 4) (at0 V 5)) (ua (un (at0 V 4)) (at0 V 6)))) (at0 kTab t)) (at0 Wd t))).toNat : Int)), .oth (fun v => v = .pointer (some ⟨q12, 4, none⟩)), .oth (fun v => v = .int .u64 ((at0 V 4).toNat : Int)), .oth (fun v => v = .pointer (some ⟨q12, 5, none⟩)), .oth (fun v => v = .int .u64 ((at0 V 5).toNat : Int)), .oth (fun v => v = .pointer (some ⟨q12, 6, none⟩)), .oth (fun v => v = .int .u64 ((at0 V 6).toNat : Int)), .val rW8 [rL h Wd (t + 1)], .sto q12 rW8 [rL h Wd (t + 1)]] ?_ ?_
           ·intro hs
            refine ⟨?_, ?_, ?_, ?_, ?_, ?_, ?_, ?_, ?_, ?_, ?_, ?_, ?_, ?_, ?_, ?_, ?_, ?_, ?_, ?_, ?_, trivial⟩
            ·exact mvK hs fun _ => HC16.out
            ·exact mvK hs fun _ => HC17.out
            ·refine step_pureO hs Wn rfl fun L u W hG hdep => ⟨_, ?_, rfl⟩
             have e0 := (oE (.int .u64 ((up (up (up (up (at0 V 7) (ux (ux (rotr (at0 V 4) 14) (rotr (at0 V 4) 18)) (rotr (at0 V 4) 41))) (ux (ua (at0 V 4) (at0 V 5)) (ua (un (at0 V 4)) (at0 V 6)))) (at0 kTab t)) (at0 Wd t)).toNat : Int)) hG hdep 0)
             have e1 := (oE (.int .u64 ((up (ux (ux (rotr (at0 V 0) 28) (rotr (at0 V 0) 34)) (rotr (at0 V 0) 39)) (ux (ux (ua (at0 V 0) (at0 V 1)) (ua (at0 V 0) (at0 V 2))) (ua (at0 V 1) (at0 V 2)))).toNat : Int)) hG hdep 1)
             exact run_up rfl ((oE (.int .u64 ((up (up (up (up (at0 V 7) (ux (ux (rotr (at0 V 4) 14) (rotr (at0 V 4) 18)) (rotr (at0 V 4) 41))) (ux (ua (at0 V 4) (at0 V 5)) (ua (un (at0 V 4)) (at0 V 6)))) (at0 kTab t)) (at0 Wd t)).toNat : Int)) hG hdep 0)) ((oE (.int .u64 ((up (ux (ux (rotr (at0 V 0) 28) (rotr (at0 V 0) 34)) (rotr (at0 V 0) 39)) (ux (ux (ua (at0 V 0) (at0 V 1)) (ua (at0 V 0) (at0 V 2))) (ua (at0 V 1) (at0 V 2)))).toNat : Int)) hG hdep 1))
            ·refine step_pureO hs Wn rfl fun L u W hG hdep => ⟨_, ?_, rfl⟩
             have e0 := E12.out
             go_simp
             try rw [if_pos (by omega)]
             try rw [show ((0 : Nat) : Int).toNat = 0 by omega]
             try omega
            ·exact step_cell q12 0 hs Wn rfl rfl (fun _ h => load_u64 h) (fun L u W hG hdep => (oE (.pointer (some ⟨q12, 0, none⟩)) hG hdep 3)) (HasFs.cellW hmN12 (by omega) rfl) Na
            ·refine step_pureO hs Wn rfl fun L u W hG hdep => ⟨_, ?_, rfl⟩
             have e0 := E12.out
             go_simp
             try rw [if_pos (by omega)]
             try rw [show ((1 : Nat) : Int).toNat = 1 by omega]
             try omega
            ·exact step_cell q12 1 hs Wn rfl rfl (fun _ h => load_u64 h) (fun L u W hG hdep => (oE (.pointer (some ⟨q12, 1, none⟩)) hG hdep 5)) (HasFs.cellW hmN12 (by omega) rfl) Na
            ·refine step_pureO hs Wn rfl fun L u W hG hdep => ⟨_, ?_, rfl⟩
             have e0 := E12.out
             go_simp
             try rw [if_pos (by omega)]
             try rw [show ((2 : Nat) : Int).toNat = 2 by omega]
             try omega
            ·exact step_cell q12 2 hs Wn rfl rfl (fun _ h => load_u64 h) (fun L u W hG hdep => (oE (.pointer (some ⟨q12, 2, none⟩)) hG hdep 7)) (HasFs.cellW hmN12 (by omega) rfl) Na
            ·refine step_pureO hs Wn rfl fun L u W hG hdep => ⟨_, ?_, rfl⟩
             have e0 := E12.out
             go_simp
             try rw [if_pos (by omega)]
             try rw [show ((3 : Nat) : Int).toNat = 3 by omega]
             try omega
            ·exact step_cell q12 3 hs Wn rfl rfl (fun _ h => load_u64 h) (fun L u W hG hdep => (oE (.pointer (some ⟨q12, 3, none⟩)) hG hdep 9)) (HasFs.cellW hmN12 (by omega) rfl) Na
            ·exact mvK hs fun _ => HC16.out
            ·refine step_pureO hs Wn rfl fun L u W hG hdep => ⟨_, ?_, rfl⟩
             have e0 := (oE (.int .u64 ((at0 V 3).toNat : Int)) hG hdep 10)
             have e1 := (oE (.int .u64 ((up (up (up (up (at0 V 7) (ux (ux (rotr (at0 V 4) 14) (rotr (at0 V 4) 18)) (rotr (at0 V 4) 41))) (ux (ua (at0 V 4) (at0 V 5)) (ua (un (at0 V 4)) (at0 V 6)))) (at0 kTab t)) (at0 Wd t)).toNat : Int)) hG hdep 11)
             exact run_up rfl ((oE (.int .u64 ((at0 V 3).toNat : Int)) hG hdep 10)) ((oE (.int .u64 ((up (up (up (up (at0 V 7) (ux (ux (rotr (at0 V 4) 14) (rotr (at0 V 4) 18)) (rotr (at0 V 4) 41))) (ux (ua (at0 V 4) (at0 V 5)) (ua (un (at0 V 4)) (at0 V 6)))) (at0 kTab t)) (at0 Wd t)).toNat : Int)) hG hdep 11))
            ·refine step_pureO hs Wn rfl fun L u W hG hdep => ⟨_, ?_, rfl⟩
             have e0 := E12.out
             go_simp
             try rw [if_pos (by omega)]
             try rw [show ((4 : Nat) : Int).toNat = 4 by omega]
             try omega
            ·exact step_cell q12 4 hs Wn rfl rfl (fun _ h => load_u64 h) (fun L u W hG hdep => (oE (.pointer (some ⟨q12, 4, none⟩)) hG hdep 13)) (HasFs.cellW hmN12 (by omega) rfl) Na
            ·refine step_pureO hs Wn rfl fun L u W hG hdep => ⟨_, ?_, rfl⟩
             have e0 := E12.out
             go_simp
             try rw [if_pos (by omega)]
             try rw [show ((5 : Nat) : Int).toNat = 5 by omega]
             try omega
            ·exact step_cell q12 5 hs Wn rfl rfl (fun _ h => load_u64 h) (fun L u W hG hdep => (oE (.pointer (some ⟨q12, 5, none⟩)) hG hdep 15)) (HasFs.cellW hmN12 (by omega) rfl) Na
            ·refine step_pureO hs Wn rfl fun L u W hG hdep => ⟨_, ?_, rfl⟩
             have e0 := E12.out
             go_simp
             try rw [if_pos (by omega)]
             try rw [show ((6 : Nat) : Int).toNat = 6 by omega]
             try omega
            ·exact step_cell q12 6 hs Wn rfl rfl (fun _ h => load_u64 h) (fun L u W hG hdep => (oE (.pointer (some ⟨q12, 6, none⟩)) hG hdep 17)) (HasFs.cellW hmN12 (by omega) rfl) Na
            ·refine step_pure hs Wn rfl fun L u W hG hdep => ?_
             rw [← HNV.out]
             exact run_build8W rfl ((oE (.int .u64 ((up (up (up (up (up (at0 V 7) (ux (ux (rotr (at0 V 4) 14) (rotr (at0 V 4) 18)) (rotr (at0 V 4) 41))) (ux (ua (at0 V 4) (at0 V 5)) (ua (un (at0 V 4)) (at0 V 6)))) (at0 kTab t)) (at0 Wd t)) (up (ux (ux (rotr (at0 V 0) 28) (rotr (at0 V 0) 34)) (rotr (at0 V 0) 39)) (ux (ux (ua (at0 V 0) (at0 V 1)) (ua (at0 V 0) (at0 V 2))) (ua (at0 V 1) (at0 V 2))))).toNat : Int)) hG hdep 2)) ((oE (.int .u64 ((at0 V 0).toNat : Int)) hG hdep 4)) ((oE (.int .u64 ((at0 V 1).toNat : Int)) hG hdep 6)) ((oE (.int .u64 ((at0 V 2).toNat : Int)) hG hdep 8)) ((oE (.int .u64 ((up (at0 V 3) (up (up (up (up (at0 V 7) (ux (ux (rotr (at0 V 4) 14) (rotr (at0 V 4) 18)) (rotr (at0 V 4) 41))) (ux (ua (at0 V 4) (at0 V 5)) (ua (un (at0 V 4)) (at0 V 6)))) (at0 kTab t)) (at0 Wd t))).toNat : Int)) hG hdep 12)) ((oE (.int .u64 ((at0 V 4).toNat : Int)) hG hdep 14)) ((oE (.int .u64 ((at0 V 5).toNat : Int)) hG hdep 16)) ((oE (.int .u64 ((at0 V 6).toNat : Int)) hG hdep 18))
            ·refine step_storeO q12 8 hs Wn rfl rfl (by kernel_rfl) (fun k hk => ?_) (fun _ => E12.out) (there_lt htN12 (by omega)) htN12 (gO 19) tya8 rfl
             rcases k with _ | _ | _ | _ | _ | _ | _ | _ | _ | _ | _ | _ | _ | _ | _ | _ | _ | _ | _ | _ | _ | k
             all_goals first | (exact absurd rfl hk) | (intro e; cases e; done)
           intro L29 u29z W29z hall hJ hG
           have hb := hJ.beN hbel
           have hbel := hbel.trans hb
           have hmN3 := kC hmN3 hJ HD12_q3.out
           have hmN4 := kC hmN4 hJ HD12_q4.out
           have hmN7 := kC hmN7 hJ HD12_q7.out
           have htN3 := tC htN3 hJ HD12_q3.out
           have htN4 := tC htN4 hJ HD12_q4.out
           have htN7 := tC htN7 hJ HD12_q7.out
           have HB := Lib.hid (blk_keep HB.out (hJ.block _ (HB.out.lt) (fun k hk => by rcases k with _ | _ | _ | _ | _ | _ | _ | _ | _ | _ | _ | _ | _ | _ | _ | _ | _ | _ | _ | _ | _ | k <;> first | (cases hk; done) | (cases hk; exact absurd rfl (Ne.symm HD12_g5.out)))))
           obtain ⟨_, hs29_20t, hs29_20⟩ := oT 8 rW8 [rL h Wd (t + 1)] hG 20
           have hbel0 := hbel
           clear hJ hG hall hb
           have hlt := HLT.out
           go_wp2_with fail
           go_roundw
           case rel => exact ⟨t + 1, by omega, by go_num, hmN3, htN3, hmN4, htN4, hmN7, htN7, hs29_20, hs29_20t, HB.out, hbel⟩
           case measure => simp [intOf]; omega
          ·obtain rfl : t = 80 := by omega
           have hd1 : decide (((80 : Nat) : Int) < 80) = false := by decide
           obtain ⟨V, hV⟩ : ∃ V, V = rL h Wd 80 := ⟨_, rfl⟩
           rw [← hV] at hmN12
           have HV := Lib.hid hV
           have HHL := Lib.hid hmN4.lenW
           clear hV ht hlt
           go_wp2_with fail
           clear hd1
           go_wp2_with fail
           go_loopw [18] (fun sk wr => ∃ t : Nat, t ≤ 8 ∧ sk = .int .i64 (t : Int) ∧ HasFs rW80 wr q3 0 [kTab] ∧ wr.there q3 0 80 ∧ HasFs rW8 wr q4 0 [hP h V t] ∧ wr.there q4 0 8 ∧ HasFs rW8 wr q12 0 [V] ∧ wr.there q12 0 8 ∧ Blk wr g5 (P.map bV ++ r5) 5 ∧ Below w.heap.size w wr) (fun x _ => 8 - (intOf x).toNat)
           case atStart => exact ⟨0, by omega, rfl, hmN3, htN3, (by rw [hP_zero _ HHL.out]; exact hmN4), htN4, hmN12, htN12, HB.out, hbel⟩
           case round =>
            obtain ⟨t, ht, rfl, hmQ3, htQ3, hmQ4, htQ4, hmQ12, htQ12, hB', hbel'⟩ := hrel
            clear hmN12 hmN3 hmN4 htN12 htN3 htN4 hbel hbel0 HB
            have hbel := hbel'
            have hbel0 := hbel'
            have HB := Lib.hid hB'
            clear hB'
            by_cases hlt : t < 8
            ·have hd1 : decide ((t : Int) < 8) = true := decide_eq_true (by omega)
             have HLT := Lib.hid hlt
             clear hlt
             go_upto_region 33 with fail
             clear hd1
             refine rgM [(207, 0), (0, 1), (0, 2), (0, 3), (0, 4), (0, 5), (0, 6), (0, 7), (0, 8)] [.oth (fun v => v = .int .i64 (t : Int)), .oth (fun v => v = .int .i64 (t : Int)), .oth (fun v => v = .pointer (some ⟨q4, t, none⟩)), .oth (fun v => v = .int .u64 ((at0 h t).toNat : Int)), .oth (fun v => v = .int .i64 (t : Int)), .oth (fun v => v = .pointer (some ⟨q12, t, none⟩)), .oth (fun v => v = .int .u64 ((at0 V t).toNat : Int)), .oth (fun v => v = .int .u64 ((up (at0 h t) (at0 V t)).toNat : Int)), .oth (fun v => v = .pointer (some ⟨q4, t, none⟩)), .cst q4 t (.int .u64 ((up (at0 h t) (at0 V t)).toNat : Int))] ?_ ?_
             ·intro hs
              refine ⟨?_, ?_, ?_, ?_, ?_, ?_, ?_, ?_, ?_, ?_, trivial⟩
              ·exact mvK hs fun _ => rfl
              ·exact mvK hs fun _ => rfl
              ·refine step_pureO hs Wn rfl fun L u W hG hdep => ⟨_, ?_, rfl⟩
               have e0 := E4.out
               have e1 := (oE (.int .i64 (t : Int)) hG hdep 1)
               have hltx := HLT.out
               go_simp
               try rw [if_pos (by omega)]
               try rw [show ((t : Nat) : Int).toNat = t by omega]
               try omega
              ·exact step_cell q4 t hs Wn rfl rfl (fun _ h => load_u64 h) (fun L u W hG hdep => (oE (.pointer (some ⟨q4, t, none⟩)) hG hdep 2)) (HasFs.cellW hmQ4 HLT.out (hP_at HLT.out)) Na
              ·exact mvK hs fun _ => rfl
              ·refine step_pureO hs Wn rfl fun L u W hG hdep => ⟨_, ?_, rfl⟩
               have e0 := E12.out
               have e1 := (oE (.int .i64 (t : Int)) hG hdep 4)
               have hltx := HLT.out
               go_simp
               try rw [if_pos (by omega)]
               try rw [show ((t : Nat) : Int).toNat = t by omega]
               try omega
              ·exact step_cell q12 t hs Wn rfl rfl (fun _ h => load_u64 h) (fun L u W hG hdep => (oE (.pointer (some ⟨q12, t, none⟩)) hG hdep 5)) (HasFs.cellW hmQ12 HLT.out rfl) (apN HD12_q4.out)
              ·refine step_pureO hs Wn rfl fun L u W hG hdep => ⟨_, ?_, rfl⟩
               have e0 := (oE (.int .u64 ((at0 h t).toNat : Int)) hG hdep 3)
               have e1 := (oE (.int .u64 ((at0 V t).toNat : Int)) hG hdep 6)
               exact run_up rfl ((oE (.int .u64 ((at0 h t).toNat : Int)) hG hdep 3)) ((oE (.int .u64 ((at0 V t).toNat : Int)) hG hdep 6))
              ·refine step_pureO hs Wn rfl fun L u W hG hdep => ⟨_, ?_, rfl⟩
               have e0 := E4.out
               have e1 := (oE (.int .i64 (t : Int)) hG hdep 0)
               have hltx := HLT.out
               go_simp
               try rw [if_pos (by omega)]
               try rw [show ((t : Nat) : Int).toNat = t by omega]
               try omega
              ·refine step_cst (old := .int .u64 ((at0 h t).toNat : Int)) q4 t hs Wn rfl rfl (by kernel_rfl) (fun k hk => ?_) (fun _ h1 h2 => store_u64 h1 h2) (fun L u W hG hdep => (oE (.pointer (some ⟨q4, t, none⟩)) hG hdep 8)) (fun L u W hG hdep => (oE (.int .u64 ((up (at0 h t) (at0 V t)).toNat : Int)) hG hdep 7)) (HasFs.cellW hmQ4 HLT.out (hP_at HLT.out)) (there_frozen htQ4 HLT.out)
               rcases k with _ | _ | _ | _ | _ | _ | _ | _ | _ | _ | k
               all_goals first | (exact absurd rfl hk) | (intro e; cases e; done)
             intro L33 u33z W33z hall hJ hG
             have hb := hJ.beN hbel
             have hbel := hbel.trans hb
             have hmQ3 := kC hmQ3 hJ HD4_q3.out
             have hmQ4 : HasFs rW8 W33z q4 0 [hP h V (t + 1)] := by
              have z := (hmQ4.setW htQ4 HLT.out (up (at0 h t) (at0 V t))).blk (show _ ∧ W33z.heap[q4]? = (wr.setCell ⟨q4, t, none⟩ (.int .u64 ((up (at0 h t) (at0 V t)).toNat : Int))).heap[q4]? from hG 9 (by simp)).2
              rw [hP_set] at z
              exact z
             have hmQ12 := kB hmQ12 hJ HD12_q4.out
             have htQ3 := tC htQ3 hJ HD4_q3.out
             have htQ4 := there_blk (there_set (b := q4) (k := t) (v := .int .u64 ((up (at0 h t) (at0 V t)).toNat : Int)) htQ4) (show _ ∧ W33z.heap[q4]? = (wr.setCell ⟨q4, t, none⟩ (.int .u64 ((up (at0 h t) (at0 V t)).toNat : Int))).heap[q4]? from hG 9 (by simp)).2
             have htQ12 := tB htQ12 hJ HD12_q4.out
             have HB := Lib.hid (blk_keep HB.out (hJ.block _ (HB.out.lt) (fun k hk => by rcases k with _ | _ | _ | _ | _ | _ | _ | _ | _ | _ | k <;> first | (cases hk; done) | (cases hk; exact absurd rfl HN4.out))))
             have hbel0 := hbel
             clear hJ hG hall hb
             have hlt := HLT.out
             go_wp2_with fail
             go_roundw
             case rel => exact ⟨t + 1, by omega, by go_num, hmQ3, htQ3, hmQ4, htQ4, hmQ12, htQ12, HB.out, hbel⟩
             case measure => simp [intOf]; omega
            ·obtain rfl : t = 8 := by omega
             have hd1 : decide (((8 : Nat) : Int) < 8) = false := by decide
             have HT : Hid (hP h V 8 = hSt P (i + 1)) := Lib.hid (by rw [hP_full, HV.out, HWD.out, HHS.out, hSt, ← HAT.out]; rfl)
             clear ht hlt
             rw [HT.out] at hmQ4
             have hat2 : AT + 128 = 128 * (i + 1) := by have := HAT.out; omega
             have hsp := HSP.out
             have HA2 := Lib.hid hat2
             clear hat2
             go_wp2_with fail
             go_roundw
             case rel => exact ⟨i + 1, AT + 128, by have := HI.out; omega, HA2.out, by go_num, hmQ3, htQ3, hmQ4, htQ4, HB.out, hbel⟩
             case measure => simp [intOf]; omega
    ·obtain rfl : i = M := by omega
     have hdo : decide (AT < ML) = false := decide_eq_false (by have := HML.out; omega)
     obtain ⟨H, hH⟩ : ∃ H, H = hSt P i := ⟨_, rfl⟩
     rw [← hH] at hmO4
     have HT : Hid (outK H 8 = outK (hSt P i) 8) := Lib.hid (by rw [hH])
     clear hat hi hlt hH
     have hE4 := E4.out
     rw [hE4]
     clear hE4
     obtain ⟨WB, rfl⟩ : ∃ Z, Z = wr := ⟨_, rfl⟩
     go_wp2_with fail
     go_loopw [19, 20] (fun v k wx => ∃ j : Nat, j ≤ 8 ∧ k = .int .i64 (j : Int) ∧ wx.ownsRow WB.heap.size 5 1 v (8 * j) ((outK H j).map bV) ∧ Below WB.heap.size WB wx) (fun _ k _ => 8 - (intOf k).toNat)
     case atStart => exact ⟨0, by omega, rfl, World.ownsRow_nil _ _ _ _, Below.refl _ _⟩
     case round =>
      obtain ⟨j, hj, rfl, ho, hbx⟩ := hrel
      clear hdo
      by_cases hlt : j < 8
      ·have hd : decide ((j : Int) < 8) = true := decide_eq_true (by omega)
       have hm4 := hmO4.later hbx
       have hcl := HasFs.cellW hm4 hlt rfl
       have hj0 : (0 : Int) ≤ (j : Int) := by omega
       have hj8 : (j : Int) < 8 := by omega
       have HO := Lib.hid ho
       have HJ := Lib.hid hlt
       clear ho hlt hm4
       go_wp2_with (first | (go_at_call 74; go_must (refine (rbig_any (x := at0 H j) _).mono ?_; rintro e w5 ⟨rfl, hB, hb⟩; have hb5 := Below.call hbx hb; have HO4 := Lib.hid (own_below HO.out hb); have HBX := Lib.hid (RdB.blk (n := 8) (cap := 8) (l := be8 (at0 H j)) [] (by rw [List.append_nil]; exact hB) (be8_len _) (by omega) (by unfold maxLen; omega)); clear hB hb)) | (at_builtin; go_must (refine app_bytes _ rfl (.tmp 220) (.tmp 224) rfl WB.heap.size _ (8 * j) (outK H j) rfl HO4.out _ 8 8 (be8 (at0 H j)) rfl HBX.out (by have := HJ.out; omega) hb5.size WB hb5 ?_; intro v4 w6 ho hb6; have HO5 := Lib.hid ho; clear ho)))
       go_roundw
       case rel => exact ⟨j + 1, by have := HJ.out; omega, by go_num, by rw [outK_succ, show 8 * (j + 1) = 8 * j + 8 by omega]; exact HO5.out, hb6⟩
       case measure => have := HJ.out; simp [intOf]; omega
      ·obtain rfl : j = 8 := by omega
       have hd : decide (((8 : Nat) : Int) < 8) = false := by decide
       obtain ⟨g9, c9, r9, rfl, hg9, hB9, hl9, hc9, hm9⟩ := own_rdb ho (by omega)
       have HB9 := Lib.hid hB9; have HL9 := Lib.hid hl9
       have hg9' : w.heap.size ≤ g9 := by have := hbel.size; omega
       clear ho hB9 hl9
       go_wp2
       go_ret
       exact ⟨g9, 64, c9, r9, rfl, hg9', by rw [← HT.out]; exact HB9.out, by rw [outK_len], hc9, hm9, Below.call hbel hbx⟩
theorem rsum512_any {a : Option Addr} {n cap : Nat} {l : List UInt8} {w : World} (h : RdB w a n cap l) (hs : l.length ≤ 1000000) :
  Calls Tryz.prog 31 #[.slice a n cap] w (NewB w (sha512 l)) := by
 have hp := padB_blocks l
 have h2 := padB_len l
 have h3 := h.hlen
 rw [← sha512_out]
 exact rsum512_walk h (by omega) rfl hp.1 hp.2 (by omega)
end Go.Proofs.YtielgpefoameiaaGreat
namespace Go.Proofs.YtielgpefoameiaaGreat
open Go.RowKit
end Go.Proofs.YtielgpefoameiaaGreat
namespace Go.Proofs.YtielgpefoameiaaGreat
open Go Go.RowKit
theorem gRSum {v : Value} {l : List UInt8} {w : World} (h : (IsB l).P v w) (hs : l.length ≤ 1000000) :
  Calls Tryz.prog 31 #[v] w fun e w' => ∃ r, e = .returned r ∧ (IsB (sha512 l)).P r w' ∧ Below w.heap.size w w' := by
 obtain ⟨a, n, cap, rfl, hr⟩ := h
 exact (rsum512_any hr hs).mono fun _ _ h => NewB.mk' h
theorem gRWide {v : Value} {l : List UInt8} {x : F} {w : World} (hx : wS l = x) (h : (IsB l).P v w) :
  Calls Tryz.prog 34 #[v] w fun e w' => ∃ r, e = .returned r ∧ IsFs rC r [x] ∧ Below w.heap.size w w' := by
 obtain ⟨a, n, cap, rfl, hr⟩ := h
 exact kWide hx hr
theorem gQDecode {v : Value} {l : List UInt8} {P : EP} {c : Int} {w : World} (hP : decV l = P) (hc : decC l = c) (h : (IsB l).P v w) :
  Calls Tryz.prog 46 #[v] w fun e w' => ∃ r, e = .returned (.tuple #[r, .int .i64 c]) ∧ IsFs rQ r [P] ∧ Below w.heap.size w w' := by
 obtain ⟨a, n, cap, rfl, hr⟩ := h
 exact kDecode hP hc hr
theorem gRStrict {v : Value} {l : List UInt8} {x : F} {c : Int} {w : World} (hx : ssV l = x) (hc : ssC l = c) (h : (IsB l).P v w) :
  Calls Tryz.prog 48 #[v] w fun e w' => ∃ r, e = .returned (.tuple #[r, .int .i64 c]) ∧ IsFs rC r [x] ∧ Below w.heap.size w w' := by
 obtain ⟨a, n, cap, rfl, hr⟩ := h
 exact kScStrict hx hc hr
set_option maxHeartbeats 1000000 in
theorem rver_pt {w : World} {v0 v1 v2 : Value} {pub sig l : List UInt8} (hp : (IsB pub).P v0 w) (hsg : (IsB sig).P v1 w) (h1 : (IsB l).P v2 w) (hm : l.length ≤ 100000) {A : EP} (ka : decV pub = A) (kc : decC pub = 12) :
  Calls Tryz.prog 16 #[v0, v1, v2] w fun e w' => e = .returned (.int .i64 12) ∧ Below w.heap.size w w' := by
 have _u1 := hsg; have _u2 := h1; have _u4 := hm
 clear _u1 _u2 _u4 hsg h1 hm
 have KA := Lib.hid ka; clear ka
 have KC := Lib.hid kc; clear kc
 go_enter Tryz.func16, Tryz.ntmps16
 have hbel : Below w.heap.size w w := Below.refl _ _
 have hbel0 := hbel
 go_upto_region 0 with fail
 refine rgT [(6, 0)] [.oth (fun v => v = .int .i64 0)] ?_ ?_
 ·intro hs
  refine ⟨?_, trivial⟩
  ·exact mvK hs fun _ => rfl
 intro L0 u0 W0 hall hJ hG
 have hb := hJ.all rfl
 have hbel := Below.call hbel hb
 have HC6 := oC (.int .i64 0) hG 0
 have hbel0 := hbel
 clear hJ hG hall hb
 go_upto_region 1 with fail
 refine rgT [(7, 5), (0, 7), (5, 2), (0, 0), (0, 1), (0, 3), (0, 4)] [.wld (IsB pub) (some 1), .oth (fun v => IsTV rQ v [A] (.int .i64 12)), .oth (fun v => IsTV rQ v [A] (.int .i64 12)), .val rQ [A], .oth (fun v => v = .int .i64 12), .new 48, .st 5 rQ [A], .oth (fun v => v = .int .i64 12)] ?_ ?_
 ·intro hs
  refine ⟨?_, ?_, ?_, ?_, ?_, ?_, ?_, ?_, trivial⟩
  ·exact step_runP hs Wn rfl fun L u W hJ hG hL hdep => run_moveP (.inl rfl) ((IsB pub).st _ _ _ hp (Below.call hbel (hJ.all rfl)))
  ·refine step_callO hs Wn rfl fun L u W hJ hG hL hdep K hK => ?_
   go_simp
   go_at_call 46
   (with_reducible refine (gQDecode KA.out KC.out (holds_wld (φ := IsB pub) (hG 0 (hdep 0 (by kernel_rfl))) rfl (till_some hL))).mono ?_); rintro e w1 ⟨r, rfl, hr, hb⟩
   exact hK.out _ _ ⟨r, rfl, hr⟩ hb
  ·exact step_pureO hs Wn rfl fun L u W hG hdep => ⟨_, run_move rfl, (show IsTV rQ (u 1) [A] (.int .i64 12) from hG 1 (hdep 1 (by kernel_rfl)))⟩
  ·exact step_pure hs Wn rfl fun L u W hG hdep => run_extractV0 rfl (show IsTV rQ (u 2) [A] (.int .i64 12) from hG 2 (hdep 2 (by kernel_rfl)))
  ·exact step_pureO hs Wn rfl fun L u W hG hdep => run_extractV1 rfl (show IsTV rQ (u 2) [A] (.int .i64 12) from hG 2 (hdep 2 (by kernel_rfl)))
  ·exact step_alloc hs Wn rfl rfl (by omega) rfl allocPt
  ·exact step_store 5 hs (by kernel_rfl) Wn rfl rfl rfl (by kernel_rfl) (by kernel_rfl) (by kernel_rfl) (by kernel_rfl) (fun _ => rfl) (gO 3) tyPt rfl
  ·exact mvO 4 hs
 intro L1 u1 W1 hall hJ hG
 obtain ⟨q7, e7, hq7, _, ht7⟩ := oN 48 hG 5
 have hm7 := oS rQ [A] hG 6 e7
 have hq7 : w.heap.size ≤ q7 := by have := hbel0.size; omega
 have E7 := Lib.hid e7; clear e7
 have hb := hJ.all rfl
 have hbel := Below.call hbel hb
 have HC8 := oC (.int .i64 12) hG 7
 have hbel0 := hbel
 clear hJ hG hall hb
 go_upto_region 2 with fail
 refine rgT [(19, 0), (0, 1), (0, 2), (0, 3), (0, 4), (0, 5)] [.oth (fun v => v = .int .i64 12), .oth (fun v => v = .bool true), .oth (fun v => v = .bool true), .oth (fun v => v = undef), .oth (fun v => v = undef), .oth (fun v => v = .bool true)] ?_ ?_
 ·intro hs
  refine ⟨?_, ?_, ?_, ?_, ?_, ?_, trivial⟩
  ·exact mvK hs fun _ => HC8.out
  ·refine step_pureO hs Wn rfl fun L u W hG hdep => ⟨_, ?_, rfl⟩
   have e0 := (oE (.int .i64 12) hG hdep 0)
   go_simp
   try simp [bne]
  ·exact mvO 1 hs
  ·exact step_outU hs (wants_off 2 rfl rfl rfl (by kernel_rfl) (fun _ => rfl)) rfl
  ·exact step_outU hs (wants_off 2 rfl rfl rfl (by kernel_rfl) (fun _ => rfl)) rfl
  ·exact step_pick true hs Wn rfl rfl (fun L u W hG hdep => (oE (.bool true) hG hdep 2)) (fun L u W hG hdep => rfl)
 intro L2 u2 W2 hall hJ hG
 have hb := hJ.all rfl
 have hbel := Below.call hbel hb
 have HC20 := oC (.bool true) hG 1
 have HC21 := oC (.bool true) hG 2
 have HC24 := oC (.bool true) hG 5
 have hbel0 := hbel
 clear hJ hG hall hb
 have hx : u2 5 = .bool true := HC24.out
 go_wp2_with fail
 rw [hx]
 clear hx
 go_upto_region 3 with fail
 refine rgT [(6, 0)] [.oth (fun v => v = .int .i64 12)] ?_ ?_
 ·intro hs
  refine ⟨?_, trivial⟩
  ·exact mvK hs fun _ => rfl
 intro L3 u3 W3 hall hJ hG
 have hb := hJ.all rfl
 have hbel := Below.call hbel hb
 have HC6 := oC (.int .i64 12) hG 0
 have hbel0 := hbel
 clear hJ hG hall hb
 go_wp2
 go_ret
 exact ⟨by rw [HC6.out]; rfl, hbel⟩
set_option maxHeartbeats 1000000 in
theorem rver_small {w : World} {v0 v1 v2 : Value} {pub sig l : List UInt8} (hp : (IsB pub).P v0 w) (hsg : (IsB sig).P v1 w) (h1 : (IsB l).P v2 w) (hm : l.length ≤ 100000) {A : EP} (ka : decV pub = A) (kc : decC pub = 0) (km : decide (Cp.mul 8 A = Cp.zero) = true) :
  Calls Tryz.prog 16 #[v0, v1, v2] w fun e w' => e = .returned (.int .i64 12) ∧ Below w.heap.size w w' := by
 have _u1 := hsg; have _u2 := h1; have _u4 := hm
 clear _u1 _u2 _u4 hsg h1 hm
 have KA := Lib.hid ka; clear ka
 have KC := Lib.hid kc; clear kc
 have KM := Lib.hid km; clear km
 go_enter Tryz.func16, Tryz.ntmps16
 have hbel : Below w.heap.size w w := Below.refl _ _
 have hbel0 := hbel
 go_upto_region 0 with fail
 refine rgT [(6, 0)] [.oth (fun v => v = .int .i64 0)] ?_ ?_
 ·intro hs
  refine ⟨?_, trivial⟩
  ·exact mvK hs fun _ => rfl
 intro L0 u0 W0 hall hJ hG
 have hb := hJ.all rfl
 have hbel := Below.call hbel hb
 have HC6 := oC (.int .i64 0) hG 0
 have hbel0 := hbel
 clear hJ hG hall hb
 go_upto_region 1 with fail
 refine rgT [(7, 5), (0, 7), (5, 2), (0, 0), (0, 1), (0, 3), (0, 4)] [.wld (IsB pub) (some 1), .oth (fun v => IsTV rQ v [A] (.int .i64 0)), .oth (fun v => IsTV rQ v [A] (.int .i64 0)), .val rQ [A], .oth (fun v => v = .int .i64 0), .new 48, .st 5 rQ [A], .oth (fun v => v = .int .i64 0)] ?_ ?_
 ·intro hs
  refine ⟨?_, ?_, ?_, ?_, ?_, ?_, ?_, ?_, trivial⟩
  ·exact step_runP hs Wn rfl fun L u W hJ hG hL hdep => run_moveP (.inl rfl) ((IsB pub).st _ _ _ hp (Below.call hbel (hJ.all rfl)))
  ·refine step_callO hs Wn rfl fun L u W hJ hG hL hdep K hK => ?_
   go_simp
   go_at_call 46
   (with_reducible refine (gQDecode KA.out KC.out (holds_wld (φ := IsB pub) (hG 0 (hdep 0 (by kernel_rfl))) rfl (till_some hL))).mono ?_); rintro e w1 ⟨r, rfl, hr, hb⟩
   exact hK.out _ _ ⟨r, rfl, hr⟩ hb
  ·exact step_pureO hs Wn rfl fun L u W hG hdep => ⟨_, run_move rfl, (show IsTV rQ (u 1) [A] (.int .i64 0) from hG 1 (hdep 1 (by kernel_rfl)))⟩
  ·exact step_pure hs Wn rfl fun L u W hG hdep => run_extractV0 rfl (show IsTV rQ (u 2) [A] (.int .i64 0) from hG 2 (hdep 2 (by kernel_rfl)))
  ·exact step_pureO hs Wn rfl fun L u W hG hdep => run_extractV1 rfl (show IsTV rQ (u 2) [A] (.int .i64 0) from hG 2 (hdep 2 (by kernel_rfl)))
  ·exact step_alloc hs Wn rfl rfl (by omega) rfl allocPt
  ·exact step_store 5 hs (by kernel_rfl) Wn rfl rfl rfl (by kernel_rfl) (by kernel_rfl) (by kernel_rfl) (by kernel_rfl) (fun _ => rfl) (gO 3) tyPt rfl
  ·exact mvO 4 hs
 intro L1 u1 W1 hall hJ hG
 obtain ⟨q7, e7, hq7, _, ht7⟩ := oN 48 hG 5
 have hm7 := oS rQ [A] hG 6 e7
 have hq7 : w.heap.size ≤ q7 := by have := hbel0.size; omega
 have E7 := Lib.hid e7; clear e7
 have hb := hJ.all rfl
 have hbel := Below.call hbel hb
 have HC8 := oC (.int .i64 0) hG 7
 have hbel0 := hbel
 clear hJ hG hall hb
 go_upto_region 2 with fail
 refine rgT [(19, 0), (0, 1), (0, 2), (0, 3), (0, 4), (0, 5)] [.oth (fun v => v = .int .i64 0), .oth (fun v => v = .bool false), .oth (fun v => v = .bool false), .val rQ [A], .oth (fun v => v = .bool true), .oth (fun v => v = .bool true)] ?_ ?_
 ·intro hs
  refine ⟨?_, ?_, ?_, ?_, ?_, ?_, trivial⟩
  ·exact mvK hs fun _ => HC8.out
  ·refine step_pureO hs Wn rfl fun L u W hG hdep => ⟨_, ?_, rfl⟩
   have e0 := (oE (.int .i64 0) hG hdep 0)
   go_simp
   try simp [bne]
  ·exact mvO 1 hs
  ·exact step_load q7 0 hs (wants_on 2 rfl rfl (by kernel_rfl) (fun _ => rfl)) rfl rfl tyPt (fun _ => E7.out) hm7.lt hm7 Na
  ·refine step_callO hs (wants_on 2 rfl rfl (by kernel_rfl) (fun _ => rfl)) rfl fun L u W hJ hG hL hdep K hK => ?_
   have a0 := (vE rQ [A] hG hdep 3)
   go_simp
   go_at_call 47
   (with_reducible refine (kPSmall (b := true) (KM.out) a0 _).mono ?_); rintro e w1 ⟨rfl, hb⟩
   exact hK.out _ _ rfl hb
  ·exact step_pick false hs Wn rfl rfl (fun L u W hG hdep => (oE (.bool false) hG hdep 2)) (fun L u W hG hdep => (oE (.bool true) hG hdep 4))
 intro L2 u2 W2 hall hJ hG
 have hb := hJ.all rfl
 have hbel := Below.call hbel hb
 have HC20 := oC (.bool false) hG 1
 have HC21 := oC (.bool false) hG 2
 have HC23 := oC (.bool true) hG 4
 have HC24 := oC (.bool true) hG 5
 have hbel0 := hbel
 clear hJ hG hall hb
 have hx : u2 5 = .bool true := HC24.out
 go_wp2_with fail
 rw [hx]
 clear hx
 go_upto_region 3 with fail
 refine rgT [(6, 0)] [.oth (fun v => v = .int .i64 12)] ?_ ?_
 ·intro hs
  refine ⟨?_, trivial⟩
  ·exact mvK hs fun _ => rfl
 intro L3 u3 W3 hall hJ hG
 have hb := hJ.all rfl
 have hbel := Below.call hbel hb
 have HC6 := oC (.int .i64 12) hG 0
 have hbel0 := hbel
 clear hJ hG hall hb
 go_wp2
 go_ret
 exact ⟨by rw [HC6.out]; rfl, hbel⟩
set_option maxHeartbeats 1000000 in
theorem rver_len {w : World} {v0 v1 v2 : Value} {pub sig l : List UInt8} (hp : (IsB pub).P v0 w) (hsg : (IsB sig).P v1 w) (h1 : (IsB l).P v2 w) (hm : l.length ≤ 100000) {A : EP} (ka : decV pub = A) (kc : decC pub = 0) (km : decide (Cp.mul 8 A = Cp.zero) = false) {N : Nat} (kn : sig.length = N) (kx : (!((N : Int) == 64)) = true) :
  Calls Tryz.prog 16 #[v0, v1, v2] w fun e w' => e = .returned (.int .i64 3) ∧ Below w.heap.size w w' := by
 have _u2 := h1; have _u4 := hm
 clear _u2 _u4 h1 hm
 have KA := Lib.hid ka; clear ka
 have KC := Lib.hid kc; clear kc
 have KM := Lib.hid km; clear km
 have KN := Lib.hid kn; clear kn
 have KX := Lib.hid kx; clear kx
 go_enter Tryz.func16, Tryz.ntmps16
 have hbel : Below w.heap.size w w := Below.refl _ _
 have hbel0 := hbel
 go_upto_region 0 with fail
 refine rgT [(6, 0)] [.oth (fun v => v = .int .i64 0)] ?_ ?_
 ·intro hs
  refine ⟨?_, trivial⟩
  ·exact mvK hs fun _ => rfl
 intro L0 u0 W0 hall hJ hG
 have hb := hJ.all rfl
 have hbel := Below.call hbel hb
 have HC6 := oC (.int .i64 0) hG 0
 have hbel0 := hbel
 clear hJ hG hall hb
 go_upto_region 1 with fail
 refine rgT [(7, 5), (0, 7), (5, 2), (0, 0), (0, 1), (0, 3), (0, 4)] [.wld (IsB pub) (some 1), .oth (fun v => IsTV rQ v [A] (.int .i64 0)), .oth (fun v => IsTV rQ v [A] (.int .i64 0)), .val rQ [A], .oth (fun v => v = .int .i64 0), .new 48, .st 5 rQ [A], .oth (fun v => v = .int .i64 0)] ?_ ?_
 ·intro hs
  refine ⟨?_, ?_, ?_, ?_, ?_, ?_, ?_, ?_, trivial⟩
  ·exact step_runP hs Wn rfl fun L u W hJ hG hL hdep => run_moveP (.inl rfl) ((IsB pub).st _ _ _ hp (Below.call hbel (hJ.all rfl)))
  ·refine step_callO hs Wn rfl fun L u W hJ hG hL hdep K hK => ?_
   go_simp
   go_at_call 46
   (with_reducible refine (gQDecode KA.out KC.out (holds_wld (φ := IsB pub) (hG 0 (hdep 0 (by kernel_rfl))) rfl (till_some hL))).mono ?_); rintro e w1 ⟨r, rfl, hr, hb⟩
   exact hK.out _ _ ⟨r, rfl, hr⟩ hb
  ·exact step_pureO hs Wn rfl fun L u W hG hdep => ⟨_, run_move rfl, (show IsTV rQ (u 1) [A] (.int .i64 0) from hG 1 (hdep 1 (by kernel_rfl)))⟩
  ·exact step_pure hs Wn rfl fun L u W hG hdep => run_extractV0 rfl (show IsTV rQ (u 2) [A] (.int .i64 0) from hG 2 (hdep 2 (by kernel_rfl)))
  ·exact step_pureO hs Wn rfl fun L u W hG hdep => run_extractV1 rfl (show IsTV rQ (u 2) [A] (.int .i64 0) from hG 2 (hdep 2 (by kernel_rfl)))
  ·exact step_alloc hs Wn rfl rfl (by omega) rfl allocPt
  ·exact step_store 5 hs (by kernel_rfl) Wn rfl rfl rfl (by kernel_rfl) (by kernel_rfl) (by kernel_rfl) (by kernel_rfl) (fun _ => rfl) (gO 3) tyPt rfl
  ·exact mvO 4 hs
 intro L1 u1 W1 hall hJ hG
 obtain ⟨q7, e7, hq7, _, ht7⟩ := oN 48 hG 5
 have hm7 := oS rQ [A] hG 6 e7
 have hq7 : w.heap.size ≤ q7 := by have := hbel0.size; omega
 have E7 := Lib.hid e7; clear e7
 have hb := hJ.all rfl
 have hbel := Below.call hbel hb
 have HC8 := oC (.int .i64 0) hG 7
 have hbel0 := hbel
 clear hJ hG hall hb
 go_upto_region 2 with fail
 refine rgT [(19, 0), (0, 1), (0, 2), (0, 3), (0, 4), (0, 5)] [.oth (fun v => v = .int .i64 0), .oth (fun v => v = .bool false), .oth (fun v => v = .bool false), .val rQ [A], .oth (fun v => v = .bool false), .oth (fun v => v = .bool false)] ?_ ?_
 ·intro hs
  refine ⟨?_, ?_, ?_, ?_, ?_, ?_, trivial⟩
  ·exact mvK hs fun _ => HC8.out
  ·refine step_pureO hs Wn rfl fun L u W hG hdep => ⟨_, ?_, rfl⟩
   have e0 := (oE (.int .i64 0) hG hdep 0)
   go_simp
   try simp [bne]
  ·exact mvO 1 hs
  ·exact step_load q7 0 hs (wants_on 2 rfl rfl (by kernel_rfl) (fun _ => rfl)) rfl rfl tyPt (fun _ => E7.out) hm7.lt hm7 Na
  ·refine step_callO hs (wants_on 2 rfl rfl (by kernel_rfl) (fun _ => rfl)) rfl fun L u W hJ hG hL hdep K hK => ?_
   have a0 := (vE rQ [A] hG hdep 3)
   go_simp
   go_at_call 47
   (with_reducible refine (kPSmall (b := false) (KM.out) a0 _).mono ?_); rintro e w1 ⟨rfl, hb⟩
   exact hK.out _ _ rfl hb
  ·exact step_pick false hs Wn rfl rfl (fun L u W hG hdep => (oE (.bool false) hG hdep 2)) (fun L u W hG hdep => (oE (.bool false) hG hdep 4))
 intro L2 u2 W2 hall hJ hG
 have hb := hJ.all rfl
 have hbel := Below.call hbel hb
 have HC20 := oC (.bool false) hG 1
 have HC21 := oC (.bool false) hG 2
 have HC23 := oC (.bool false) hG 4
 have HC24 := oC (.bool false) hG 5
 have hbel0 := hbel
 clear hJ hG hall hb
 have hx : u2 5 = .bool false := HC24.out
 go_wp2_with fail
 rw [hx]
 clear hx
 go_upto_region 4 with fail
 refine rgT [(25, 0), (0, 1), (0, 2)] [.wld (IsB sig) none, .oth (fun v => v = .int .i64 (N : Int)), .oth (fun v => v = .bool true)] ?_ ?_
 ·intro hs
  refine ⟨?_, ?_, ?_, trivial⟩
  ·exact step_runP hs Wn rfl fun L u W hJ hG hL hdep => run_moveP (.inl rfl) ((IsB sig).st _ _ _ hsg (Below.call hbel (hJ.all rfl)))
  ·exact step_runO hs Wn rfl fun L u W hJ hG hL hdep => run_lenP rfl (hW (IsB sig) hG hdep 0) (by rw [KN.out])
  ·refine step_pureO hs Wn rfl fun L u W hG hdep => ⟨_, ?_, rfl⟩
   have e0 := (oE (.int .i64 (N : Int)) hG hdep 1)
   have e9 := KX.out
   go_simp
   try exact e9
   try simpa using e9
 intro L4 u4 W4 hall hJ hG
 have hb := hJ.all rfl
 have hbel := Below.call hbel hb
 have HC27 := oC (.bool true) hG 2
 have hbel0 := hbel
 clear hJ hG hall hb
 have hx : u4 2 = .bool true := HC27.out
 go_wp2_with fail
 rw [hx]
 clear hx
 go_upto_region 5 with fail
 refine rgT [(6, 0)] [.oth (fun v => v = .int .i64 3)] ?_ ?_
 ·intro hs
  refine ⟨?_, trivial⟩
  ·exact mvK hs fun _ => rfl
 intro L5 u5 W5 hall hJ hG
 have hb := hJ.all rfl
 have hbel := Below.call hbel hb
 have HC6 := oC (.int .i64 3) hG 0
 have hbel0 := hbel
 clear hJ hG hall hb
 go_wp2
 go_ret
 exact ⟨by rw [HC6.out]; rfl, hbel⟩
set_option maxHeartbeats 1000000 in
theorem rver_R {w : World} {v0 v1 v2 : Value} {pub sig l : List UInt8} (hp : (IsB pub).P v0 w) (hsg : (IsB sig).P v1 w) (h1 : (IsB l).P v2 w) (hm : l.length ≤ 100000) {A : EP} (ka : decV pub = A) (kc : decC pub = 0) (km : decide (Cp.mul 8 A = Cp.zero) = false) (kn : sig.length = 64) {Rp : EP} (kr : decV (sig.take 32) = Rp) (krc : decC (sig.take 32) = 12) :
  Calls Tryz.prog 16 #[v0, v1, v2] w fun e w' => e = .returned (.int .i64 3) ∧ Below w.heap.size w w' := by
 have _u2 := h1; have _u4 := hm
 clear _u2 _u4 h1 hm
 have KA := Lib.hid ka; clear ka
 have KC := Lib.hid kc; clear kc
 have KM := Lib.hid km; clear km
 have KN := Lib.hid kn; clear kn
 have KR := Lib.hid kr; clear kr
 have KRC := Lib.hid krc; clear krc
 go_enter Tryz.func16, Tryz.ntmps16
 have hbel : Below w.heap.size w w := Below.refl _ _
 have hbel0 := hbel
 go_upto_region 0 with fail
 refine rgT [(6, 0)] [.oth (fun v => v = .int .i64 0)] ?_ ?_
 ·intro hs
  refine ⟨?_, trivial⟩
  ·exact mvK hs fun _ => rfl
 intro L0 u0 W0 hall hJ hG
 have hb := hJ.all rfl
 have hbel := Below.call hbel hb
 have HC6 := oC (.int .i64 0) hG 0
 have hbel0 := hbel
 clear hJ hG hall hb
 go_upto_region 1 with fail
 refine rgT [(7, 5), (0, 7), (5, 2), (0, 0), (0, 1), (0, 3), (0, 4)] [.wld (IsB pub) (some 1), .oth (fun v => IsTV rQ v [A] (.int .i64 0)), .oth (fun v => IsTV rQ v [A] (.int .i64 0)), .val rQ [A], .oth (fun v => v = .int .i64 0), .new 48, .st 5 rQ [A], .oth (fun v => v = .int .i64 0)] ?_ ?_
 ·intro hs
  refine ⟨?_, ?_, ?_, ?_, ?_, ?_, ?_, ?_, trivial⟩
  ·exact step_runP hs Wn rfl fun L u W hJ hG hL hdep => run_moveP (.inl rfl) ((IsB pub).st _ _ _ hp (Below.call hbel (hJ.all rfl)))
  ·refine step_callO hs Wn rfl fun L u W hJ hG hL hdep K hK => ?_
   go_simp
   go_at_call 46
   (with_reducible refine (gQDecode KA.out KC.out (holds_wld (φ := IsB pub) (hG 0 (hdep 0 (by kernel_rfl))) rfl (till_some hL))).mono ?_); rintro e w1 ⟨r, rfl, hr, hb⟩
   exact hK.out _ _ ⟨r, rfl, hr⟩ hb
  ·exact step_pureO hs Wn rfl fun L u W hG hdep => ⟨_, run_move rfl, (show IsTV rQ (u 1) [A] (.int .i64 0) from hG 1 (hdep 1 (by kernel_rfl)))⟩
  ·exact step_pure hs Wn rfl fun L u W hG hdep => run_extractV0 rfl (show IsTV rQ (u 2) [A] (.int .i64 0) from hG 2 (hdep 2 (by kernel_rfl)))
  ·exact step_pureO hs Wn rfl fun L u W hG hdep => run_extractV1 rfl (show IsTV rQ (u 2) [A] (.int .i64 0) from hG 2 (hdep 2 (by kernel_rfl)))
  ·exact step_alloc hs Wn rfl rfl (by omega) rfl allocPt
  ·exact step_store 5 hs (by kernel_rfl) Wn rfl rfl rfl (by kernel_rfl) (by kernel_rfl) (by kernel_rfl) (by kernel_rfl) (fun _ => rfl) (gO 3) tyPt rfl
  ·exact mvO 4 hs
 intro L1 u1 W1 hall hJ hG
 obtain ⟨q7, e7, hq7, _, ht7⟩ := oN 48 hG 5
 have hm7 := oS rQ [A] hG 6 e7
 have hq7 : w.heap.size ≤ q7 := by have := hbel0.size; omega
 have E7 := Lib.hid e7; clear e7
 have hb := hJ.all rfl
 have hbel := Below.call hbel hb
 have HC8 := oC (.int .i64 0) hG 7
 have hbel0 := hbel
 clear hJ hG hall hb
 go_upto_region 2 with fail
 refine rgT [(19, 0), (0, 1), (0, 2), (0, 3), (0, 4), (0, 5)] [.oth (fun v => v = .int .i64 0), .oth (fun v => v = .bool false), .oth (fun v => v = .bool false), .val rQ [A], .oth (fun v => v = .bool false), .oth (fun v => v = .bool false)] ?_ ?_
 ·intro hs
  refine ⟨?_, ?_, ?_, ?_, ?_, ?_, trivial⟩
  ·exact mvK hs fun _ => HC8.out
  ·refine step_pureO hs Wn rfl fun L u W hG hdep => ⟨_, ?_, rfl⟩
   have e0 := (oE (.int .i64 0) hG hdep 0)
   go_simp
   try simp [bne]
  ·exact mvO 1 hs
  ·exact step_load q7 0 hs (wants_on 2 rfl rfl (by kernel_rfl) (fun _ => rfl)) rfl rfl tyPt (fun _ => E7.out) hm7.lt hm7 Na
  ·refine step_callO hs (wants_on 2 rfl rfl (by kernel_rfl) (fun _ => rfl)) rfl fun L u W hJ hG hL hdep K hK => ?_
   have a0 := (vE rQ [A] hG hdep 3)
   go_simp
   go_at_call 47
   (with_reducible refine (kPSmall (b := false) (KM.out) a0 _).mono ?_); rintro e w1 ⟨rfl, hb⟩
   exact hK.out _ _ rfl hb
  ·exact step_pick false hs Wn rfl rfl (fun L u W hG hdep => (oE (.bool false) hG hdep 2)) (fun L u W hG hdep => (oE (.bool false) hG hdep 4))
 intro L2 u2 W2 hall hJ hG
 have hb := hJ.all rfl
 have hbel := Below.call hbel hb
 have ht7 := there_later ht7 hb
 have HC20 := oC (.bool false) hG 1
 have HC21 := oC (.bool false) hG 2
 have HC23 := oC (.bool false) hG 4
 have HC24 := oC (.bool false) hG 5
 have hbel0 := hbel
 clear hJ hG hall hb
 have hx : u2 5 = .bool false := HC24.out
 go_wp2_with fail
 rw [hx]
 clear hx
 go_upto_region 4 with fail
 refine rgT [(25, 0), (0, 1), (0, 2)] [.wld (IsB sig) none, .oth (fun v => v = .int .i64 64), .oth (fun v => v = .bool false)] ?_ ?_
 ·intro hs
  refine ⟨?_, ?_, ?_, trivial⟩
  ·exact step_runP hs Wn rfl fun L u W hJ hG hL hdep => run_moveP (.inl rfl) ((IsB sig).st _ _ _ hsg (Below.call hbel (hJ.all rfl)))
  ·exact step_runO hs Wn rfl fun L u W hJ hG hL hdep => run_lenP rfl (hW (IsB sig) hG hdep 0) (by rw [KN.out]; rfl)
  ·refine step_pureO hs Wn rfl fun L u W hG hdep => ⟨_, ?_, rfl⟩
   have e0 := (oE (.int .i64 64) hG hdep 1)
   go_simp
   try simp [bne]
 intro L4 u4 W4 hall hJ hG
 have hb := hJ.all rfl
 have hbel := Below.call hbel hb
 have ht7 := there_later ht7 hb
 have HC27 := oC (.bool false) hG 2
 have hbel0 := hbel
 clear hJ hG hall hb
 have hx : u4 2 = .bool false := HC27.out
 go_wp2_with fail
 rw [hx]
 clear hx
 go_upto_region 6 with fail
 refine rgT [(9, 6), (0, 8), (17, 3), (0, 0), (0, 1), (0, 2), (0, 4), (0, 5)] [.wld (IsB sig) (some 1), .wld (IsB (sig.take 32)) (some 2), .oth (fun v => IsTV rQ v [Rp] (.int .i64 12)), .oth (fun v => IsTV rQ v [Rp] (.int .i64 12)), .val rQ [Rp], .oth (fun v => v = .int .i64 12), .new 48, .st 6 rQ [Rp], .oth (fun v => v = .int .i64 12)] ?_ ?_
 ·intro hs
  refine ⟨?_, ?_, ?_, ?_, ?_, ?_, ?_, ?_, ?_, trivial⟩
  ·exact step_runP hs Wn rfl fun L u W hJ hG hL hdep => run_moveP (.inl rfl) ((IsB sig).st _ _ _ hsg (Below.call hbel (hJ.all rfl)))
  ·exact step_runP hs Wn rfl fun L u W hJ hG hL hdep => run_toP (k := 32) rfl rfl (hV (IsB sig) hG hdep hL 0) (by rw [KN.out]; omega)
  ·refine step_callO hs Wn rfl fun L u W hJ hG hL hdep K hK => ?_
   go_simp
   go_at_call 46
   (with_reducible refine (gQDecode KR.out KRC.out (holds_wld (φ := IsB (sig.take 32)) (hG 1 (hdep 1 (by kernel_rfl))) rfl (till_some hL))).mono ?_); rintro e w1 ⟨r, rfl, hr, hb⟩
   exact hK.out _ _ ⟨r, rfl, hr⟩ hb
  ·exact step_pureO hs Wn rfl fun L u W hG hdep => ⟨_, run_move rfl, (show IsTV rQ (u 2) [Rp] (.int .i64 12) from hG 2 (hdep 2 (by kernel_rfl)))⟩
  ·exact step_pure hs Wn rfl fun L u W hG hdep => run_extractV0 rfl (show IsTV rQ (u 3) [Rp] (.int .i64 12) from hG 3 (hdep 3 (by kernel_rfl)))
  ·exact step_pureO hs Wn rfl fun L u W hG hdep => run_extractV1 rfl (show IsTV rQ (u 3) [Rp] (.int .i64 12) from hG 3 (hdep 3 (by kernel_rfl)))
  ·exact step_alloc hs Wn rfl rfl (by omega) rfl allocPt
  ·exact step_store 6 hs (by kernel_rfl) Wn rfl rfl rfl (by kernel_rfl) (by kernel_rfl) (by kernel_rfl) (by kernel_rfl) (fun _ => rfl) (gO 4) tyPt rfl
  ·exact mvO 5 hs
 intro L6 u6 W6 hall hJ hG
 obtain ⟨q9, e9, hq9, _, ht9⟩ := oN 48 hG 6
 have hm9 := oS rQ [Rp] hG 7 e9
 have HD9_q7 := Lib.hid (show q7 ≠ q9 by have := there_lt ht7 (by omega); omega)
 have hq9 : w.heap.size ≤ q9 := by have := hbel0.size; omega
 have E9 := Lib.hid e9; clear e9
 have hb := hJ.all rfl
 have hbel := Below.call hbel hb
 have ht7 := there_later ht7 hb
 have HC10 := oC (.int .i64 12) hG 8
 have hbel0 := hbel
 clear hJ hG hall hb
 go_upto_region 7 with fail
 refine rgT [(11, 6), (0, 8), (21, 3), (0, 0), (0, 1), (0, 2), (0, 4), (0, 5)] [.wld (IsB sig) (some 1), .wld (IsB (sig.drop 32)) (some 2), .oth (fun v => IsTV rC v [ssV (sig.drop 32)] (.int .i64 (ssC (sig.drop 32)))), .oth (fun v => IsTV rC v [ssV (sig.drop 32)] (.int .i64 (ssC (sig.drop 32)))), .val rC [ssV (sig.drop 32)], .oth (fun v => v = .int .i64 (ssC (sig.drop 32))), .new 32, .st 6 rC [ssV (sig.drop 32)], .oth (fun v => v = .int .i64 (ssC (sig.drop 32)))] ?_ ?_
 ·intro hs
  refine ⟨?_, ?_, ?_, ?_, ?_, ?_, ?_, ?_, ?_, trivial⟩
  ·exact step_runP hs Wn rfl fun L u W hJ hG hL hdep => run_moveP (.inl rfl) ((IsB sig).st _ _ _ hsg (Below.call hbel (hJ.all rfl)))
  ·exact step_runP hs Wn rfl fun L u W hJ hG hL hdep => run_fromP (k := 32) rfl rfl (hV (IsB sig) hG hdep hL 0) (by rw [KN.out]; omega)
  ·refine step_callO hs Wn rfl fun L u W hJ hG hL hdep K hK => ?_
   go_simp
   go_at_call 48
   (with_reducible refine (gRStrict rfl rfl (holds_wld (φ := IsB (sig.drop 32)) (hG 1 (hdep 1 (by kernel_rfl))) rfl (till_some hL))).mono ?_); rintro e w1 ⟨r, rfl, hr, hb⟩
   exact hK.out _ _ ⟨r, rfl, hr⟩ hb
  ·exact step_pureO hs Wn rfl fun L u W hG hdep => ⟨_, run_move rfl, (show IsTV rC (u 2) [ssV (sig.drop 32)] (.int .i64 (ssC (sig.drop 32))) from hG 2 (hdep 2 (by kernel_rfl)))⟩
  ·exact step_pure hs Wn rfl fun L u W hG hdep => run_extractV0 rfl (show IsTV rC (u 3) [ssV (sig.drop 32)] (.int .i64 (ssC (sig.drop 32))) from hG 3 (hdep 3 (by kernel_rfl)))
  ·exact step_pureO hs Wn rfl fun L u W hG hdep => run_extractV1 rfl (show IsTV rC (u 3) [ssV (sig.drop 32)] (.int .i64 (ssC (sig.drop 32))) from hG 3 (hdep 3 (by kernel_rfl)))
  ·exact step_alloc hs Wn rfl rfl (by omega) rfl allocSc
  ·exact step_store 6 hs (by kernel_rfl) Wn rfl rfl rfl (by kernel_rfl) (by kernel_rfl) (by kernel_rfl) (by kernel_rfl) (fun _ => rfl) (gO 4) tySc rfl
  ·exact mvO 5 hs
 intro L7 u7 W7 hall hJ hG
 obtain ⟨q11, e11, hq11, _, ht11⟩ := oN 32 hG 6
 have hm11 := oS rC [ssV (sig.drop 32)] hG 7 e11
 have HD11_q7 := Lib.hid (show q7 ≠ q11 by have := there_lt ht7 (by omega); omega)
 have HD11_q9 := Lib.hid (show q9 ≠ q11 by have := there_lt ht9 (by omega); omega)
 have hq11 : w.heap.size ≤ q11 := by have := hbel0.size; omega
 have E11 := Lib.hid e11; clear e11
 have hb := hJ.all rfl
 have hbel := Below.call hbel hb
 have HC12 := oC (.int .i64 (ssC (sig.drop 32))) hG 8
 have hbel0 := hbel
 clear hJ hG hall hb
 go_upto_region 8 with fail
 refine rgT [(40, 0), (0, 1), (0, 2), (0, 3), (0, 4), (0, 5)] [.oth (fun v => v = .int .i64 12), .oth (fun v => v = .bool true), .oth (fun v => v = .bool true), .oth (fun v => v = undef), .oth (fun v => v = undef), .oth (fun v => v = .bool true)] ?_ ?_
 ·intro hs
  refine ⟨?_, ?_, ?_, ?_, ?_, ?_, trivial⟩
  ·exact mvK hs fun _ => HC10.out
  ·refine step_pureO hs Wn rfl fun L u W hG hdep => ⟨_, ?_, rfl⟩
   have e0 := (oE (.int .i64 12) hG hdep 0)
   go_simp
   try simp [bne]
  ·exact mvO 1 hs
  ·exact step_outU hs (wants_off 2 rfl rfl rfl (by kernel_rfl) (fun _ => rfl)) rfl
  ·exact step_outU hs (wants_off 2 rfl rfl rfl (by kernel_rfl) (fun _ => rfl)) rfl
  ·exact step_pick true hs Wn rfl rfl (fun L u W hG hdep => (oE (.bool true) hG hdep 2)) (fun L u W hG hdep => rfl)
 intro L8 u8 W8 hall hJ hG
 have hb := hJ.all rfl
 have hbel := Below.call hbel hb
 have HC41 := oC (.bool true) hG 1
 have HC42 := oC (.bool true) hG 2
 have HC45 := oC (.bool true) hG 5
 have hbel0 := hbel
 clear hJ hG hall hb
 have hx : u8 5 = .bool true := HC45.out
 go_wp2_with fail
 rw [hx]
 clear hx
 go_upto_region 9 with fail
 refine rgT [(6, 0)] [.oth (fun v => v = .int .i64 3)] ?_ ?_
 ·intro hs
  refine ⟨?_, trivial⟩
  ·exact mvK hs fun _ => rfl
 intro L9 u9 W9 hall hJ hG
 have hb := hJ.all rfl
 have hbel := Below.call hbel hb
 have HC6 := oC (.int .i64 3) hG 0
 have hbel0 := hbel
 clear hJ hG hall hb
 go_wp2
 go_ret
 exact ⟨by rw [HC6.out]; rfl, hbel⟩
set_option maxHeartbeats 1000000 in
theorem rver_S {w : World} {v0 v1 v2 : Value} {pub sig l : List UInt8} (hp : (IsB pub).P v0 w) (hsg : (IsB sig).P v1 w) (h1 : (IsB l).P v2 w) (hm : l.length ≤ 100000) {A : EP} (ka : decV pub = A) (kc : decC pub = 0) (km : decide (Cp.mul 8 A = Cp.zero) = false) (kn : sig.length = 64) {Rp : EP} (kr : decV (sig.take 32) = Rp) (krc : decC (sig.take 32) = 0) {s : F} (ks : ssV (sig.drop 32) = s) (ksc : ssC (sig.drop 32) = 2) :
  Calls Tryz.prog 16 #[v0, v1, v2] w fun e w' => e = .returned (.int .i64 3) ∧ Below w.heap.size w w' := by
 have _u2 := h1; have _u4 := hm
 clear _u2 _u4 h1 hm
 have KA := Lib.hid ka; clear ka
 have KC := Lib.hid kc; clear kc
 have KM := Lib.hid km; clear km
 have KN := Lib.hid kn; clear kn
 have KR := Lib.hid kr; clear kr
 have KRC := Lib.hid krc; clear krc
 have KS := Lib.hid ks; clear ks
 have KSC := Lib.hid ksc; clear ksc
 go_enter Tryz.func16, Tryz.ntmps16
 have hbel : Below w.heap.size w w := Below.refl _ _
 have hbel0 := hbel
 go_upto_region 0 with fail
 refine rgT [(6, 0)] [.oth (fun v => v = .int .i64 0)] ?_ ?_
 ·intro hs
  refine ⟨?_, trivial⟩
  ·exact mvK hs fun _ => rfl
 intro L0 u0 W0 hall hJ hG
 have hb := hJ.all rfl
 have hbel := Below.call hbel hb
 have HC6 := oC (.int .i64 0) hG 0
 have hbel0 := hbel
 clear hJ hG hall hb
 go_upto_region 1 with fail
 refine rgT [(7, 5), (0, 7), (5, 2), (0, 0), (0, 1), (0, 3), (0, 4)] [.wld (IsB pub) (some 1), .oth (fun v => IsTV rQ v [A] (.int .i64 0)), .oth (fun v => IsTV rQ v [A] (.int .i64 0)), .val rQ [A], .oth (fun v => v = .int .i64 0), .new 48, .st 5 rQ [A], .oth (fun v => v = .int .i64 0)] ?_ ?_
 ·intro hs
  refine ⟨?_, ?_, ?_, ?_, ?_, ?_, ?_, ?_, trivial⟩
  ·exact step_runP hs Wn rfl fun L u W hJ hG hL hdep => run_moveP (.inl rfl) ((IsB pub).st _ _ _ hp (Below.call hbel (hJ.all rfl)))
  ·refine step_callO hs Wn rfl fun L u W hJ hG hL hdep K hK => ?_
   go_simp
   go_at_call 46
   (with_reducible refine (gQDecode KA.out KC.out (holds_wld (φ := IsB pub) (hG 0 (hdep 0 (by kernel_rfl))) rfl (till_some hL))).mono ?_); rintro e w1 ⟨r, rfl, hr, hb⟩
   exact hK.out _ _ ⟨r, rfl, hr⟩ hb
  ·exact step_pureO hs Wn rfl fun L u W hG hdep => ⟨_, run_move rfl, (show IsTV rQ (u 1) [A] (.int .i64 0) from hG 1 (hdep 1 (by kernel_rfl)))⟩
  ·exact step_pure hs Wn rfl fun L u W hG hdep => run_extractV0 rfl (show IsTV rQ (u 2) [A] (.int .i64 0) from hG 2 (hdep 2 (by kernel_rfl)))
  ·exact step_pureO hs Wn rfl fun L u W hG hdep => run_extractV1 rfl (show IsTV rQ (u 2) [A] (.int .i64 0) from hG 2 (hdep 2 (by kernel_rfl)))
  ·exact step_alloc hs Wn rfl rfl (by omega) rfl allocPt
  ·exact step_store 5 hs (by kernel_rfl) Wn rfl rfl rfl (by kernel_rfl) (by kernel_rfl) (by kernel_rfl) (by kernel_rfl) (fun _ => rfl) (gO 3) tyPt rfl
  ·exact mvO 4 hs
 intro L1 u1 W1 hall hJ hG
 obtain ⟨q7, e7, hq7, _, ht7⟩ := oN 48 hG 5
 have hm7 := oS rQ [A] hG 6 e7
 have hq7 : w.heap.size ≤ q7 := by have := hbel0.size; omega
 have E7 := Lib.hid e7; clear e7
 have hb := hJ.all rfl
 have hbel := Below.call hbel hb
 have HC8 := oC (.int .i64 0) hG 7
 have hbel0 := hbel
 clear hJ hG hall hb
 go_upto_region 2 with fail
 refine rgT [(19, 0), (0, 1), (0, 2), (0, 3), (0, 4), (0, 5)] [.oth (fun v => v = .int .i64 0), .oth (fun v => v = .bool false), .oth (fun v => v = .bool false), .val rQ [A], .oth (fun v => v = .bool false), .oth (fun v => v = .bool false)] ?_ ?_
 ·intro hs
  refine ⟨?_, ?_, ?_, ?_, ?_, ?_, trivial⟩
  ·exact mvK hs fun _ => HC8.out
  ·refine step_pureO hs Wn rfl fun L u W hG hdep => ⟨_, ?_, rfl⟩
   have e0 := (oE (.int .i64 0) hG hdep 0)
   go_simp
   try simp [bne]
  ·exact mvO 1 hs
  ·exact step_load q7 0 hs (wants_on 2 rfl rfl (by kernel_rfl) (fun _ => rfl)) rfl rfl tyPt (fun _ => E7.out) hm7.lt hm7 Na
  ·refine step_callO hs (wants_on 2 rfl rfl (by kernel_rfl) (fun _ => rfl)) rfl fun L u W hJ hG hL hdep K hK => ?_
   have a0 := (vE rQ [A] hG hdep 3)
   go_simp
   go_at_call 47
   (with_reducible refine (kPSmall (b := false) (KM.out) a0 _).mono ?_); rintro e w1 ⟨rfl, hb⟩
   exact hK.out _ _ rfl hb
  ·exact step_pick false hs Wn rfl rfl (fun L u W hG hdep => (oE (.bool false) hG hdep 2)) (fun L u W hG hdep => (oE (.bool false) hG hdep 4))
 intro L2 u2 W2 hall hJ hG
 have hb := hJ.all rfl
 have hbel := Below.call hbel hb
 have ht7 := there_later ht7 hb
 have HC20 := oC (.bool false) hG 1
 have HC21 := oC (.bool false) hG 2
 have HC23 := oC (.bool false) hG 4
 have HC24 := oC (.bool false) hG 5
 have hbel0 := hbel
 clear hJ hG hall hb
 have hx : u2 5 = .bool false := HC24.out
 go_wp2_with fail
 rw [hx]
 clear hx
 go_upto_region 4 with fail
 refine rgT [(25, 0), (0, 1), (0, 2)] [.wld (IsB sig) none, .oth (fun v => v = .int .i64 64), .oth (fun v => v = .bool false)] ?_ ?_
 ·intro hs
  refine ⟨?_, ?_, ?_, trivial⟩
  ·exact step_runP hs Wn rfl fun L u W hJ hG hL hdep => run_moveP (.inl rfl) ((IsB sig).st _ _ _ hsg (Below.call hbel (hJ.all rfl)))
  ·exact step_runO hs Wn rfl fun L u W hJ hG hL hdep => run_lenP rfl (hW (IsB sig) hG hdep 0) (by rw [KN.out]; rfl)
  ·refine step_pureO hs Wn rfl fun L u W hG hdep => ⟨_, ?_, rfl⟩
   have e0 := (oE (.int .i64 64) hG hdep 1)
   go_simp
   try simp [bne]
 intro L4 u4 W4 hall hJ hG
 have hb := hJ.all rfl
 have hbel := Below.call hbel hb
 have ht7 := there_later ht7 hb
 have HC27 := oC (.bool false) hG 2
 have hbel0 := hbel
 clear hJ hG hall hb
 have hx : u4 2 = .bool false := HC27.out
 go_wp2_with fail
 rw [hx]
 clear hx
 go_upto_region 6 with fail
 refine rgT [(9, 6), (0, 8), (17, 3), (0, 0), (0, 1), (0, 2), (0, 4), (0, 5)] [.wld (IsB sig) (some 1), .wld (IsB (sig.take 32)) (some 2), .oth (fun v => IsTV rQ v [Rp] (.int .i64 0)), .oth (fun v => IsTV rQ v [Rp] (.int .i64 0)), .val rQ [Rp], .oth (fun v => v = .int .i64 0), .new 48, .st 6 rQ [Rp], .oth (fun v => v = .int .i64 0)] ?_ ?_
 ·intro hs
  refine ⟨?_, ?_, ?_, ?_, ?_, ?_, ?_, ?_, ?_, trivial⟩
  ·exact step_runP hs Wn rfl fun L u W hJ hG hL hdep => run_moveP (.inl rfl) ((IsB sig).st _ _ _ hsg (Below.call hbel (hJ.all rfl)))
  ·exact step_runP hs Wn rfl fun L u W hJ hG hL hdep => run_toP (k := 32) rfl rfl (hV (IsB sig) hG hdep hL 0) (by rw [KN.out]; omega)
  ·refine step_callO hs Wn rfl fun L u W hJ hG hL hdep K hK => ?_
   go_simp
   go_at_call 46
   (with_reducible refine (gQDecode KR.out KRC.out (holds_wld (φ := IsB (sig.take 32)) (hG 1 (hdep 1 (by kernel_rfl))) rfl (till_some hL))).mono ?_); rintro e w1 ⟨r, rfl, hr, hb⟩
   exact hK.out _ _ ⟨r, rfl, hr⟩ hb
  ·exact step_pureO hs Wn rfl fun L u W hG hdep => ⟨_, run_move rfl, (show IsTV rQ (u 2) [Rp] (.int .i64 0) from hG 2 (hdep 2 (by kernel_rfl)))⟩
  ·exact step_pure hs Wn rfl fun L u W hG hdep => run_extractV0 rfl (show IsTV rQ (u 3) [Rp] (.int .i64 0) from hG 3 (hdep 3 (by kernel_rfl)))
  ·exact step_pureO hs Wn rfl fun L u W hG hdep => run_extractV1 rfl (show IsTV rQ (u 3) [Rp] (.int .i64 0) from hG 3 (hdep 3 (by kernel_rfl)))
  ·exact step_alloc hs Wn rfl rfl (by omega) rfl allocPt
  ·exact step_store 6 hs (by kernel_rfl) Wn rfl rfl rfl (by kernel_rfl) (by kernel_rfl) (by kernel_rfl) (by kernel_rfl) (fun _ => rfl) (gO 4) tyPt rfl
  ·exact mvO 5 hs
 intro L6 u6 W6 hall hJ hG
 obtain ⟨q9, e9, hq9, _, ht9⟩ := oN 48 hG 6
 have hm9 := oS rQ [Rp] hG 7 e9
 have HD9_q7 := Lib.hid (show q7 ≠ q9 by have := there_lt ht7 (by omega); omega)
 have hq9 : w.heap.size ≤ q9 := by have := hbel0.size; omega
 have E9 := Lib.hid e9; clear e9
 have hb := hJ.all rfl
 have hbel := Below.call hbel hb
 have ht7 := there_later ht7 hb
 have HC10 := oC (.int .i64 0) hG 8
 have hbel0 := hbel
 clear hJ hG hall hb
 go_upto_region 7 with fail
 refine rgT [(11, 6), (0, 8), (21, 3), (0, 0), (0, 1), (0, 2), (0, 4), (0, 5)] [.wld (IsB sig) (some 1), .wld (IsB (sig.drop 32)) (some 2), .oth (fun v => IsTV rC v [s] (.int .i64 2)), .oth (fun v => IsTV rC v [s] (.int .i64 2)), .val rC [s], .oth (fun v => v = .int .i64 2), .new 32, .st 6 rC [s], .oth (fun v => v = .int .i64 2)] ?_ ?_
 ·intro hs
  refine ⟨?_, ?_, ?_, ?_, ?_, ?_, ?_, ?_, ?_, trivial⟩
  ·exact step_runP hs Wn rfl fun L u W hJ hG hL hdep => run_moveP (.inl rfl) ((IsB sig).st _ _ _ hsg (Below.call hbel (hJ.all rfl)))
  ·exact step_runP hs Wn rfl fun L u W hJ hG hL hdep => run_fromP (k := 32) rfl rfl (hV (IsB sig) hG hdep hL 0) (by rw [KN.out]; omega)
  ·refine step_callO hs Wn rfl fun L u W hJ hG hL hdep K hK => ?_
   go_simp
   go_at_call 48
   (with_reducible refine (gRStrict KS.out KSC.out (holds_wld (φ := IsB (sig.drop 32)) (hG 1 (hdep 1 (by kernel_rfl))) rfl (till_some hL))).mono ?_); rintro e w1 ⟨r, rfl, hr, hb⟩
   exact hK.out _ _ ⟨r, rfl, hr⟩ hb
  ·exact step_pureO hs Wn rfl fun L u W hG hdep => ⟨_, run_move rfl, (show IsTV rC (u 2) [s] (.int .i64 2) from hG 2 (hdep 2 (by kernel_rfl)))⟩
  ·exact step_pure hs Wn rfl fun L u W hG hdep => run_extractV0 rfl (show IsTV rC (u 3) [s] (.int .i64 2) from hG 3 (hdep 3 (by kernel_rfl)))
  ·exact step_pureO hs Wn rfl fun L u W hG hdep => run_extractV1 rfl (show IsTV rC (u 3) [s] (.int .i64 2) from hG 3 (hdep 3 (by kernel_rfl)))
  ·exact step_alloc hs Wn rfl rfl (by omega) rfl allocSc
  ·exact step_store 6 hs (by kernel_rfl) Wn rfl rfl rfl (by kernel_rfl) (by kernel_rfl) (by kernel_rfl) (by kernel_rfl) (fun _ => rfl) (gO 4) tySc rfl
  ·exact mvO 5 hs
 intro L7 u7 W7 hall hJ hG
 obtain ⟨q11, e11, hq11, _, ht11⟩ := oN 32 hG 6
 have hm11 := oS rC [s] hG 7 e11
 have HD11_q7 := Lib.hid (show q7 ≠ q11 by have := there_lt ht7 (by omega); omega)
 have HD11_q9 := Lib.hid (show q9 ≠ q11 by have := there_lt ht9 (by omega); omega)
 have hq11 : w.heap.size ≤ q11 := by have := hbel0.size; omega
 have E11 := Lib.hid e11; clear e11
 have hb := hJ.all rfl
 have hbel := Below.call hbel hb
 have HC12 := oC (.int .i64 2) hG 8
 have hbel0 := hbel
 clear hJ hG hall hb
 go_upto_region 8 with fail
 refine rgT [(40, 0), (0, 1), (0, 2), (0, 3), (0, 4), (0, 5)] [.oth (fun v => v = .int .i64 0), .oth (fun v => v = .bool false), .oth (fun v => v = .bool false), .oth (fun v => v = .int .i64 2), .oth (fun v => v = .bool true), .oth (fun v => v = .bool true)] ?_ ?_
 ·intro hs
  refine ⟨?_, ?_, ?_, ?_, ?_, ?_, trivial⟩
  ·exact mvK hs fun _ => HC10.out
  ·refine step_pureO hs Wn rfl fun L u W hG hdep => ⟨_, ?_, rfl⟩
   have e0 := (oE (.int .i64 0) hG hdep 0)
   go_simp
   try simp [bne]
  ·exact mvO 1 hs
  ·exact step_pureO hs (wants_on 2 rfl rfl (by kernel_rfl) (fun _ => rfl)) rfl fun L u W hG hdep => ⟨_, run_move rfl, HC12.out⟩
  ·refine step_pureO hs (wants_on 2 rfl rfl (by kernel_rfl) (fun _ => rfl)) rfl fun L u W hG hdep => ⟨_, ?_, rfl⟩
   have e0 := (oE (.int .i64 2) hG hdep 3)
   go_simp
   try simp [bne]
  ·exact step_pick false hs Wn rfl rfl (fun L u W hG hdep => (oE (.bool false) hG hdep 2)) (fun L u W hG hdep => (oE (.bool true) hG hdep 4))
 intro L8 u8 W8 hall hJ hG
 have hb := hJ.all rfl
 have hbel := Below.call hbel hb
 have HC41 := oC (.bool false) hG 1
 have HC42 := oC (.bool false) hG 2
 have HC44 := oC (.bool true) hG 4
 have HC45 := oC (.bool true) hG 5
 have hbel0 := hbel
 clear hJ hG hall hb
 have hx : u8 5 = .bool true := HC45.out
 go_wp2_with fail
 rw [hx]
 clear hx
 go_upto_region 9 with fail
 refine rgT [(6, 0)] [.oth (fun v => v = .int .i64 3)] ?_ ?_
 ·intro hs
  refine ⟨?_, trivial⟩
  ·exact mvK hs fun _ => rfl
 intro L9 u9 W9 hall hJ hG
 have hb := hJ.all rfl
 have hbel := Below.call hbel hb
 have HC6 := oC (.int .i64 3) hG 0
 have hbel0 := hbel
 clear hJ hG hall hb
 go_wp2
 go_ret
 exact ⟨by rw [HC6.out]; rfl, hbel⟩
set_option maxHeartbeats 1000000 in
theorem rver_true {w : World} {v0 v1 v2 : Value} {pub sig l : List UInt8} (hp : (IsB pub).P v0 w) (hsg : (IsB sig).P v1 w) (h1 : (IsB l).P v2 w) (hm : l.length ≤ 100000) {A : EP} (ka : decV pub = A) (kc : decC pub = 0) (km : decide (Cp.mul 8 A = Cp.zero) = false) (kn : sig.length = 64) {Rp : EP} (kr : decV (sig.take 32) = Rp) (krc : decC (sig.take 32) = 0) {s : F} (ks : ssV (sig.drop 32) = s) (ksc : ssC (sig.drop 32) = 0) (kl : pub.length = 32) (kb : decide (Cp.mul s.val base = Cp.add Rp (Cp.mul (wS (sha512 (sig.take 32 ++ (pub ++ l)))).val A)) = true) :
  Calls Tryz.prog 16 #[v0, v1, v2] w fun e w' => e = .returned (.int .i64 0) ∧ Below w.heap.size w w' := by
 have HM := Lib.hid hm
 clear hm
 have KA := Lib.hid ka; clear ka
 have KC := Lib.hid kc; clear kc
 have KM := Lib.hid km; clear km
 have KN := Lib.hid kn; clear kn
 have KR := Lib.hid kr; clear kr
 have KRC := Lib.hid krc; clear krc
 have KS := Lib.hid ks; clear ks
 have KSC := Lib.hid ksc; clear ksc
 have KL := Lib.hid kl; clear kl
 have KB := Lib.hid kb; clear kb
 go_enter Tryz.func16, Tryz.ntmps16
 have hbel : Below w.heap.size w w := Below.refl _ _
 have hbel0 := hbel
 go_upto_region 0 with fail
 refine rgT [(6, 0)] [.oth (fun v => v = .int .i64 0)] ?_ ?_
 ·intro hs
  refine ⟨?_, trivial⟩
  ·exact mvK hs fun _ => rfl
 intro L0 u0 W0 hall hJ hG
 have hb := hJ.all rfl
 have hbel := Below.call hbel hb
 have HC6 := oC (.int .i64 0) hG 0
 have hbel0 := hbel
 clear hJ hG hall hb
 go_upto_region 1 with fail
 refine rgT [(7, 5), (0, 7), (5, 2), (0, 0), (0, 1), (0, 3), (0, 4)] [.wld (IsB pub) (some 1), .oth (fun v => IsTV rQ v [A] (.int .i64 0)), .oth (fun v => IsTV rQ v [A] (.int .i64 0)), .val rQ [A], .oth (fun v => v = .int .i64 0), .new 48, .st 5 rQ [A], .oth (fun v => v = .int .i64 0)] ?_ ?_
 ·intro hs
  refine ⟨?_, ?_, ?_, ?_, ?_, ?_, ?_, ?_, trivial⟩
  ·exact step_runP hs Wn rfl fun L u W hJ hG hL hdep => run_moveP (.inl rfl) ((IsB pub).st _ _ _ hp (Below.call hbel (hJ.all rfl)))
  ·refine step_callO hs Wn rfl fun L u W hJ hG hL hdep K hK => ?_
   go_simp
   go_at_call 46
   (with_reducible refine (gQDecode KA.out KC.out (holds_wld (φ := IsB pub) (hG 0 (hdep 0 (by kernel_rfl))) rfl (till_some hL))).mono ?_); rintro e w1 ⟨r, rfl, hr, hb⟩
   exact hK.out _ _ ⟨r, rfl, hr⟩ hb
  ·exact step_pureO hs Wn rfl fun L u W hG hdep => ⟨_, run_move rfl, (show IsTV rQ (u 1) [A] (.int .i64 0) from hG 1 (hdep 1 (by kernel_rfl)))⟩
  ·exact step_pure hs Wn rfl fun L u W hG hdep => run_extractV0 rfl (show IsTV rQ (u 2) [A] (.int .i64 0) from hG 2 (hdep 2 (by kernel_rfl)))
  ·exact step_pureO hs Wn rfl fun L u W hG hdep => run_extractV1 rfl (show IsTV rQ (u 2) [A] (.int .i64 0) from hG 2 (hdep 2 (by kernel_rfl)))
  ·exact step_alloc hs Wn rfl rfl (by omega) rfl allocPt
  ·exact step_store 5 hs (by kernel_rfl) Wn rfl rfl rfl (by kernel_rfl) (by kernel_rfl) (by kernel_rfl) (by kernel_rfl) (fun _ => rfl) (gO 3) tyPt rfl
  ·exact mvO 4 hs
 intro L1 u1 W1 hall hJ hG
 obtain ⟨q7, e7, hq7, _, ht7⟩ := oN 48 hG 5
 have hm7 := oS rQ [A] hG 6 e7
 have hq7 : w.heap.size ≤ q7 := by have := hbel0.size; omega
 have E7 := Lib.hid e7; clear e7
 have hb := hJ.all rfl
 have hbel := Below.call hbel hb
 have HC8 := oC (.int .i64 0) hG 7
 have hbel0 := hbel
 clear hJ hG hall hb
 go_upto_region 2 with fail
 refine rgT [(19, 0), (0, 1), (0, 2), (0, 3), (0, 4), (0, 5)] [.oth (fun v => v = .int .i64 0), .oth (fun v => v = .bool false), .oth (fun v => v = .bool false), .val rQ [A], .oth (fun v => v = .bool false), .oth (fun v => v = .bool false)] ?_ ?_
 ·intro hs
  refine ⟨?_, ?_, ?_, ?_, ?_, ?_, trivial⟩
  ·exact mvK hs fun _ => HC8.out
  ·refine step_pureO hs Wn rfl fun L u W hG hdep => ⟨_, ?_, rfl⟩
   have e0 := (oE (.int .i64 0) hG hdep 0)
   go_simp
   try simp [bne]
  ·exact mvO 1 hs
  ·exact step_load q7 0 hs (wants_on 2 rfl rfl (by kernel_rfl) (fun _ => rfl)) rfl rfl tyPt (fun _ => E7.out) hm7.lt hm7 Na
  ·refine step_callO hs (wants_on 2 rfl rfl (by kernel_rfl) (fun _ => rfl)) rfl fun L u W hJ hG hL hdep K hK => ?_
   have a0 := (vE rQ [A] hG hdep 3)
   go_simp
   go_at_call 47
   (with_reducible refine (kPSmall (b := false) (KM.out) a0 _).mono ?_); rintro e w1 ⟨rfl, hb⟩
   exact hK.out _ _ rfl hb
  ·exact step_pick false hs Wn rfl rfl (fun L u W hG hdep => (oE (.bool false) hG hdep 2)) (fun L u W hG hdep => (oE (.bool false) hG hdep 4))
 intro L2 u2 W2 hall hJ hG
 have hb := hJ.all rfl
 have hbel := Below.call hbel hb
 have hm7 := hm7.later hb
 have ht7 := there_later ht7 hb
 have HC20 := oC (.bool false) hG 1
 have HC21 := oC (.bool false) hG 2
 have HC23 := oC (.bool false) hG 4
 have HC24 := oC (.bool false) hG 5
 have hbel0 := hbel
 clear hJ hG hall hb
 have hx : u2 5 = .bool false := HC24.out
 go_wp2_with fail
 rw [hx]
 clear hx
 go_upto_region 4 with fail
 refine rgT [(25, 0), (0, 1), (0, 2)] [.wld (IsB sig) none, .oth (fun v => v = .int .i64 64), .oth (fun v => v = .bool false)] ?_ ?_
 ·intro hs
  refine ⟨?_, ?_, ?_, trivial⟩
  ·exact step_runP hs Wn rfl fun L u W hJ hG hL hdep => run_moveP (.inl rfl) ((IsB sig).st _ _ _ hsg (Below.call hbel (hJ.all rfl)))
  ·exact step_runO hs Wn rfl fun L u W hJ hG hL hdep => run_lenP rfl (hW (IsB sig) hG hdep 0) (by rw [KN.out]; rfl)
  ·refine step_pureO hs Wn rfl fun L u W hG hdep => ⟨_, ?_, rfl⟩
   have e0 := (oE (.int .i64 64) hG hdep 1)
   go_simp
   try simp [bne]
 intro L4 u4 W4 hall hJ hG
 have hb := hJ.all rfl
 have hbel := Below.call hbel hb
 have hm7 := hm7.later hb
 have ht7 := there_later ht7 hb
 have HC27 := oC (.bool false) hG 2
 have hbel0 := hbel
 clear hJ hG hall hb
 have hx : u4 2 = .bool false := HC27.out
 go_wp2_with fail
 rw [hx]
 clear hx
 go_upto_region 6 with fail
 refine rgT [(9, 6), (0, 8), (17, 3), (0, 0), (0, 1), (0, 2), (0, 4), (0, 5)] [.wld (IsB sig) (some 1), .wld (IsB (sig.take 32)) (some 2), .oth (fun v => IsTV rQ v [Rp] (.int .i64 0)), .oth (fun v => IsTV rQ v [Rp] (.int .i64 0)), .val rQ [Rp], .oth (fun v => v = .int .i64 0), .new 48, .st 6 rQ [Rp], .oth (fun v => v = .int .i64 0)] ?_ ?_
 ·intro hs
  refine ⟨?_, ?_, ?_, ?_, ?_, ?_, ?_, ?_, ?_, trivial⟩
  ·exact step_runP hs Wn rfl fun L u W hJ hG hL hdep => run_moveP (.inl rfl) ((IsB sig).st _ _ _ hsg (Below.call hbel (hJ.all rfl)))
  ·exact step_runP hs Wn rfl fun L u W hJ hG hL hdep => run_toP (k := 32) rfl rfl (hV (IsB sig) hG hdep hL 0) (by rw [KN.out]; omega)
  ·refine step_callO hs Wn rfl fun L u W hJ hG hL hdep K hK => ?_
   go_simp
   go_at_call 46
   (with_reducible refine (gQDecode KR.out KRC.out (holds_wld (φ := IsB (sig.take 32)) (hG 1 (hdep 1 (by kernel_rfl))) rfl (till_some hL))).mono ?_); rintro e w1 ⟨r, rfl, hr, hb⟩
   exact hK.out _ _ ⟨r, rfl, hr⟩ hb
  ·exact step_pureO hs Wn rfl fun L u W hG hdep => ⟨_, run_move rfl, (show IsTV rQ (u 2) [Rp] (.int .i64 0) from hG 2 (hdep 2 (by kernel_rfl)))⟩
  ·exact step_pure hs Wn rfl fun L u W hG hdep => run_extractV0 rfl (show IsTV rQ (u 3) [Rp] (.int .i64 0) from hG 3 (hdep 3 (by kernel_rfl)))
  ·exact step_pureO hs Wn rfl fun L u W hG hdep => run_extractV1 rfl (show IsTV rQ (u 3) [Rp] (.int .i64 0) from hG 3 (hdep 3 (by kernel_rfl)))
  ·exact step_alloc hs Wn rfl rfl (by omega) rfl allocPt
  ·exact step_store 6 hs (by kernel_rfl) Wn rfl rfl rfl (by kernel_rfl) (by kernel_rfl) (by kernel_rfl) (by kernel_rfl) (fun _ => rfl) (gO 4) tyPt rfl
  ·exact mvO 5 hs
 intro L6 u6 W6 hall hJ hG
 obtain ⟨q9, e9, hq9, _, ht9⟩ := oN 48 hG 6
 have hm9 := oS rQ [Rp] hG 7 e9
 have HD9_q7 := Lib.hid (show q7 ≠ q9 by have := there_lt ht7 (by omega); omega)
 have hq9 : w.heap.size ≤ q9 := by have := hbel0.size; omega
 have E9 := Lib.hid e9; clear e9
 have hb := hJ.all rfl
 have hbel := Below.call hbel hb
 have hm7 := hm7.later hb
 have ht7 := there_later ht7 hb
 have HC10 := oC (.int .i64 0) hG 8
 have hbel0 := hbel
 clear hJ hG hall hb
 go_upto_region 7 with fail
 refine rgT [(11, 6), (0, 8), (21, 3), (0, 0), (0, 1), (0, 2), (0, 4), (0, 5)] [.wld (IsB sig) (some 1), .wld (IsB (sig.drop 32)) (some 2), .oth (fun v => IsTV rC v [s] (.int .i64 0)), .oth (fun v => IsTV rC v [s] (.int .i64 0)), .val rC [s], .oth (fun v => v = .int .i64 0), .new 32, .st 6 rC [s], .oth (fun v => v = .int .i64 0)] ?_ ?_
 ·intro hs
  refine ⟨?_, ?_, ?_, ?_, ?_, ?_, ?_, ?_, ?_, trivial⟩
  ·exact step_runP hs Wn rfl fun L u W hJ hG hL hdep => run_moveP (.inl rfl) ((IsB sig).st _ _ _ hsg (Below.call hbel (hJ.all rfl)))
  ·exact step_runP hs Wn rfl fun L u W hJ hG hL hdep => run_fromP (k := 32) rfl rfl (hV (IsB sig) hG hdep hL 0) (by rw [KN.out]; omega)
  ·refine step_callO hs Wn rfl fun L u W hJ hG hL hdep K hK => ?_
   go_simp
   go_at_call 48
   (with_reducible refine (gRStrict KS.out KSC.out (holds_wld (φ := IsB (sig.drop 32)) (hG 1 (hdep 1 (by kernel_rfl))) rfl (till_some hL))).mono ?_); rintro e w1 ⟨r, rfl, hr, hb⟩
   exact hK.out _ _ ⟨r, rfl, hr⟩ hb
  ·exact step_pureO hs Wn rfl fun L u W hG hdep => ⟨_, run_move rfl, (show IsTV rC (u 2) [s] (.int .i64 0) from hG 2 (hdep 2 (by kernel_rfl)))⟩
  ·exact step_pure hs Wn rfl fun L u W hG hdep => run_extractV0 rfl (show IsTV rC (u 3) [s] (.int .i64 0) from hG 3 (hdep 3 (by kernel_rfl)))
  ·exact step_pureO hs Wn rfl fun L u W hG hdep => run_extractV1 rfl (show IsTV rC (u 3) [s] (.int .i64 0) from hG 3 (hdep 3 (by kernel_rfl)))
  ·exact step_alloc hs Wn rfl rfl (by omega) rfl allocSc
  ·exact step_store 6 hs (by kernel_rfl) Wn rfl rfl rfl (by kernel_rfl) (by kernel_rfl) (by kernel_rfl) (by kernel_rfl) (fun _ => rfl) (gO 4) tySc rfl
  ·exact mvO 5 hs
 intro L7 u7 W7 hall hJ hG
 obtain ⟨q11, e11, hq11, _, ht11⟩ := oN 32 hG 6
 have hm11 := oS rC [s] hG 7 e11
 have HD11_q7 := Lib.hid (show q7 ≠ q11 by have := there_lt ht7 (by omega); omega)
 have HD11_q9 := Lib.hid (show q9 ≠ q11 by have := there_lt ht9 (by omega); omega)
 have hq11 : w.heap.size ≤ q11 := by have := hbel0.size; omega
 have E11 := Lib.hid e11; clear e11
 have hb := hJ.all rfl
 have hbel := Below.call hbel hb
 have hm7 := hm7.later hb
 have hm9 := hm9.later hb
 have ht7 := there_later ht7 hb
 have ht9 := there_later ht9 hb
 have HC12 := oC (.int .i64 0) hG 8
 have hbel0 := hbel
 clear hJ hG hall hb
 go_upto_region 8 with fail
 refine rgT [(40, 0), (0, 1), (0, 2), (0, 3), (0, 4), (0, 5)] [.oth (fun v => v = .int .i64 0), .oth (fun v => v = .bool false), .oth (fun v => v = .bool false), .oth (fun v => v = .int .i64 0), .oth (fun v => v = .bool false), .oth (fun v => v = .bool false)] ?_ ?_
 ·intro hs
  refine ⟨?_, ?_, ?_, ?_, ?_, ?_, trivial⟩
  ·exact mvK hs fun _ => HC10.out
  ·refine step_pureO hs Wn rfl fun L u W hG hdep => ⟨_, ?_, rfl⟩
   have e0 := (oE (.int .i64 0) hG hdep 0)
   go_simp
   try simp [bne]
  ·exact mvO 1 hs
  ·exact step_pureO hs (wants_on 2 rfl rfl (by kernel_rfl) (fun _ => rfl)) rfl fun L u W hG hdep => ⟨_, run_move rfl, HC12.out⟩
  ·refine step_pureO hs (wants_on 2 rfl rfl (by kernel_rfl) (fun _ => rfl)) rfl fun L u W hG hdep => ⟨_, ?_, rfl⟩
   have e0 := (oE (.int .i64 0) hG hdep 3)
   go_simp
   try simp [bne]
  ·exact step_pick false hs Wn rfl rfl (fun L u W hG hdep => (oE (.bool false) hG hdep 2)) (fun L u W hG hdep => (oE (.bool false) hG hdep 4))
 intro L8 u8 W8 hall hJ hG
 have hb := hJ.all rfl
 have hbel := Below.call hbel hb
 have hm7 := hm7.later hb
 have hm9 := hm9.later hb
 have hm11 := hm11.later hb
 have ht7 := there_later ht7 hb
 have ht9 := there_later ht9 hb
 have ht11 := there_later ht11 hb
 have HC41 := oC (.bool false) hG 1
 have HC42 := oC (.bool false) hG 2
 have HC44 := oC (.bool false) hG 4
 have HC45 := oC (.bool false) hG 5
 have hbel0 := hbel
 clear hJ hG hall hb
 have hx : u8 5 = .bool false := HC45.out
 go_wp2_with fail
 rw [hx]
 clear hx
 go_upto_region 10 with fail
 refine rgT [(13, 8), (32, 0), (0, 1), (0, 2), (0, 3), (0, 4), (0, 5), (0, 6), (0, 7)] [.wld (IsB sig) (some 1), .wld (IsB (sig.take 32)) (some 4), .wld (IsB pub) (some 4), .wld (IsB l) (some 4), .wld (IsR [sig.take 32, pub, l]) (some 5), .wld (IsB ((sig.take 32) ++ (pub ++ l))) (some 6), .wld (IsB (sha512 ((sig.take 32) ++ (pub ++ l)))) (some 7), .val rC [wS (sha512 ((sig.take 32) ++ (pub ++ l)))], .new 32, .st 8 rC [wS (sha512 ((sig.take 32) ++ (pub ++ l)))]] ?_ ?_
 ·intro hs
  refine ⟨?_, ?_, ?_, ?_, ?_, ?_, ?_, ?_, ?_, ?_, trivial⟩
  ·exact step_runP hs Wn rfl fun L u W hJ hG hL hdep => run_moveP (.inl rfl) ((IsB sig).st _ _ _ hsg (Below.call hbel (hJ.all rfl)))
  ·exact step_runP hs Wn rfl fun L u W hJ hG hL hdep => run_toP (k := 32) rfl rfl (hV (IsB sig) hG hdep hL 0) (by rw [KN.out]; omega)
  ·exact step_runP hs Wn rfl fun L u W hJ hG hL hdep => run_moveP (.inl rfl) ((IsB pub).st _ _ _ hp (Below.call hbel (hJ.all rfl)))
  ·exact step_runP hs Wn rfl fun L u W hJ hG hL hdep => run_moveP (.inl rfl) ((IsB l).st _ _ _ h1 (Below.call hbel (hJ.all rfl)))
  ·exact step_runP hs Wn rfl fun L u W hJ hG hL hdep => run_rows3 rfl (hV (IsB (sig.take 32)) hG hdep hL 1) (hV (IsB pub) hG hdep hL 2) (hV (IsB l) hG hdep hL 3)
  ·refine step_callP hs Wn rfl fun L u W hJ hG hL hdep K hK => ?_
   go_simp
   go_at_call 37
   (with_reducible refine (gRCat (l := ((sig.take 32) ++ (pub ++ l))) (holds_wld (φ := IsR [sig.take 32, pub, l]) (hG 4 (hdep 4 (by kernel_rfl))) rfl (till_some hL)) (by simp) (by have := HM.out; (repeat rw [List.length_append]); (try rw [List.length_take]); (try rw [KN.out]); (try rw [KL.out]); omega)).mono ?_); rintro e w1 ⟨r, rfl, hr, hb⟩
   exact hK.out _ _ hr hb
  ·refine step_callP hs Wn rfl fun L u W hJ hG hL hdep K hK => ?_
   go_simp
   go_at_call 31
   (with_reducible refine (gRSum (holds_wld (φ := IsB ((sig.take 32) ++ (pub ++ l))) (hG 5 (hdep 5 (by kernel_rfl))) rfl (till_some hL)) (by have := HM.out; (repeat rw [List.length_append]); (try rw [List.length_take]); (try rw [KN.out]); (try rw [KL.out]); omega)).mono ?_); rintro e w1 ⟨r, rfl, hr, hb⟩
   exact hK.out _ _ hr hb
  ·refine step_call hs Wn rfl fun L u W hJ hG hL hdep K hK => ?_
   go_simp
   go_at_call 34
   (with_reducible refine (gRWide (x := wS (sha512 ((sig.take 32) ++ (pub ++ l)))) rfl (holds_wld (φ := IsB (sha512 ((sig.take 32) ++ (pub ++ l)))) (hG 6 (hdep 6 (by kernel_rfl))) rfl (till_some hL))).mono ?_); rintro e w1 ⟨r, rfl, hr, hb⟩
   exact hK.out _ _ hr hb
  ·exact step_alloc hs Wn rfl rfl (by omega) rfl allocSc
  ·exact step_store 8 hs (by kernel_rfl) Wn rfl rfl rfl (by kernel_rfl) (by kernel_rfl) (by kernel_rfl) (by kernel_rfl) (fun _ => rfl) (gO 7) tySc rfl
 intro L10 u10 W10 hall hJ hG
 obtain ⟨q13, e13, hq13, _, ht13⟩ := oN 32 hG 8
 have hm13 := oS rC [wS (sha512 ((sig.take 32) ++ (pub ++ l)))] hG 9 e13
 have HD13_q7 := Lib.hid (show q7 ≠ q13 by have := there_lt ht7 (by omega); omega)
 have HD13_q9 := Lib.hid (show q9 ≠ q13 by have := there_lt ht9 (by omega); omega)
 have HD13_q11 := Lib.hid (show q11 ≠ q13 by have := there_lt ht11 (by omega); omega)
 have hq13 : w.heap.size ≤ q13 := by have := hbel0.size; omega
 have E13 := Lib.hid e13; clear e13
 have hb := hJ.all rfl
 have hbel := Below.call hbel hb
 have hm7 := hm7.later hb
 have hm9 := hm9.later hb
 have hm11 := hm11.later hb
 have hbel0 := hbel
 clear hJ hG hall hb
 go_upto_region 11 with fail
 refine rgM [(54, 0), (0, 1), (0, 2), (0, 3), (0, 4), (0, 5), (0, 6), (0, 7), (0, 8), (0, 9)] [.val rQ [base], .val rC [s], .val rQ [Cp.mul s.val base], .val rQ [Rp], .val rQ [A], .val rC [wS (sha512 ((sig.take 32) ++ (pub ++ l)))], .val rQ [Cp.mul (wS (sha512 ((sig.take 32) ++ (pub ++ l)))).val A], .val rQ [Cp.add Rp (Cp.mul (wS (sha512 ((sig.take 32) ++ (pub ++ l)))).val A)], .oth (fun v => v = .bool true), .oth (fun v => v = .bool false)] ?_ ?_
 ·intro hs
  refine ⟨?_, ?_, ?_, ?_, ?_, ?_, ?_, ?_, ?_, ?_, trivial⟩
  ·refine step_call hs Wn rfl fun L u W hJ hG hL hdep K hK => ?_
   go_simp
   go_at_call 32
   (with_reducible refine (kBase _).mono ?_); rintro e w1 ⟨r, rfl, hr, hb⟩
   exact hK.out _ _ hr hb
  ·exact step_load q11 0 hs Wn rfl rfl tySc (fun _ => E11.out) hm11.lt hm11 Na
  ·refine step_call hs Wn rfl fun L u W hJ hG hL hdep K hK => ?_
   have a0 := (vE rQ [base] hG hdep 0)
   have a1 := (vE rC [s] hG hdep 1)
   go_simp
   go_at_call 33
   (with_reducible refine (kMult rfl a0 a1 _).mono ?_); rintro e w1 ⟨r, rfl, hr, hb⟩
   exact hK.out _ _ hr hb
  ·exact step_load q9 0 hs Wn rfl rfl tyPt (fun _ => E9.out) hm9.lt hm9 Na
  ·exact step_load q7 0 hs Wn rfl rfl tyPt (fun _ => E7.out) hm7.lt hm7 Na
  ·exact step_load q13 0 hs Wn rfl rfl tySc (fun _ => E13.out) hm13.lt hm13 Na
  ·refine step_call hs Wn rfl fun L u W hJ hG hL hdep K hK => ?_
   have a0 := (vE rQ [A] hG hdep 4)
   have a1 := (vE rC [wS (sha512 ((sig.take 32) ++ (pub ++ l)))] hG hdep 5)
   go_simp
   go_at_call 33
   (with_reducible refine (kMult rfl a0 a1 _).mono ?_); rintro e w1 ⟨r, rfl, hr, hb⟩
   exact hK.out _ _ hr hb
  ·refine step_call hs Wn rfl fun L u W hJ hG hL hdep K hK => ?_
   have a0 := (vE rQ [Rp] hG hdep 3)
   have a1 := (vE rQ [Cp.mul (wS (sha512 ((sig.take 32) ++ (pub ++ l)))).val A] hG hdep 6)
   go_simp
   go_at_call 50
   (with_reducible refine (kPAdd a0 a1 _).mono ?_); rintro e w1 ⟨r, rfl, hr, hb⟩
   exact hK.out _ _ hr hb
  ·refine step_callO hs Wn rfl fun L u W hJ hG hL hdep K hK => ?_
   have a0 := (vE rQ [Cp.mul s.val base] hG hdep 2)
   have a1 := (vE rQ [Cp.add Rp (Cp.mul (wS (sha512 ((sig.take 32) ++ (pub ++ l)))).val A)] hG hdep 7)
   go_simp
   go_at_call 49
   (with_reducible refine (kPSame (b := true) (KB.out) a0 a1 _).mono ?_); rintro e w1 ⟨rfl, hb⟩
   exact hK.out _ _ rfl hb
  ·refine step_pureO hs Wn rfl fun L u W hG hdep => ⟨_, ?_, rfl⟩
   have e0 := (oE (.bool true) hG hdep 8)
   go_simp
 intro L11 u11 W11 hall hJ hG
 have hb := hJ.all rfl
 have hbel := Below.call hbel hb
 have HC62 := oC (.bool true) hG 8
 have HC63 := oC (.bool false) hG 9
 have hbel0 := hbel
 clear hJ hG hall hb
 have hx : u11 9 = .bool false := HC63.out
 go_wp2_with fail
 rw [hx]
 clear hx
 go_upto_region 13 with fail
 refine rgT [(6, 0)] [.oth (fun v => v = .int .i64 0)] ?_ ?_
 ·intro hs
  refine ⟨?_, trivial⟩
  ·exact mvK hs fun _ => rfl
 intro L13 u13 W13 hall hJ hG
 have hb := hJ.all rfl
 have hbel := Below.call hbel hb
 have HC6 := oC (.int .i64 0) hG 0
 have hbel0 := hbel
 clear hJ hG hall hb
 go_wp2
 go_ret
 exact ⟨by rw [HC6.out]; rfl, hbel⟩
set_option maxHeartbeats 1000000 in
theorem rver_false {w : World} {v0 v1 v2 : Value} {pub sig l : List UInt8} (hp : (IsB pub).P v0 w) (hsg : (IsB sig).P v1 w) (h1 : (IsB l).P v2 w) (hm : l.length ≤ 100000) {A : EP} (ka : decV pub = A) (kc : decC pub = 0) (km : decide (Cp.mul 8 A = Cp.zero) = false) (kn : sig.length = 64) {Rp : EP} (kr : decV (sig.take 32) = Rp) (krc : decC (sig.take 32) = 0) {s : F} (ks : ssV (sig.drop 32) = s) (ksc : ssC (sig.drop 32) = 0) (kl : pub.length = 32) (kb : decide (Cp.mul s.val base = Cp.add Rp (Cp.mul (wS (sha512 (sig.take 32 ++ (pub ++ l)))).val A)) = false) :
  Calls Tryz.prog 16 #[v0, v1, v2] w fun e w' => e = .returned (.int .i64 3) ∧ Below w.heap.size w w' := by
 have HM := Lib.hid hm
 clear hm
 have KA := Lib.hid ka; clear ka
 have KC := Lib.hid kc; clear kc
 have KM := Lib.hid km; clear km
 have KN := Lib.hid kn; clear kn
 have KR := Lib.hid kr; clear kr
 have KRC := Lib.hid krc; clear krc
 have KS := Lib.hid ks; clear ks
 have KSC := Lib.hid ksc; clear ksc
 have KL := Lib.hid kl; clear kl
 have KB := Lib.hid kb; clear kb
 go_enter Tryz.func16, Tryz.ntmps16
 have hbel : Below w.heap.size w w := Below.refl _ _
 have hbel0 := hbel
 go_upto_region 0 with fail
 refine rgT [(6, 0)] [.oth (fun v => v = .int .i64 0)] ?_ ?_
 ·intro hs
  refine ⟨?_, trivial⟩
  ·exact mvK hs fun _ => rfl
 intro L0 u0 W0 hall hJ hG
 have hb := hJ.all rfl
 have hbel := Below.call hbel hb
 have HC6 := oC (.int .i64 0) hG 0
 have hbel0 := hbel
 clear hJ hG hall hb
 go_upto_region 1 with fail
 refine rgT [(7, 5), (0, 7), (5, 2), (0, 0), (0, 1), (0, 3), (0, 4)] [.wld (IsB pub) (some 1), .oth (fun v => IsTV rQ v [A] (.int .i64 0)), .oth (fun v => IsTV rQ v [A] (.int .i64 0)), .val rQ [A], .oth (fun v => v = .int .i64 0), .new 48, .st 5 rQ [A], .oth (fun v => v = .int .i64 0)] ?_ ?_
 ·intro hs
  refine ⟨?_, ?_, ?_, ?_, ?_, ?_, ?_, ?_, trivial⟩
  ·exact step_runP hs Wn rfl fun L u W hJ hG hL hdep => run_moveP (.inl rfl) ((IsB pub).st _ _ _ hp (Below.call hbel (hJ.all rfl)))
  ·refine step_callO hs Wn rfl fun L u W hJ hG hL hdep K hK => ?_
   go_simp
   go_at_call 46
   (with_reducible refine (gQDecode KA.out KC.out (holds_wld (φ := IsB pub) (hG 0 (hdep 0 (by kernel_rfl))) rfl (till_some hL))).mono ?_); rintro e w1 ⟨r, rfl, hr, hb⟩
   exact hK.out _ _ ⟨r, rfl, hr⟩ hb
  ·exact step_pureO hs Wn rfl fun L u W hG hdep => ⟨_, run_move rfl, (show IsTV rQ (u 1) [A] (.int .i64 0) from hG 1 (hdep 1 (by kernel_rfl)))⟩
  ·exact step_pure hs Wn rfl fun L u W hG hdep => run_extractV0 rfl (show IsTV rQ (u 2) [A] (.int .i64 0) from hG 2 (hdep 2 (by kernel_rfl)))
  ·exact step_pureO hs Wn rfl fun L u W hG hdep => run_extractV1 rfl (show IsTV rQ (u 2) [A] (.int .i64 0) from hG 2 (hdep 2 (by kernel_rfl)))
  ·exact step_alloc hs Wn rfl rfl (by omega) rfl allocPt
  ·exact step_store 5 hs (by kernel_rfl) Wn rfl rfl rfl (by kernel_rfl) (by kernel_rfl) (by kernel_rfl) (by kernel_rfl) (fun _ => rfl) (gO 3) tyPt rfl
  ·exact mvO 4 hs
 intro L1 u1 W1 hall hJ hG
 obtain ⟨q7, e7, hq7, _, ht7⟩ := oN 48 hG 5
 have hm7 := oS rQ [A] hG 6 e7
 have hq7 : w.heap.size ≤ q7 := by have := hbel0.size; omega
 have E7 := Lib.hid e7; clear e7
 have hb := hJ.all rfl
 have hbel := Below.call hbel hb
 have HC8 := oC (.int .i64 0) hG 7
 have hbel0 := hbel
 clear hJ hG hall hb
 go_upto_region 2 with fail
 refine rgT [(19, 0), (0, 1), (0, 2), (0, 3), (0, 4), (0, 5)] [.oth (fun v => v = .int .i64 0), .oth (fun v => v = .bool false), .oth (fun v => v = .bool false), .val rQ [A], .oth (fun v => v = .bool false), .oth (fun v => v = .bool false)] ?_ ?_
 ·intro hs
  refine ⟨?_, ?_, ?_, ?_, ?_, ?_, trivial⟩
  ·exact mvK hs fun _ => HC8.out
  ·refine step_pureO hs Wn rfl fun L u W hG hdep => ⟨_, ?_, rfl⟩
   have e0 := (oE (.int .i64 0) hG hdep 0)
   go_simp
   try simp [bne]
  ·exact mvO 1 hs
  ·exact step_load q7 0 hs (wants_on 2 rfl rfl (by kernel_rfl) (fun _ => rfl)) rfl rfl tyPt (fun _ => E7.out) hm7.lt hm7 Na
  ·refine step_callO hs (wants_on 2 rfl rfl (by kernel_rfl) (fun _ => rfl)) rfl fun L u W hJ hG hL hdep K hK => ?_
   have a0 := (vE rQ [A] hG hdep 3)
   go_simp
   go_at_call 47
   (with_reducible refine (kPSmall (b := false) (KM.out) a0 _).mono ?_); rintro e w1 ⟨rfl, hb⟩
   exact hK.out _ _ rfl hb
  ·exact step_pick false hs Wn rfl rfl (fun L u W hG hdep => (oE (.bool false) hG hdep 2)) (fun L u W hG hdep => (oE (.bool false) hG hdep 4))
 intro L2 u2 W2 hall hJ hG
 have hb := hJ.all rfl
 have hbel := Below.call hbel hb
 have hm7 := hm7.later hb
 have ht7 := there_later ht7 hb
 have HC20 := oC (.bool false) hG 1
 have HC21 := oC (.bool false) hG 2
 have HC23 := oC (.bool false) hG 4
 have HC24 := oC (.bool false) hG 5
 have hbel0 := hbel
 clear hJ hG hall hb
 have hx : u2 5 = .bool false := HC24.out
 go_wp2_with fail
 rw [hx]
 clear hx
 go_upto_region 4 with fail
 refine rgT [(25, 0), (0, 1), (0, 2)] [.wld (IsB sig) none, .oth (fun v => v = .int .i64 64), .oth (fun v => v = .bool false)] ?_ ?_
 ·intro hs
  refine ⟨?_, ?_, ?_, trivial⟩
  ·exact step_runP hs Wn rfl fun L u W hJ hG hL hdep => run_moveP (.inl rfl) ((IsB sig).st _ _ _ hsg (Below.call hbel (hJ.all rfl)))
  ·exact step_runO hs Wn rfl fun L u W hJ hG hL hdep => run_lenP rfl (hW (IsB sig) hG hdep 0) (by rw [KN.out]; rfl)
  ·refine step_pureO hs Wn rfl fun L u W hG hdep => ⟨_, ?_, rfl⟩
   have e0 := (oE (.int .i64 64) hG hdep 1)
   go_simp
   try simp [bne]
 intro L4 u4 W4 hall hJ hG
 have hb := hJ.all rfl
 have hbel := Below.call hbel hb
 have hm7 := hm7.later hb
 have ht7 := there_later ht7 hb
 have HC27 := oC (.bool false) hG 2
 have hbel0 := hbel
 clear hJ hG hall hb
 have hx : u4 2 = .bool false := HC27.out
 go_wp2_with fail
 rw [hx]
 clear hx
 go_upto_region 6 with fail
 refine rgT [(9, 6), (0, 8), (17, 3), (0, 0), (0, 1), (0, 2), (0, 4), (0, 5)] [.wld (IsB sig) (some 1), .wld (IsB (sig.take 32)) (some 2), .oth (fun v => IsTV rQ v [Rp] (.int .i64 0)), .oth (fun v => IsTV rQ v [Rp] (.int .i64 0)), .val rQ [Rp], .oth (fun v => v = .int .i64 0), .new 48, .st 6 rQ [Rp], .oth (fun v => v = .int .i64 0)] ?_ ?_
 ·intro hs
  refine ⟨?_, ?_, ?_, ?_, ?_, ?_, ?_, ?_, ?_, trivial⟩
  ·exact step_runP hs Wn rfl fun L u W hJ hG hL hdep => run_moveP (.inl rfl) ((IsB sig).st _ _ _ hsg (Below.call hbel (hJ.all rfl)))
  ·exact step_runP hs Wn rfl fun L u W hJ hG hL hdep => run_toP (k := 32) rfl rfl (hV (IsB sig) hG hdep hL 0) (by rw [KN.out]; omega)
  ·refine step_callO hs Wn rfl fun L u W hJ hG hL hdep K hK => ?_
   go_simp
   go_at_call 46
   (with_reducible refine (gQDecode KR.out KRC.out (holds_wld (φ := IsB (sig.take 32)) (hG 1 (hdep 1 (by kernel_rfl))) rfl (till_some hL))).mono ?_); rintro e w1 ⟨r, rfl, hr, hb⟩
   exact hK.out _ _ ⟨r, rfl, hr⟩ hb
  ·exact step_pureO hs Wn rfl fun L u W hG hdep => ⟨_, run_move rfl, (show IsTV rQ (u 2) [Rp] (.int .i64 0) from hG 2 (hdep 2 (by kernel_rfl)))⟩
  ·exact step_pure hs Wn rfl fun L u W hG hdep => run_extractV0 rfl (show IsTV rQ (u 3) [Rp] (.int .i64 0) from hG 3 (hdep 3 (by kernel_rfl)))
  ·exact step_pureO hs Wn rfl fun L u W hG hdep => run_extractV1 rfl (show IsTV rQ (u 3) [Rp] (.int .i64 0) from hG 3 (hdep 3 (by kernel_rfl)))
  ·exact step_alloc hs Wn rfl rfl (by omega) rfl allocPt
  ·exact step_store 6 hs (by kernel_rfl) Wn rfl rfl rfl (by kernel_rfl) (by kernel_rfl) (by kernel_rfl) (by kernel_rfl) (fun _ => rfl) (gO 4) tyPt rfl
  ·exact mvO 5 hs
 intro L6 u6 W6 hall hJ hG
 obtain ⟨q9, e9, hq9, _, ht9⟩ := oN 48 hG 6
 have hm9 := oS rQ [Rp] hG 7 e9
 have HD9_q7 := Lib.hid (show q7 ≠ q9 by have := there_lt ht7 (by omega); omega)
 have hq9 : w.heap.size ≤ q9 := by have := hbel0.size; omega
 have E9 := Lib.hid e9; clear e9
 have hb := hJ.all rfl
 have hbel := Below.call hbel hb
 have hm7 := hm7.later hb
 have ht7 := there_later ht7 hb
 have HC10 := oC (.int .i64 0) hG 8
 have hbel0 := hbel
 clear hJ hG hall hb
 go_upto_region 7 with fail
 refine rgT [(11, 6), (0, 8), (21, 3), (0, 0), (0, 1), (0, 2), (0, 4), (0, 5)] [.wld (IsB sig) (some 1), .wld (IsB (sig.drop 32)) (some 2), .oth (fun v => IsTV rC v [s] (.int .i64 0)), .oth (fun v => IsTV rC v [s] (.int .i64 0)), .val rC [s], .oth (fun v => v = .int .i64 0), .new 32, .st 6 rC [s], .oth (fun v => v = .int .i64 0)] ?_ ?_
 ·intro hs
  refine ⟨?_, ?_, ?_, ?_, ?_, ?_, ?_, ?_, ?_, trivial⟩
  ·exact step_runP hs Wn rfl fun L u W hJ hG hL hdep => run_moveP (.inl rfl) ((IsB sig).st _ _ _ hsg (Below.call hbel (hJ.all rfl)))
  ·exact step_runP hs Wn rfl fun L u W hJ hG hL hdep => run_fromP (k := 32) rfl rfl (hV (IsB sig) hG hdep hL 0) (by rw [KN.out]; omega)
  ·refine step_callO hs Wn rfl fun L u W hJ hG hL hdep K hK => ?_
   go_simp
   go_at_call 48
   (with_reducible refine (gRStrict KS.out KSC.out (holds_wld (φ := IsB (sig.drop 32)) (hG 1 (hdep 1 (by kernel_rfl))) rfl (till_some hL))).mono ?_); rintro e w1 ⟨r, rfl, hr, hb⟩
   exact hK.out _ _ ⟨r, rfl, hr⟩ hb
  ·exact step_pureO hs Wn rfl fun L u W hG hdep => ⟨_, run_move rfl, (show IsTV rC (u 2) [s] (.int .i64 0) from hG 2 (hdep 2 (by kernel_rfl)))⟩
  ·exact step_pure hs Wn rfl fun L u W hG hdep => run_extractV0 rfl (show IsTV rC (u 3) [s] (.int .i64 0) from hG 3 (hdep 3 (by kernel_rfl)))
  ·exact step_pureO hs Wn rfl fun L u W hG hdep => run_extractV1 rfl (show IsTV rC (u 3) [s] (.int .i64 0) from hG 3 (hdep 3 (by kernel_rfl)))
  ·exact step_alloc hs Wn rfl rfl (by omega) rfl allocSc
  ·exact step_store 6 hs (by kernel_rfl) Wn rfl rfl rfl (by kernel_rfl) (by kernel_rfl) (by kernel_rfl) (by kernel_rfl) (fun _ => rfl) (gO 4) tySc rfl
  ·exact mvO 5 hs
 intro L7 u7 W7 hall hJ hG
 obtain ⟨q11, e11, hq11, _, ht11⟩ := oN 32 hG 6
 have hm11 := oS rC [s] hG 7 e11
 have HD11_q7 := Lib.hid (show q7 ≠ q11 by have := there_lt ht7 (by omega); omega)
 have HD11_q9 := Lib.hid (show q9 ≠ q11 by have := there_lt ht9 (by omega); omega)
 have hq11 : w.heap.size ≤ q11 := by have := hbel0.size; omega
 have E11 := Lib.hid e11; clear e11
 have hb := hJ.all rfl
 have hbel := Below.call hbel hb
 have hm7 := hm7.later hb
 have hm9 := hm9.later hb
 have ht7 := there_later ht7 hb
 have ht9 := there_later ht9 hb
 have HC12 := oC (.int .i64 0) hG 8
 have hbel0 := hbel
 clear hJ hG hall hb
 go_upto_region 8 with fail
 refine rgT [(40, 0), (0, 1), (0, 2), (0, 3), (0, 4), (0, 5)] [.oth (fun v => v = .int .i64 0), .oth (fun v => v = .bool false), .oth (fun v => v = .bool false), .oth (fun v => v = .int .i64 0), .oth (fun v => v = .bool false), .oth (fun v => v = .bool false)] ?_ ?_
 ·intro hs
  refine ⟨?_, ?_, ?_, ?_, ?_, ?_, trivial⟩
  ·exact mvK hs fun _ => HC10.out
  ·refine step_pureO hs Wn rfl fun L u W hG hdep => ⟨_, ?_, rfl⟩
   have e0 := (oE (.int .i64 0) hG hdep 0)
   go_simp
   try simp [bne]
  ·exact mvO 1 hs
  ·exact step_pureO hs (wants_on 2 rfl rfl (by kernel_rfl) (fun _ => rfl)) rfl fun L u W hG hdep => ⟨_, run_move rfl, HC12.out⟩
  ·refine step_pureO hs (wants_on 2 rfl rfl (by kernel_rfl) (fun _ => rfl)) rfl fun L u W hG hdep => ⟨_, ?_, rfl⟩
   have e0 := (oE (.int .i64 0) hG hdep 3)
   go_simp
   try simp [bne]
  ·exact step_pick false hs Wn rfl rfl (fun L u W hG hdep => (oE (.bool false) hG hdep 2)) (fun L u W hG hdep => (oE (.bool false) hG hdep 4))
 intro L8 u8 W8 hall hJ hG
 have hb := hJ.all rfl
 have hbel := Below.call hbel hb
 have hm7 := hm7.later hb
 have hm9 := hm9.later hb
 have hm11 := hm11.later hb
 have ht7 := there_later ht7 hb
 have ht9 := there_later ht9 hb
 have ht11 := there_later ht11 hb
 have HC41 := oC (.bool false) hG 1
 have HC42 := oC (.bool false) hG 2
 have HC44 := oC (.bool false) hG 4
 have HC45 := oC (.bool false) hG 5
 have hbel0 := hbel
 clear hJ hG hall hb
 have hx : u8 5 = .bool false := HC45.out
 go_wp2_with fail
 rw [hx]
 clear hx
 go_upto_region 10 with fail
 refine rgT [(13, 8), (32, 0), (0, 1), (0, 2), (0, 3), (0, 4), (0, 5), (0, 6), (0, 7)] [.wld (IsB sig) (some 1), .wld (IsB (sig.take 32)) (some 4), .wld (IsB pub) (some 4), .wld (IsB l) (some 4), .wld (IsR [sig.take 32, pub, l]) (some 5), .wld (IsB ((sig.take 32) ++ (pub ++ l))) (some 6), .wld (IsB (sha512 ((sig.take 32) ++ (pub ++ l)))) (some 7), .val rC [wS (sha512 ((sig.take 32) ++ (pub ++ l)))], .new 32, .st 8 rC [wS (sha512 ((sig.take 32) ++ (pub ++ l)))]] ?_ ?_
 ·intro hs
  refine ⟨?_, ?_, ?_, ?_, ?_, ?_, ?_, ?_, ?_, ?_, trivial⟩
  ·exact step_runP hs Wn rfl fun L u W hJ hG hL hdep => run_moveP (.inl rfl) ((IsB sig).st _ _ _ hsg (Below.call hbel (hJ.all rfl)))
  ·exact step_runP hs Wn rfl fun L u W hJ hG hL hdep => run_toP (k := 32) rfl rfl (hV (IsB sig) hG hdep hL 0) (by rw [KN.out]; omega)
  ·exact step_runP hs Wn rfl fun L u W hJ hG hL hdep => run_moveP (.inl rfl) ((IsB pub).st _ _ _ hp (Below.call hbel (hJ.all rfl)))
  ·exact step_runP hs Wn rfl fun L u W hJ hG hL hdep => run_moveP (.inl rfl) ((IsB l).st _ _ _ h1 (Below.call hbel (hJ.all rfl)))
  ·exact step_runP hs Wn rfl fun L u W hJ hG hL hdep => run_rows3 rfl (hV (IsB (sig.take 32)) hG hdep hL 1) (hV (IsB pub) hG hdep hL 2) (hV (IsB l) hG hdep hL 3)
  ·refine step_callP hs Wn rfl fun L u W hJ hG hL hdep K hK => ?_
   go_simp
   go_at_call 37
   (with_reducible refine (gRCat (l := ((sig.take 32) ++ (pub ++ l))) (holds_wld (φ := IsR [sig.take 32, pub, l]) (hG 4 (hdep 4 (by kernel_rfl))) rfl (till_some hL)) (by simp) (by have := HM.out; (repeat rw [List.length_append]); (try rw [List.length_take]); (try rw [KN.out]); (try rw [KL.out]); omega)).mono ?_); rintro e w1 ⟨r, rfl, hr, hb⟩
   exact hK.out _ _ hr hb
  ·refine step_callP hs Wn rfl fun L u W hJ hG hL hdep K hK => ?_
   go_simp
   go_at_call 31
   (with_reducible refine (gRSum (holds_wld (φ := IsB ((sig.take 32) ++ (pub ++ l))) (hG 5 (hdep 5 (by kernel_rfl))) rfl (till_some hL)) (by have := HM.out; (repeat rw [List.length_append]); (try rw [List.length_take]); (try rw [KN.out]); (try rw [KL.out]); omega)).mono ?_); rintro e w1 ⟨r, rfl, hr, hb⟩
   exact hK.out _ _ hr hb
  ·refine step_call hs Wn rfl fun L u W hJ hG hL hdep K hK => ?_
   go_simp
   go_at_call 34
   (with_reducible refine (gRWide (x := wS (sha512 ((sig.take 32) ++ (pub ++ l)))) rfl (holds_wld (φ := IsB (sha512 ((sig.take 32) ++ (pub ++ l)))) (hG 6 (hdep 6 (by kernel_rfl))) rfl (till_some hL))).mono ?_); rintro e w1 ⟨r, rfl, hr, hb⟩
   exact hK.out _ _ hr hb
  ·exact step_alloc hs Wn rfl rfl (by omega) rfl allocSc
  ·exact step_store 8 hs (by kernel_rfl) Wn rfl rfl rfl (by kernel_rfl) (by kernel_rfl) (by kernel_rfl) (by kernel_rfl) (fun _ => rfl) (gO 7) tySc rfl
 intro L10 u10 W10 hall hJ hG
 obtain ⟨q13, e13, hq13, _, ht13⟩ := oN 32 hG 8
 have hm13 := oS rC [wS (sha512 ((sig.take 32) ++ (pub ++ l)))] hG 9 e13
 have HD13_q7 := Lib.hid (show q7 ≠ q13 by have := there_lt ht7 (by omega); omega)
 have HD13_q9 := Lib.hid (show q9 ≠ q13 by have := there_lt ht9 (by omega); omega)
 have HD13_q11 := Lib.hid (show q11 ≠ q13 by have := there_lt ht11 (by omega); omega)
 have hq13 : w.heap.size ≤ q13 := by have := hbel0.size; omega
 have E13 := Lib.hid e13; clear e13
 have hb := hJ.all rfl
 have hbel := Below.call hbel hb
 have hm7 := hm7.later hb
 have hm9 := hm9.later hb
 have hm11 := hm11.later hb
 have hbel0 := hbel
 clear hJ hG hall hb
 go_upto_region 11 with fail
 refine rgM [(54, 0), (0, 1), (0, 2), (0, 3), (0, 4), (0, 5), (0, 6), (0, 7), (0, 8), (0, 9)] [.val rQ [base], .val rC [s], .val rQ [Cp.mul s.val base], .val rQ [Rp], .val rQ [A], .val rC [wS (sha512 ((sig.take 32) ++ (pub ++ l)))], .val rQ [Cp.mul (wS (sha512 ((sig.take 32) ++ (pub ++ l)))).val A], .val rQ [Cp.add Rp (Cp.mul (wS (sha512 ((sig.take 32) ++ (pub ++ l)))).val A)], .oth (fun v => v = .bool false), .oth (fun v => v = .bool true)] ?_ ?_
 ·intro hs
  refine ⟨?_, ?_, ?_, ?_, ?_, ?_, ?_, ?_, ?_, ?_, trivial⟩
  ·refine step_call hs Wn rfl fun L u W hJ hG hL hdep K hK => ?_
   go_simp
   go_at_call 32
   (with_reducible refine (kBase _).mono ?_); rintro e w1 ⟨r, rfl, hr, hb⟩
   exact hK.out _ _ hr hb
  ·exact step_load q11 0 hs Wn rfl rfl tySc (fun _ => E11.out) hm11.lt hm11 Na
  ·refine step_call hs Wn rfl fun L u W hJ hG hL hdep K hK => ?_
   have a0 := (vE rQ [base] hG hdep 0)
   have a1 := (vE rC [s] hG hdep 1)
   go_simp
   go_at_call 33
   (with_reducible refine (kMult rfl a0 a1 _).mono ?_); rintro e w1 ⟨r, rfl, hr, hb⟩
   exact hK.out _ _ hr hb
  ·exact step_load q9 0 hs Wn rfl rfl tyPt (fun _ => E9.out) hm9.lt hm9 Na
  ·exact step_load q7 0 hs Wn rfl rfl tyPt (fun _ => E7.out) hm7.lt hm7 Na
  ·exact step_load q13 0 hs Wn rfl rfl tySc (fun _ => E13.out) hm13.lt hm13 Na
  ·refine step_call hs Wn rfl fun L u W hJ hG hL hdep K hK => ?_
   have a0 := (vE rQ [A] hG hdep 4)
   have a1 := (vE rC [wS (sha512 ((sig.take 32) ++ (pub ++ l)))] hG hdep 5)
   go_simp
   go_at_call 33
   (with_reducible refine (kMult rfl a0 a1 _).mono ?_); rintro e w1 ⟨r, rfl, hr, hb⟩
   exact hK.out _ _ hr hb
  ·refine step_call hs Wn rfl fun L u W hJ hG hL hdep K hK => ?_
   have a0 := (vE rQ [Rp] hG hdep 3)
   have a1 := (vE rQ [Cp.mul (wS (sha512 ((sig.take 32) ++ (pub ++ l)))).val A] hG hdep 6)
   go_simp
   go_at_call 50
   (with_reducible refine (kPAdd a0 a1 _).mono ?_); rintro e w1 ⟨r, rfl, hr, hb⟩
   exact hK.out _ _ hr hb
  ·refine step_callO hs Wn rfl fun L u W hJ hG hL hdep K hK => ?_
   have a0 := (vE rQ [Cp.mul s.val base] hG hdep 2)
   have a1 := (vE rQ [Cp.add Rp (Cp.mul (wS (sha512 ((sig.take 32) ++ (pub ++ l)))).val A)] hG hdep 7)
   go_simp
   go_at_call 49
   (with_reducible refine (kPSame (b := false) (KB.out) a0 a1 _).mono ?_); rintro e w1 ⟨rfl, hb⟩
   exact hK.out _ _ rfl hb
  ·refine step_pureO hs Wn rfl fun L u W hG hdep => ⟨_, ?_, rfl⟩
   have e0 := (oE (.bool false) hG hdep 8)
   go_simp
 intro L11 u11 W11 hall hJ hG
 have hb := hJ.all rfl
 have hbel := Below.call hbel hb
 have HC62 := oC (.bool false) hG 8
 have HC63 := oC (.bool true) hG 9
 have hbel0 := hbel
 clear hJ hG hall hb
 have hx : u11 9 = .bool true := HC63.out
 go_wp2_with fail
 rw [hx]
 clear hx
 go_upto_region 12 with fail
 refine rgT [(6, 0)] [.oth (fun v => v = .int .i64 3)] ?_ ?_
 ·intro hs
  refine ⟨?_, trivial⟩
  ·exact mvK hs fun _ => rfl
 intro L12 u12 W12 hall hJ hG
 have hb := hJ.all rfl
 have hbel := Below.call hbel hb
 have HC6 := oC (.int .i64 3) hG 0
 have hbel0 := hbel
 clear hJ hG hall hb
 go_wp2
 go_ret
 exact ⟨by rw [HC6.out]; rfl, hbel⟩
theorem gRVerify {v0 v1 v2 : Value} {pub sig l : List UInt8} {w : World} (hp : (IsB pub).P v0 w) (hs : (IsB sig).P v1 w) (h1 : (IsB l).P v2 w) (hm : l.length ≤ 100000) :
  Calls Tryz.prog 16 #[v0, v1, v2] w fun e w' => e = .returned (.int .i64 (verC pub sig l)) ∧ Below w.heap.size w w' := by
 unfold verC
 by_cases c1 : decC pub = 0
 ·rw [if_pos c1]
  by_cases c2 : Cp.mul 8 (decV pub) = Cp.zero
  ·rw [if_pos c2]; exact rver_small hp hs h1 hm rfl c1 (decide_eq_true c2)
  ·rw [if_neg c2]
   by_cases c3 : sig.length = 64
   ·rw [if_pos c3]
    by_cases c4 : decC (sig.take 32) = 0
    ·rw [if_pos c4]
     by_cases c5 : ssC (sig.drop 32) = 0
     ·rw [if_pos c5]
      have hk : pub.length = 32 := by
       by_cases h : pub.length = 32
       ·exact h
       ·have := (dec_len h).2; omega
      split
      ·rename_i c6; exact rver_true hp hs h1 hm rfl c1 (decide_eq_false c2) c3 rfl c4 rfl c5 hk (decide_eq_true c6)
      ·rename_i c6; exact rver_false hp hs h1 hm rfl c1 (decide_eq_false c2) c3 rfl c4 rfl c5 hk (decide_eq_false c6)
     ·rw [if_neg c5]; exact rver_S hp hs h1 hm rfl c1 (decide_eq_false c2) c3 rfl c4 rfl (ss_no c5)
    ·rw [if_neg c4]; exact rver_R hp hs h1 hm rfl c1 (decide_eq_false c2) c3 rfl (dec_no c4)
   ·rw [if_neg c3]
    exact rver_len hp hs h1 hm rfl c1 (decide_eq_false c2) rfl (by simp; omega)
 ·rw [if_neg c1]; exact rver_pt hp hs h1 hm rfl (dec_no c1)
theorem gRVerifyC {v0 v1 v2 : Value} {pub sig l : List UInt8} {c : Int} {w : World} (hp : (IsB pub).P v0 w) (hs : (IsB sig).P v1 w) (h1 : (IsB l).P v2 w) (hm : l.length ≤ 100000) (hc : verC pub sig l = c) :
  Calls Tryz.prog 16 #[v0, v1, v2] w fun e w' => e = .returned (.int .i64 c) ∧ Below w.heap.size w w' := by subst hc; exact gRVerify hp hs h1 hm
end Go.Proofs.YtielgpefoameiaaGreat
