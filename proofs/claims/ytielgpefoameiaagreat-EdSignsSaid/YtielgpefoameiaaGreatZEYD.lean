/- What EY rests on, part 4 of 5: my own texts, put together (merge.py). -/
import Derived.Deep.RegionHeld3
import Derived.WalkKit
import Derived.ProofKit
import Derived.Lib.Hide
import Derived.OpenShut
import Derived.Deep.MidRow
import Derived.Test.YtielgpefoameiaaGreatRows
import Derived.WalkSpells
import Derived.StillTactics
import Derived.Laws.Pointers
import Derived.Laws.CopyOwn
import Derived.Laws.AppendOwnNone
import Derived.RowKit3
import Derived.BigQuiet
import Derived.Deep.QuietTactic
import Derived.Deep.LoopGhost
import Derived.Deep.DeepFit
import Derived.WalkLawsBesides
import Derived.Shelf.Spec.BitsCarry
import Derived.Laws.IdiomStrings
import Derived.Deep.WholeRow
import Derived.Laws.Rows
import Derived.Deep.DeepCutAuto
import Derived.Lib.AppendZerosOnto
import Derived.Lib.SliceRun
import Derived.Deep.Matrix
import Derived.Deep.AppendLies
import Derived.ShutString
import Derived.ChangeOld
import Derived.Test.YtielgpefoameiaaGreatZEYC
namespace Go.Proofs.YtielgpefoameiaaGreat
open Go Go.RowKit
theorem ix8_0 (a b c d e f g h : UInt64) (w : World) : (Instr.index 84 (.agg #[.int .u64 ((a).toNat : Int), .int .u64 ((b).toNat : Int), .int .u64 ((c).toNat : Int), .int .u64 ((d).toNat : Int), .int .u64 ((e).toNat : Int), .int .u64 ((f).toNat : Int), .int .u64 ((g).toNat : Int), .int .u64 ((h).toNat : Int)]) (.int .i64 0)).run Tryz.prog w = .ok (.int .u64 ((a).toNat : Int)) w := by kernel_rfl
theorem ix8_1 (a b c d e f g h : UInt64) (w : World) : (Instr.index 84 (.agg #[.int .u64 ((a).toNat : Int), .int .u64 ((b).toNat : Int), .int .u64 ((c).toNat : Int), .int .u64 ((d).toNat : Int), .int .u64 ((e).toNat : Int), .int .u64 ((f).toNat : Int), .int .u64 ((g).toNat : Int), .int .u64 ((h).toNat : Int)]) (.int .i64 1)).run Tryz.prog w = .ok (.int .u64 ((b).toNat : Int)) w := by kernel_rfl
theorem ix8_2 (a b c d e f g h : UInt64) (w : World) : (Instr.index 84 (.agg #[.int .u64 ((a).toNat : Int), .int .u64 ((b).toNat : Int), .int .u64 ((c).toNat : Int), .int .u64 ((d).toNat : Int), .int .u64 ((e).toNat : Int), .int .u64 ((f).toNat : Int), .int .u64 ((g).toNat : Int), .int .u64 ((h).toNat : Int)]) (.int .i64 2)).run Tryz.prog w = .ok (.int .u64 ((c).toNat : Int)) w := by kernel_rfl
theorem ix8_3 (a b c d e f g h : UInt64) (w : World) : (Instr.index 84 (.agg #[.int .u64 ((a).toNat : Int), .int .u64 ((b).toNat : Int), .int .u64 ((c).toNat : Int), .int .u64 ((d).toNat : Int), .int .u64 ((e).toNat : Int), .int .u64 ((f).toNat : Int), .int .u64 ((g).toNat : Int), .int .u64 ((h).toNat : Int)]) (.int .i64 3)).run Tryz.prog w = .ok (.int .u64 ((d).toNat : Int)) w := by kernel_rfl
theorem ix8_4 (a b c d e f g h : UInt64) (w : World) : (Instr.index 84 (.agg #[.int .u64 ((a).toNat : Int), .int .u64 ((b).toNat : Int), .int .u64 ((c).toNat : Int), .int .u64 ((d).toNat : Int), .int .u64 ((e).toNat : Int), .int .u64 ((f).toNat : Int), .int .u64 ((g).toNat : Int), .int .u64 ((h).toNat : Int)]) (.int .i64 4)).run Tryz.prog w = .ok (.int .u64 ((e).toNat : Int)) w := by kernel_rfl
theorem ix8_5 (a b c d e f g h : UInt64) (w : World) : (Instr.index 84 (.agg #[.int .u64 ((a).toNat : Int), .int .u64 ((b).toNat : Int), .int .u64 ((c).toNat : Int), .int .u64 ((d).toNat : Int), .int .u64 ((e).toNat : Int), .int .u64 ((f).toNat : Int), .int .u64 ((g).toNat : Int), .int .u64 ((h).toNat : Int)]) (.int .i64 5)).run Tryz.prog w = .ok (.int .u64 ((f).toNat : Int)) w := by kernel_rfl
theorem ix8_6 (a b c d e f g h : UInt64) (w : World) : (Instr.index 84 (.agg #[.int .u64 ((a).toNat : Int), .int .u64 ((b).toNat : Int), .int .u64 ((c).toNat : Int), .int .u64 ((d).toNat : Int), .int .u64 ((e).toNat : Int), .int .u64 ((f).toNat : Int), .int .u64 ((g).toNat : Int), .int .u64 ((h).toNat : Int)]) (.int .i64 6)).run Tryz.prog w = .ok (.int .u64 ((g).toNat : Int)) w := by kernel_rfl
theorem ix8_7 (a b c d e f g h : UInt64) (w : World) : (Instr.index 84 (.agg #[.int .u64 ((a).toNat : Int), .int .u64 ((b).toNat : Int), .int .u64 ((c).toNat : Int), .int .u64 ((d).toNat : Int), .int .u64 ((e).toNat : Int), .int .u64 ((f).toNat : Int), .int .u64 ((g).toNat : Int), .int .u64 ((h).toNat : Int)]) (.int .i64 7)).run Tryz.prog w = .ok (.int .u64 ((h).toNat : Int)) w := by kernel_rfl
theorem index8 {L : List UInt64} (hl : L.length = 8) (k : Nat) (hk : k < 8) (w : World) : (Instr.index 84 (.agg (L.map uI).toArray) (.int .i64 (k : Int))).run Tryz.prog w = .ok (.int .u64 ((at0 L k).toNat : Int)) w := by
 match L, hl with
 | [a, b, c, d, e, f, g, h], _ =>
  match k, hk with
  | 0, _ => exact ix8_0 a b c d e f g h w
  | 1, _ => exact ix8_1 a b c d e f g h w
  | 2, _ => exact ix8_2 a b c d e f g h w
  | 3, _ => exact ix8_3 a b c d e f g h w
  | 4, _ => exact ix8_4 a b c d e f g h w
  | 5, _ => exact ix8_5 a b c d e f g h w
  | 6, _ => exact ix8_6 a b c d e f g h w
  | 7, _ => exact ix8_7 a b c d e f g h w
theorem of_isW8 {v : Value} {L : List UInt64} (h : IsFs rW8 v [L]) : v = .agg (L.map uI).toArray ∧ L.length = 8 := by
 obtain ⟨cs, rfl, hc⟩ := h
 obtain ⟨hl, rfl⟩ := Lims.of_single hc
 exact ⟨rfl, hl⟩
/-- The first k words' bytes. -/
def outK (L : List UInt64) (k : Nat) : List UInt8 := ((List.range k).map fun i => be8 (at0 L i)).flatten
theorem outK_succ (L : List UInt64) (k : Nat) : outK L (k + 1) = outK L k ++ be8 (at0 L k) := by
 unfold outK; rw [List.range_succ]; simp
theorem be8_len (x : UInt64) : (be8 x).length = 8 := by unfold be8; rw [List.length_reverse, leB_len]
theorem outK_len (L : List UInt64) : ∀ k, (outK L k).length = 8 * k
 | 0 => rfl
 | k + 1 => by rw [outK_succ, List.length_append, be8_len, outK_len L k]; omega
theorem padB_blocks (l : List UInt8) : (padB l).length = 128 * ((padB l).length / 128) ∧ 0 < (padB l).length / 128 := by
 rw [padB_len]; omega
theorem sha512_out (l : List UInt8) : outK (hSt (padB l) ((padB l).length / 128)) 8 = sha512 l := rfl
theorem sha512_len (l : List UInt8) : (sha512 l).length = 64 := by rw [← sha512_out, outK_len]
theorem pad_blk {a : Option Addr} {n cap M : Nat} {l P : List UInt8} {w : World} (h : RdB w a n cap l) (hm : n ≤ 1000000) (hP : padB l = P) (hM : P.length = 128 * M) (hM0 : 0 < M) :
  Calls Tryz.prog 52 #[.slice a n cap, .int .u64 (n : Int), .int .i64 128] w fun e w' => ∃ g c r, e = .returned (.slice (some ⟨g, 0, none⟩) (128 * M) c) ∧ w.heap.size ≤ g ∧ Blk w' g (P.map bV ++ r) 5 ∧ 128 * M ≤ c ∧ c ≤ maxLen ∧ Below w.heap.size w w' := by
 refine (pad_any w h (by omega)).mono ?_
 rintro e w' ⟨v, rfl, ho, hb⟩
 rw [hP, hM] at ho
 obtain ⟨g, c, r, rfl, hg, hB, _, hc, hm⟩ := own_rdb ho (by omega)
 exact ⟨g, c, r, rfl, hg, hB, hc, hm, hb⟩
theorem rd_at {W : World} {g k m c : Nat} {P : List UInt8} {r : List Value} (hB : Blk W g (P.map bV ++ r) 5) (hl : (P.drop k).length = m) (hc : m ≤ c) (hm : c ≤ maxLen) : RdB W (some ⟨g, k, none⟩) m c (P.drop k) := by
 refine ⟨hl, hc, hm, fun j hj => ⟨g, k, rfl, ?_⟩, fun h => by cases h⟩
 have hj2 := hj
 rw [List.length_drop] at hj2
 rw [hB.cell, List.getElem?_append_left (by rw [List.length_map]; omega), List.getElem?_map, List.getElem?_eq_getElem (by omega), List.getElem_drop]; rfl
set_option maxRecDepth 100000 in
set_option maxHeartbeats 400000 in
theorem sum512_walk {a : Option Addr} {n cap N M : Nat} {ls : List (List UInt8)} {l P : List UInt8} {w : World} (h : RdRows w a n cap ls) (hl : ls.flatten = l) (hN : l.length = N) (hs : N ≤ 1000000) (hP : padB l = P) (hM : P.length = 128 * M) (hM0 : 0 < M) (hM1 : M ≤ 10000) :
  Calls Tryz.prog 19 #[.slice a n cap] w (NewB w (outK (hSt P M) 8)) := by
 have HS := Lib.hid hs
 have HLF := Lib.hid hl
 have HR := Lib.hid h
 have HN := Lib.hid hN
 have HP := Lib.hid hP
 have HM := Lib.hid hM
 have HM0 := Lib.hid hM0
 have HM1 := Lib.hid hM1
 clear h hl hs hN hP hM hM0 hM1
 go_enter Tryz.func19, Tryz.ntmps19
 go_upto_region 2 with (go_at_call 25; go_must (refine (cat_any _ HR.out (by rw [HLF.out, HN.out]; have := HS.out; omega)).mono ?_; rintro e w1 ⟨v, rfl, ho, hb⟩; (rw [HLF.out, HN.out] at ho); obtain ⟨a1, c1, rfl, hr1, _⟩ := own_sl ho; have HR1 := Lib.hid hr1; have hbel := hb; clear ho hb hr1))
 have hbel0 := hbel
 have hNm : (N : Int) ≤ 1000000 := by have := HS.out; omega
 refine rgT [(4, 1), (5, 0)] [.val rW8 [hTab], .new 8, .st 1 rW8 [hTab]] ?_ ?_
 ·intro hs
  refine ⟨?_, ?_, ?_, trivial⟩
  ·refine step_call hs Wn rfl fun L u W hJ hG hL hdep K hK => ?_
   go_simp
   go_at_call 51
   (with_reducible refine (start_any _).mono ?_); rintro e w1 ⟨r, rfl, hr, hb⟩
   exact hK.out _ _ hr hb
  ·exact step_alloc hs Wn rfl rfl (by omega) rfl alloca8
  ·exact step_store 1 hs (by kernel_rfl) Wn rfl rfl rfl (by kernel_rfl) (by kernel_rfl) (by kernel_rfl) (by kernel_rfl) (fun _ => rfl) (gO 0) tya8 rfl
 intro L2 u2z W2z hall hJ hG
 obtain ⟨q4, e4, hq4, _, ht4⟩ := oN 8 hG 1
 have hm4 := oS rW8 [hTab] hG 2 e4
 have hq4 : w.heap.size ≤ q4 := by have := hbel0.size; omega
 have E4 := Lib.hid e4; clear e4
 have hb := hJ.all rfl
 have HBW := Lib.hid hb
 have hbel := Below.call hbel hb
 have hbel0 := hbel
 clear hJ hG hall hb
 have HBR := Lib.hid HBW.out
 clear hbel0
 go_upto_region 4 with (go_at_call 52; go_must (refine (pad_blk (HR1.out.below HBR.out) HS.out HP.out HM.out HM0.out).mono ?_; rintro e w3 ⟨g5, c5, r5, rfl, hg5, hB5, hc5, hm5, hb3⟩))
 have HNE : Hid (q4 ≠ g5) := Lib.hid (by have := hm4.lt; omega)
 have hmQ := hm4.later hb3
 have htQ := there_later ht4 hb3
 have hbel := Below.call hbel hb3
 have hG5 := Lib.hid hg5
 clear hb3 hm4 ht4 hg5
 have hpm : (128 * M : Nat) ≤ 1280000 := by have := HM1.out; omega
 go_loopw [5] (fun b wr => ∃ i off c m : Nat, i ≤ M ∧ m = 128 * (M - i) ∧ b = .slice (some ⟨g5, off, none⟩) m c ∧ (i < M → off = 128 * i) ∧ m ≤ c ∧ c ≤ maxLen ∧ Blk wr g5 (P.map bV ++ r5) 5 ∧ HasFs rW8 wr q4 0 [hSt P i] ∧ wr.there q4 0 8 ∧ Below w.heap.size w wr) (fun b _ => match b with | .slice _ k _ => k | _ => 0)
 case atStart => exact ⟨0, 0, c5, 128 * M, by omega, by rw [Nat.sub_zero], rfl, fun _ => rfl, hc5, hm5, hB5, hmQ, htQ, hbel⟩
 case round =>
  obtain ⟨i, off, c, m, hi, hm, rfl, hoff, hc, hmx, hB, hmL4, htL4, hbel'⟩ := hrel
  clear hB5 hmQ htQ hbel hm5 hc5
  have hbel := hbel'
  have hbel0 := hbel'
  by_cases hlt : i < M
  ·obtain rfl := hoff hlt
   have HI := Lib.hid hlt
   have hpos : (0 : Int) < (m : Int) := by omega
   have HMI := Lib.hid hm
   have HIN : Hid (128 ≤ m) := Lib.hid (by omega)
   have HCC := Lib.hid hc; have HMX := Lib.hid hmx
   have HDL : Hid ((P.drop (128 * i)).length = m) := Lib.hid (by rw [List.length_drop, HM.out, hm]; omega)
   have HB := Lib.hid hB
   have hgt : decide ((0 : Int) < (m : Int)) = true := decide_eq_true hpos
   have hgt2 : decide (0 < m) = true := decide_eq_true (by omega)
   clear hm hoff hi hc hmx hB hlt
   go_upto_region 6 with fail
   clear hgt hgt2
   refine rgT [(21, 0), (0, 1), (0, 2)] [.val rW8 [hSt P i], .oth (fun v => v = .slice (some ⟨g5, 128 * i, none⟩) m c), .val rW8 [hSt P (i + 1)], .sto q4 rW8 [hSt P (i + 1)]] ?_ ?_
   ·intro hs
    refine ⟨?_, ?_, ?_, ?_, trivial⟩
    ·exact step_load q4 0 hs Wn rfl rfl tya8 (fun _ => E4.out) hmL4.lt hmL4 Na
    ·exact mvK hs fun _ => rfl
    ·refine step_call hs Wn rfl fun L u W hJ hG hL hdep K hK => ?_
     have a0 := (vE rW8 [hSt P i] hG hdep 0)
     have x0 := (oE (.slice (some ⟨g5, 128 * i, none⟩) m c) hG hdep 1)
     have hRB0 := rd_at (blk_keep HB.out (hJ.block _ HB.out.lt (fun k hk => by rcases k with _ | _ | _ | _ | k <;> first | (cases hk; done) | (cases hk; exact absurd rfl HNE.out)))) HDL.out HCC.out HMX.out
     go_simp
     go_at_call 53
     (with_reducible refine (turn_any a0 hRB0 (by have := HIN.out; omega)).mono ?_); rintro e w1 ⟨r, rfl, hr, hb⟩
     have hk := hK.out _ _ hr hb
     simp only [x0] at hk
     exact hk
    ·refine step_storeO q4 8 hs Wn rfl rfl (by kernel_rfl) (fun k hk => ?_) (fun _ => E4.out) (there_lt htL4 (by omega)) htL4 (gO 2) tya8 rfl
     rcases k with _ | _ | _ | _ | k
     all_goals first | (exact absurd rfl hk) | (intro e; cases e; done)
   intro L6 u6z W6z hall hJ hG
   have hb := hJ.beN hbel
   have hbel := hbel.trans hb
   have HB := Lib.hid (blk_keep HB.out (hJ.block _ (HB.out.lt) (fun k hk => by rcases k with _ | _ | _ | _ | k <;> first | (cases hk; done) | (cases hk; exact absurd rfl HNE.out))))
   obtain ⟨_, hs6_3t, hs6_3⟩ := oT 8 rW8 [hSt P (i + 1)] hG 3
   have hbel0 := hbel
   clear hJ hG hall hb
   have hcc := HCC.out; have hin := HIN.out; have hmx := HMX.out
   have hmxI : (c : Int) ≤ 9223372036854775807 := by unfold maxLen at hmx; omega
   by_cases hcap : c = 128
   ·subst hcap
    obtain rfl : m = 128 := by omega
    go_wp2
    go_roundw
    case rel => exact ⟨i + 1, 128 * i, 0, 128 - 128, by have := HI.out; omega, by have := HMI.out; omega, rfl, fun h => absurd h (by have := HMI.out; omega), by omega, by unfold maxLen; omega, HB.out, hs6_3, hs6_3t, hbel⟩
    case measure => show 128 - 128 < 128; omega
   ·go_wp2
    go_roundw
    case rel => exact ⟨i + 1, 128 * i + 128, c - 128, m - 128, by have := HI.out; omega, by have := HMI.out; omega, rfl, fun h => by omega, by omega, by unfold maxLen at hmx ⊢; omega, HB.out, hs6_3, hs6_3t, hbel⟩
    case measure => show m - 128 < m; omega
  ·obtain rfl : i = M := by omega
   obtain rfl : m = 0 := by omega
   obtain ⟨H, hH⟩ : ∃ H, H = hSt P i := ⟨_, rfl⟩
   rw [← hH] at hmL4
   have HH := Lib.hid hH
   clear hH hi hm hoff hc hmx hB
   go_upto_region 7 with fail
   refine rgT [(24, 0), (0, 1)] [.val rW8 [H], .oth (fun v => v = .int .i64 0)] ?_ ?_
   ·intro hs
    refine ⟨?_, ?_, trivial⟩
    ·exact step_load q4 0 hs Wn rfl rfl tya8 (fun _ => E4.out) hmL4.lt hmL4 Na
    ·exact mvK hs fun _ => rfl
   intro L7 u7z W7z hall hJ hG
   have hb := hJ.all rfl
   have hbel := Below.call hbel hb
   have hv24 := oV rW8 [H] hG 0
   have HC25 := oC (.int .i64 0) hG 1
   have hbel0 := hbel
   clear hJ hG hall hb
   obtain ⟨hv, h8⟩ := of_isW8 hv24
   have HIX := Lib.hid (fun (k : Nat) (hk : k < 8) (w : World) => index8 h8 k hk w)
   rw [← hv] at HIX
   have HT : Hid (outK H 8 = outK (hSt P i) 8) := Lib.hid (by rw [HH.out])
   have hlb := hbel
   clear hv hmL4 htL4 hbel0 hbel
   go_wp2_with fail
   go_loopw [2, 25] (fun v k wr => ∃ j : Nat, j ≤ 8 ∧ k = .int .i64 (j : Int) ∧ wr.ownsRow w.heap.size 5 1 v (8 * j) ((outK H j).map bV) ∧ Below w.heap.size w wr) (fun _ k _ => 8 - (intOf k).toNat)
   case atStart => exact ⟨0, by omega, by first | rfl | exact HC25.out, World.ownsRow_nil _ _ _ _, hlb⟩
   case round =>
    clear hlb
    obtain ⟨j, hj, rfl, ho, hbel⟩ := hrel
    by_cases hlt : j < 8
    ·have hd : decide ((j : Int) < 8) = true := decide_eq_true (by omega)
     have hix := HIX.out j hlt
     have HO := Lib.hid ho
     have HJ := Lib.hid hlt
     clear ho hlt
     go_wp2_with (first | (go_at_call 54; go_must (refine (put64_any (x := at0 H j) _).mono ?_; rintro e w5 ⟨rfl, hB, hb⟩; have hb5 := Below.call hbel hb; have HO4 := Lib.hid (own_below HO.out hb); have HB := Lib.hid (RdB.blk (n := 8) (cap := 8) (l := be8 (at0 H j)) [] (by rw [List.append_nil]; exact hB) (be8_len _) (by omega) (by unfold maxLen; omega)); clear hB hb)) | (at_builtin; go_must (refine app_bytes _ rfl (.tmp 28) (.tmp 30) rfl w.heap.size _ (8 * j) (outK H j) rfl HO4.out _ 8 8 (be8 (at0 H j)) rfl HB.out (by have := HJ.out; omega) hb5.size w hb5 ?_; intro v4 w6 ho hb6; have HO5 := Lib.hid ho; clear ho)))
     go_roundw
     case rel => exact ⟨j + 1, by have := HJ.out; omega, by go_num, by rw [outK_succ, show 8 * (j + 1) = 8 * j + 8 by omega]; exact HO5.out, hb6⟩
     case measure => have := HJ.out; simp [intOf]; omega
    ·obtain rfl : j = 8 := by omega
     have hd : decide (((8 : Nat) : Int) < 8) = false := by decide
     obtain ⟨g9, c9, r9, rfl, hg9, hB9, hl9, hc9, hm9⟩ := own_rdb ho (by omega)
     have HB9 := Lib.hid hB9; have HL9 := Lib.hid hl9
     clear ho hB9 hl9
     go_wp2
     go_ret
     exact ⟨g9, 64, c9, r9, rfl, hg9, by rw [← HT.out]; exact HB9.out, by rw [outK_len], hc9, hm9, hbel⟩
/-- SHA-512 of rows of bytes. -/
theorem sum512_any {a : Option Addr} {n cap : Nat} {ls : List (List UInt8)} {l : List UInt8} {w : World} (h : RdRows w a n cap ls) (hl : ls.flatten = l) (hs : l.length ≤ 1000000) :
  Calls Tryz.prog 19 #[.slice a n cap] w (NewB w (sha512 l)) := by
 have hp := padB_blocks l
 have h2 := padB_len l
 rw [← sha512_out]
 exact sum512_walk h hl rfl hs rfl hp.1 hp.2 (by omega)
end Go.Proofs.YtielgpefoameiaaGreat
namespace Go.Proofs.YtielgpefoameiaaGreat
open Go.RowKit
/-- A secret, clamped. -/
def clampB (l : List UInt8) : List UInt8 := ((first l 32).set 0 ((first l 32).getD 0 0 &&& 248)).set 31 (((first l 32).getD 31 0 &&& 127) ||| 64)
theorem clampB_len (l : List UInt8) : (clampB l).length = 32 := by simp [clampB, first_len]
theorem and8 (c d : UInt8) : bits BinOp.and IntKind.u8 (c.toNat : Int) (d.toNat : Int) = (((c &&& d).toNat : Nat) : Int) := by
 rw [u8_and_nat _ _ c.toNat_lt d.toNat_lt]; simp
theorem or8 (c d : UInt8) : bits BinOp.or IntKind.u8 (c.toNat : Int) (d.toNat : Int) = (((c ||| d).toNat : Nat) : Int) := by
 rw [u8_or_nat _ _ c.toNat_lt d.toNat_lt]; simp
set_option maxRecDepth 100000 in
set_option maxHeartbeats 400000 in
theorem clamp_any {a : Option Addr} {n cap : Nat} {l : List UInt8} (w : World) (h : RdB w a n cap l) :
  Calls Tryz.prog 21 #[.slice a n cap] w fun e w' => e = .returned (.slice (some ⟨w.heap.size, 0, none⟩) 32 32) ∧ Blk w' w.heap.size ((clampB l).map bV) 5 ∧ Below w.heap.size w w' := by
 have hlen := first_len l 32
 have HC : Hid (clampB l = ((first l 32).set 0 ((first l 32).getD 0 0 &&& 248)).set 31 (((first l 32).getD 31 0 &&& 127) ||| 64)) := Lib.hid rfl
 generalize hfl : first l 32 = fl at *
 have HF := Lib.hid hfl; have HL := Lib.hid hlen
 obtain ⟨c0, hc0⟩ : ∃ c0, c0 = fl.getD 0 0 := ⟨_, rfl⟩
 obtain ⟨c1, hc1⟩ : ∃ c1, c1 = fl.getD 31 0 := ⟨_, rfl⟩
 have H0 := Lib.hid hc0; have H1 := Lib.hid hc1
 obtain ⟨d0, hd0⟩ : ∃ d0, d0 = c0 &&& 248 := ⟨_, rfl⟩
 obtain ⟨d1, hd1⟩ : ∃ d1, d1 = c1 &&& 127 := ⟨_, rfl⟩
 obtain ⟨d2, hd2⟩ : ∃ d2, d2 = d1 ||| 64 := ⟨_, rfl⟩
 have e0 : bits BinOp.and IntKind.u8 (c0.toNat : Int) 248 = ((d0.toNat : Nat) : Int) := by rw [hd0]; exact and8 c0 248
 have e1 : bits BinOp.and IntKind.u8 (c1.toNat : Int) 127 = ((d1.toNat : Nat) : Int) := by rw [hd1]; exact and8 c1 127
 have e2 : bits BinOp.or IntKind.u8 ((d1.toNat : Nat) : Int) 64 = ((d2.toNat : Nat) : Int) := by rw [hd2]; exact or8 d1 64
 rw [hd1] at hd2
 have D0 := Lib.hid hd0; have D2 := Lib.hid hd2
 clear hd0 hd1 hd2
 clear hfl hlen hc0 hc1
 go_enter Tryz.func21, Tryz.ntmps21
 go_wp2_with (go_at_call 55; go_must (refine (first_any 32 (by omega) _ h).mono ?_; rintro e w1 ⟨rfl, hB, hb⟩; rw [HF.out] at hB; have k0 : w1.cell? ⟨w.heap.size, 0, none⟩ = some (.int .u8 (c0.toNat : Int)) := (by rw [hB.cell, H0.out]; have := HL.out; simp [bV, List.getElem?_eq_getElem (show 0 < fl.length by omega)]); have k1 : w1.cell? ⟨w.heap.size, 31, none⟩ = some (.int .u8 (c1.toNat : Int)) := (by rw [hB.cell, H1.out]; have := HL.out; simp [bV, List.getElem?_eq_getElem (show 31 < fl.length by omega)]); have kf := hB.frozen; have HB := Lib.hid hB; clear hB))
 go_ret
 refine ⟨rfl, ?_, belowBy⟩
 have hB := (HB.out.set 0 (bV d0)).set 31 (bV d2)
 rw [← List.map_set, ← List.map_set] at hB
 rw [HC.out, ← H0.out, ← H1.out, ← D0.out, ← D2.out]
 exact hB
end Go.Proofs.YtielgpefoameiaaGreat
namespace Go.Proofs.YtielgpefoameiaaGreat
open Go Go.RowKit
set_option maxRecDepth 100000 in
set_option maxHeartbeats 4000000 in
theorem cPoint {v0 v1 : Value} {x y : F} (h0 : IsFs rE v0 [x]) (h1 : IsFs rE v1 [y]) (w : World) :
  Calls Tryz.prog 95 #[v0, v1] w fun e w' => ∃ r, e = .returned r ∧ IsFs rE r [x, y, fn 1, x * y] ∧ Below w.heap.size w w' := by
 go_enter Tryz.func95, Tryz.ntmps95
 have hbel : Below w.heap.size w w := Below.refl _ _
 have hbel0 := hbel
 go_upto_region 0 with fail
 refine rgT [(2, 0), (0, 1), (0, 2)] [.box rE [x], .box rE [y], .new 20] ?_ ?_
 ·intro hs
  refine ⟨?_, ?_, ?_, trivial⟩
  ·exact step_box hs Wn rfl rfl (gives_c h0 (fun _ => rfl))
  ·exact step_box hs Wn rfl rfl (gives_c h1 (fun _ => rfl))
  ·exact step_alloc hs Wn rfl rfl (by omega) rfl allocP
 intro L0 u0 W0 hall hJ hG
 obtain ⟨q2, e2, ⟨hq2, _⟩, ht2, hm2⟩ := oB 5 rE [x] hG 0
 have hq2 : w.heap.size ≤ q2 := by have := hbel0.size; omega
 have E2 := Lib.hid e2; clear e2
 obtain ⟨q3, e3, ⟨hq3, _⟩, ht3, hm3⟩ := oB 5 rE [y] hG 1
 have hq3 : w.heap.size ≤ q3 := by have := hbel0.size; omega
 have E3 := Lib.hid e3; clear e3
 obtain ⟨q4, e4, hq4, _, ht4⟩ := oN 20 hG 2
 have hq4 : w.heap.size ≤ q4 := by have := hbel0.size; omega
 have E4 := Lib.hid e4; clear e4
 have hb := hJ.all rfl
 have hbel := Below.call hbel hb
 have HN2_4 := Lib.hid (show q2 ≠ q4 from fun e => hJ.apart 0 2 _ (by omega) (hall _ (by simp)) (hall _ (by simp)) rfl rfl (E2.out.trans (by rw [e])) E4.out)
 have HN3_4 := Lib.hid (show q3 ≠ q4 from fun e => hJ.apart 1 2 _ (by omega) (hall _ (by simp)) (hall _ (by simp)) rfl rfl (E3.out.trans (by rw [e])) E4.out)
 have hbel0 := hbel
 clear hJ hG hall hb
 go_upto_region 1 with fail
 refine rgM [(5, 0), (0, 1), (0, 2), (0, 3), (0, 4), (0, 5), (0, 6)] [.val rE [x], .val rE [y], .val rE [fn 1], .val rE [x], .val rE [y], .val rE [x * y], .val rE [x, y, fn 1, x * y], .sto q4 rE [x, y, fn 1, x * y]] ?_ ?_
 ·intro hs
  refine ⟨?_, ?_, ?_, ?_, ?_, ?_, ?_, ?_, trivial⟩
  ·exact step_load q2 0 hs Wn rfl rfl tyE (fun _ => E2.out) hm2.lt hm2 (apN (Ne.symm HN2_4.out))
  ·exact step_load q3 0 hs Wn rfl rfl tyE (fun _ => E3.out) hm3.lt hm3 (apN (Ne.symm HN3_4.out))
  ·refine step_call hs Wn rfl fun L u W hJ hG hL hdep K hK => ?_
   go_simp
   go_at_call 89
   (with_reducible refine (cSmallI (n := 1) (z := 1) rfl (by omega) _).mono ?_); rintro e w1 ⟨r, rfl, hr, hb⟩
   exact hK.out _ _ hr hb
  ·exact step_load q2 0 hs Wn rfl rfl tyE (fun _ => E2.out) hm2.lt hm2 (apN (Ne.symm HN2_4.out))
  ·exact step_load q3 0 hs Wn rfl rfl tyE (fun _ => E3.out) hm3.lt hm3 (apN (Ne.symm HN3_4.out))
  ·refine step_call hs Wn rfl fun L u W hJ hG hL hdep K hK => ?_
   have a0 := (vE rE [x] hG hdep 3)
   have a1 := (vE rE [y] hG hdep 4)
   go_simp
   go_at_call 63
   (with_reducible refine (cMul a0 a1 _).mono ?_); rintro e w1 ⟨r, rfl, hr, hb⟩
   exact hK.out _ _ hr hb
  ·refine step_pure hs Wn rfl fun L u W hG hdep => ?_
   have a0 := (vE rE [x] hG hdep 0)
   have a1 := (vE rE [y] hG hdep 1)
   have a2 := (vE rE [fn 1] hG hdep 2)
   have a3 := (vE rE [x * y] hG hdep 5)
   obtain ⟨r, hr, hx⟩ := build_P a0 a1 a2 a3 W
   exact ⟨r, run_build4 rfl hr, hx⟩
  ·refine step_storeO q4 20 hs Wn rfl rfl (by kernel_rfl) (fun k hk => ?_) (fun _ => E4.out) (there_lt ht4 (by omega)) ht4 (gO 6) tyP4 rfl
   rcases k with _ | _ | _ | _ | _ | _ | _ | _ | k
   all_goals first | (exact absurd rfl hk) | (intro e; cases e; done)
 intro L1 u1 W1 hall hJ hG
 have hb := hJ.beN hbel
 have hbel := hbel.trans hb
 have hm2 := kC hm2 hJ HN2_4.out
 have hm3 := kC hm3 hJ HN3_4.out
 have ht2 := tC ht2 hJ HN2_4.out
 have ht3 := tC ht3 hJ HN3_4.out
 obtain ⟨_, hs1_7t, hs1_7⟩ := oT 20 rE [x, y, fn 1, x * y] hG 7
 have hbel0 := hbel
 clear hJ hG hall hb
 go_wp2
 exact ret_cell1 (R := rE) Tryz.results95 (by exact E4.out) hs1_7 tyP4 rfl (fun r hr => ⟨r, rfl, hr, hbel⟩)
set_option maxRecDepth 100000 in
set_option maxHeartbeats 4000000 in
theorem ready_no {v0 : Value} {x y z t : F} (h0 : IsFs rE v0 [x, y, z, t]) (hz : z ≠ 0) (w : World) :
  Calls Tryz.prog 58 #[v0] w fun e w' => ∃ r, e = .returned r ∧ IsFs rE r [x, y, z, t] ∧ Below w.heap.size w w' := by
 have HZ := Lib.hid hz; clear hz
 go_enter Tryz.func58, Tryz.ntmps58
 have hbel : Below w.heap.size w w := Below.refl _ _
 have hbel0 := hbel
 go_upto_region 0 with fail
 refine rgT [(1, 0), (0, 1)] [.box rE [x, y, z, t], .new 20] ?_ ?_
 ·intro hs
  refine ⟨?_, ?_, trivial⟩
  ·exact step_box hs Wn rfl rfl (gives_c h0 (fun _ => rfl))
  ·exact step_alloc hs Wn rfl rfl (by omega) rfl allocP
 intro L0 u0 W0 hall hJ hG
 obtain ⟨q1, e1, ⟨hq1, _⟩, ht1, hm1⟩ := oB 20 rE [x, y, z, t] hG 0
 have hq1 : w.heap.size ≤ q1 := by have := hbel0.size; omega
 have E1 := Lib.hid e1; clear e1
 obtain ⟨q2, e2, hq2, _, ht2⟩ := oN 20 hG 1
 have hq2 : w.heap.size ≤ q2 := by have := hbel0.size; omega
 have E2 := Lib.hid e2; clear e2
 have hb := hJ.all rfl
 have hbel := Below.call hbel hb
 have HN1_2 := Lib.hid (show q1 ≠ q2 from fun e => hJ.apart 0 1 _ (by omega) (hall _ (by simp)) (hall _ (by simp)) rfl rfl (E1.out.trans (by rw [e])) E2.out)
 have hbel0 := hbel
 clear hJ hG hall hb
 go_upto_region 1 with fail
 refine rgT [(3, 0), (0, 1), (0, 2), (0, 3)] [.ptr q1 10, .val rE [z], .val rE [0], .oth (fun v => v = .bool false)] ?_ ?_
 ·intro hs
  refine ⟨?_, ?_, ?_, ?_, trivial⟩
  ·exact step_field hs Wn rfl rfl (fun _ => E1.out) (field_P2 _)
  ·exact step_loadF 0 q1 10 hs Wn rfl rfl tyE (fun _ => rfl) rfl (by kernel_rfl) hm1.lt (hm1.fld 2 1) Na
  ·exact step_pure hs Wn rfl fun L u W hG hdep => run_build0 rfl (buildE0 W)
  ·refine step_callO hs Wn rfl fun L u W hJ hG hL hdep K hK => ?_
   have a0 := (vE rE [z] hG hdep 1)
   have a1 := (vE rE [0] hG hdep 2)
   go_simp
   go_at_call 94
   (with_reducible refine (cSame (b := false) (decide_eq_false HZ.out) a0 a1 _).mono ?_); rintro e w1 ⟨rfl, hb⟩
   exact hK.out _ _ rfl hb
 intro L1 u1 W1 hall hJ hG
 have hb := hJ.all rfl
 have hbel := Below.call hbel hb
 have hm1 := hm1.later hb
 have ht1 := there_later ht1 hb
 have ht2 := there_later ht2 hb
 have HC6 := oC (.bool false) hG 3
 have hbel0 := hbel
 clear hJ hG hall hb
 have hx : u1 3 = .bool false := HC6.out
 go_wp2_with fail
 rw [hx]
 clear hx
 go_upto_region 3 with fail
 refine rgT [(10, 0)] [.val rE [x, y, z, t], .sto q2 rE [x, y, z, t]] ?_ ?_
 ·intro hs
  refine ⟨?_, ?_, trivial⟩
  ·exact step_load q1 0 hs Wn rfl rfl tyP4 (fun _ => E1.out) hm1.lt hm1 (apN (Ne.symm HN1_2.out))
  ·refine step_storeO q2 20 hs Wn rfl rfl (by kernel_rfl) (fun k hk => ?_) (fun _ => E2.out) (there_lt ht2 (by omega)) ht2 (gO 0) tyP4 rfl
   rcases k with _ | _ | k
   all_goals first | (exact absurd rfl hk) | (intro e; cases e; done)
 intro L3 u3 W3 hall hJ hG
 have hb := hJ.beN hbel
 have hbel := hbel.trans hb
 have hm1 := kC hm1 hJ HN1_2.out
 have ht1 := tC ht1 hJ HN1_2.out
 obtain ⟨_, hs3_1t, hs3_1⟩ := oT 20 rE [x, y, z, t] hG 1
 have hbel0 := hbel
 clear hJ hG hall hb
 go_wp2
 exact ret_cell1 (R := rE) Tryz.results58 (by exact E2.out) hs3_1 tyP4 rfl (fun r hr => ⟨r, rfl, hr, hbel⟩)
set_option maxRecDepth 100000 in
set_option maxHeartbeats 4000000 in
theorem ready_yes {v0 : Value} {x y t : F} (h0 : IsFs rE v0 [x, y, 0, t]) (w : World) :
  Calls Tryz.prog 58 #[v0] w fun e w' => ∃ r, e = .returned r ∧ IsFs rE r [0, fn 1, fn 1, 0 * fn 1] ∧ Below w.heap.size w w' := by
 go_enter Tryz.func58, Tryz.ntmps58
 have hbel : Below w.heap.size w w := Below.refl _ _
 have hbel0 := hbel
 go_upto_region 0 with fail
 refine rgT [(1, 0), (0, 1)] [.box rE [x, y, 0, t], .new 20] ?_ ?_
 ·intro hs
  refine ⟨?_, ?_, trivial⟩
  ·exact step_box hs Wn rfl rfl (gives_c h0 (fun _ => rfl))
  ·exact step_alloc hs Wn rfl rfl (by omega) rfl allocP
 intro L0 u0 W0 hall hJ hG
 obtain ⟨q1, e1, ⟨hq1, _⟩, ht1, hm1⟩ := oB 20 rE [x, y, 0, t] hG 0
 have hq1 : w.heap.size ≤ q1 := by have := hbel0.size; omega
 have E1 := Lib.hid e1; clear e1
 obtain ⟨q2, e2, hq2, _, ht2⟩ := oN 20 hG 1
 have hq2 : w.heap.size ≤ q2 := by have := hbel0.size; omega
 have E2 := Lib.hid e2; clear e2
 have hb := hJ.all rfl
 have hbel := Below.call hbel hb
 have HN1_2 := Lib.hid (show q1 ≠ q2 from fun e => hJ.apart 0 1 _ (by omega) (hall _ (by simp)) (hall _ (by simp)) rfl rfl (E1.out.trans (by rw [e])) E2.out)
 have hbel0 := hbel
 clear hJ hG hall hb
 go_upto_region 1 with fail
 refine rgT [(3, 0), (0, 1), (0, 2), (0, 3)] [.ptr q1 10, .val rE [0], .val rE [0], .oth (fun v => v = .bool true)] ?_ ?_
 ·intro hs
  refine ⟨?_, ?_, ?_, ?_, trivial⟩
  ·exact step_field hs Wn rfl rfl (fun _ => E1.out) (field_P2 _)
  ·exact step_loadF 0 q1 10 hs Wn rfl rfl tyE (fun _ => rfl) rfl (by kernel_rfl) hm1.lt (hm1.fld 2 1) Na
  ·exact step_pure hs Wn rfl fun L u W hG hdep => run_build0 rfl (buildE0 W)
  ·refine step_callO hs Wn rfl fun L u W hJ hG hL hdep K hK => ?_
   have a0 := (vE rE [0] hG hdep 1)
   have a1 := (vE rE [0] hG hdep 2)
   go_simp
   go_at_call 94
   (with_reducible refine (cSame (b := true) (decide_eq_true rfl) a0 a1 _).mono ?_); rintro e w1 ⟨rfl, hb⟩
   exact hK.out _ _ rfl hb
 intro L1 u1 W1 hall hJ hG
 have hb := hJ.all rfl
 have hbel := Below.call hbel hb
 have hm1 := hm1.later hb
 have ht1 := there_later ht1 hb
 have ht2 := there_later ht2 hb
 have HC6 := oC (.bool true) hG 3
 have hbel0 := hbel
 clear hJ hG hall hb
 have hx : u1 3 = .bool true := HC6.out
 go_wp2_with fail
 rw [hx]
 clear hx
 go_upto_region 2 with fail
 refine rgT [(7, 0), (0, 1), (0, 2)] [.val rE [0], .val rE [fn 1], .val rE [0, fn 1, fn 1, 0 * (fn 1)], .sto q2 rE [0, fn 1, fn 1, 0 * (fn 1)]] ?_ ?_
 ·intro hs
  refine ⟨?_, ?_, ?_, ?_, trivial⟩
  ·exact step_pure hs Wn rfl fun L u W hG hdep => run_build0 rfl (buildE0 W)
  ·refine step_call hs Wn rfl fun L u W hJ hG hL hdep K hK => ?_
   go_simp
   go_at_call 89
   (with_reducible refine (cSmallI (n := 1) (z := 1) rfl (by omega) _).mono ?_); rintro e w1 ⟨r, rfl, hr, hb⟩
   exact hK.out _ _ hr hb
  ·refine step_call hs Wn rfl fun L u W hJ hG hL hdep K hK => ?_
   have a0 := (vE rE [0] hG hdep 0)
   have a1 := (vE rE [fn 1] hG hdep 1)
   go_simp
   go_at_call 95
   (with_reducible refine (cPoint a0 a1 _).mono ?_); rintro e w1 ⟨r, rfl, hr, hb⟩
   exact hK.out _ _ hr hb
  ·refine step_storeO q2 20 hs Wn rfl rfl (by kernel_rfl) (fun k hk => ?_) (fun _ => E2.out) (there_lt ht2 (by omega)) ht2 (gO 2) tyP4 rfl
   rcases k with _ | _ | _ | _ | k
   all_goals first | (exact absurd rfl hk) | (intro e; cases e; done)
 intro L2 u2 W2 hall hJ hG
 have hb := hJ.beN hbel
 have hbel := hbel.trans hb
 have hm1 := kC hm1 hJ HN1_2.out
 have ht1 := tC ht1 hJ HN1_2.out
 obtain ⟨_, hs2_3t, hs2_3⟩ := oT 20 rE [0, fn 1, fn 1, 0 * (fn 1)] hG 3
 have hbel0 := hbel
 clear hJ hG hall hb
 go_wp2
 exact ret_cell1 (R := rE) Tryz.results58 (by exact E2.out) hs2_3 tyP4 rfl (fun r hr => ⟨r, rfl, hr, hbel⟩)
theorem cReady {v : Value} {P : EP} (h : IsFs rP v [P]) (w : World) :
  Calls Tryz.prog 58 #[v] w fun e w' => ∃ r, e = .returned r ∧ IsFs rPr r [P] ∧ Below w.heap.size w w' := by
 obtain ⟨x, y, z, t, hn, hp⟩ := of_isP h
 rcases hp with hp | ⟨rfl, rfl⟩
 ·exact (ready_no hn hp.p.z w).mono fun _ _ ⟨r, he, hr, hb⟩ => ⟨r, he, isPr hr hp, hb⟩
 ·exact (ready_yes hn w).mono fun _ _ ⟨r, he, hr, hb⟩ => ⟨r, he, isPr hr (by rw [show (0 : F) * fn 1 = 0 by decide +kernel, show fn 1 = (1 : F) from rfl]; exact Pext.zero), hb⟩
theorem d_is : -fn 121665 * finv (fn 121666) = dE := by
 have h1 := dE_eq
 have h2 : fn 121665 + 1 = fn 121666 := by decide +kernel
 rw [h2] at h1
 have h3 := finv_mul (x := fn 121666) (by decide +kernel)
 rw [← h1]
 generalize finv (fn 121666) = u at *
 generalize fn 121666 = v at *
 generalize dE = d at *
 clear h1 h2
 grind
set_option maxRecDepth 100000 in
set_option maxHeartbeats 4000000 in
theorem d_any  (w : World) :
  Calls Tryz.prog 91 #[] w fun e w' => ∃ r, e = .returned r ∧ IsFs rE r [-fn 121665 * finv (fn 121666)] ∧ Below w.heap.size w w' := by
 go_enter Tryz.func91, Tryz.ntmps91
 have hbel : Below w.heap.size w w := Below.refl _ _
 have hbel0 := hbel
 go_upto_region 0 with fail
 refine rgT [(0, 0)] [.new 5] ?_ ?_
 ·intro hs
  refine ⟨?_, trivial⟩
  ·exact step_alloc hs Wn rfl rfl (by omega) rfl allocE
 intro L0 u0 W0 hall hJ hG
 obtain ⟨q0, e0, hq0, _, ht0⟩ := oN 5 hG 0
 have hq0 : w.heap.size ≤ q0 := by have := hbel0.size; omega
 have E0 := Lib.hid e0; clear e0
 have hb := hJ.all rfl
 have hbel := Below.call hbel hb
 have hbel0 := hbel
 clear hJ hG hall hb
 go_upto_region 1 with fail
 refine rgT [(1, 0), (0, 1), (0, 2), (0, 3), (0, 4)] [.val rE [fn 121665], .val rE [-(fn 121665)], .val rE [fn 121666], .val rE [finv (fn 121666)], .val rE [(-(fn 121665)) * (finv (fn 121666))], .sto q0 rE [(-(fn 121665)) * (finv (fn 121666))]] ?_ ?_
 ·intro hs
  refine ⟨?_, ?_, ?_, ?_, ?_, ?_, trivial⟩
  ·refine step_call hs Wn rfl fun L u W hJ hG hL hdep K hK => ?_
   go_simp
   go_at_call 89
   (with_reducible refine (cSmallI (n := 121665) (z := 121665) rfl (by omega) _).mono ?_); rintro e w1 ⟨r, rfl, hr, hb⟩
   exact hK.out _ _ hr hb
  ·refine step_call hs Wn rfl fun L u W hJ hG hL hdep K hK => ?_
   have a0 := (vE rE [fn 121665] hG hdep 0)
   go_simp
   go_at_call 97
   (with_reducible refine (cNeg a0 _).mono ?_); rintro e w1 ⟨r, rfl, hr, hb⟩
   exact hK.out _ _ hr hb
  ·refine step_call hs Wn rfl fun L u W hJ hG hL hdep K hK => ?_
   go_simp
   go_at_call 89
   (with_reducible refine (cSmallI (n := 121666) (z := 121666) rfl (by omega) _).mono ?_); rintro e w1 ⟨r, rfl, hr, hb⟩
   exact hK.out _ _ hr hb
  ·refine step_call hs Wn rfl fun L u W hJ hG hL hdep K hK => ?_
   have a0 := (vE rE [fn 121666] hG hdep 2)
   go_simp
   go_at_call 62
   (with_reducible refine (cInv a0 _).mono ?_); rintro e w1 ⟨r, rfl, hr, hb⟩
   exact hK.out _ _ hr hb
  ·refine step_call hs Wn rfl fun L u W hJ hG hL hdep K hK => ?_
   have a0 := (vE rE [-(fn 121665)] hG hdep 1)
   have a1 := (vE rE [finv (fn 121666)] hG hdep 3)
   go_simp
   go_at_call 63
   (with_reducible refine (cMul a0 a1 _).mono ?_); rintro e w1 ⟨r, rfl, hr, hb⟩
   exact hK.out _ _ hr hb
  ·refine step_storeO q0 5 hs Wn rfl rfl (by kernel_rfl) (fun k hk => ?_) (fun _ => E0.out) (there_lt ht0 (by omega)) ht0 (gO 4) tyE rfl
   rcases k with _ | _ | _ | _ | _ | _ | k
   all_goals first | (exact absurd rfl hk) | (intro e; cases e; done)
 intro L1 u1 W1 hall hJ hG
 have hb := hJ.beN hbel
 have hbel := hbel.trans hb
 obtain ⟨_, hs1_5t, hs1_5⟩ := oT 5 rE [(-(fn 121665)) * (finv (fn 121666))] hG 5
 have hbel0 := hbel
 clear hJ hG hall hb
 go_wp2
 exact ret_cell1 (R := rE) Tryz.results91 (by exact E0.out) hs1_5 tyE rfl (fun r hr => ⟨r, rfl, hr, hbel⟩)
theorem cD (w : World) : Calls Tryz.prog 91 #[] w fun e w' => ∃ r, e = .returned r ∧ IsFs rE r [dE] ∧ Below w.heap.size w w' := by
 have h := d_any w
 rw [d_is] at h
 exact h
def twB : List UInt8 := [0x59, 0xf1, 0xb2, 0x26, 0x94, 0x9b, 0xd6, 0xeb, 0x56, 0xb1, 0x83, 0x82, 0x9a, 0x14, 0xe0, 0x00, 0x30, 0xd1, 0xf3, 0xee, 0xf2, 0x80, 0x8e, 0x19, 0xe7, 0xfc, 0xdf, 0x56, 0xdc, 0xd9, 0x06, 0x24]
theorem twB_is : feF twB = dE2 := by decide +kernel
theorem twB_len : twB.length = 32 := rfl
theorem twB_cells : [.int .u8 89, .int .u8 241, .int .u8 178, .int .u8 38, .int .u8 148, .int .u8 155, .int .u8 214, .int .u8 235, .int .u8 86, .int .u8 177, .int .u8 131, .int .u8 130, .int .u8 154, .int .u8 20, .int .u8 224, .int .u8 0, .int .u8 48, .int .u8 209, .int .u8 243, .int .u8 238, .int .u8 242, .int .u8 128, .int .u8 142, .int .u8 25, .int .u8 231, .int .u8 252, .int .u8 223, .int .u8 86, .int .u8 220, .int .u8 217, .int .u8 6, .int .u8 36] = twB.map bV := by simp [twB, bV]
theorem twB_run (w : World) : (Instr.build 67 #[(0, .int .u8 89), (1, .int .u8 241), (2, .int .u8 178), (3, .int .u8 38), (4, .int .u8 148), (5, .int .u8 155), (6, .int .u8 214), (7, .int .u8 235), (8, .int .u8 86), (9, .int .u8 177), (10, .int .u8 131), (11, .int .u8 130), (12, .int .u8 154), (13, .int .u8 20), (14, .int .u8 224), (15, .int .u8 0), (16, .int .u8 48), (17, .int .u8 209), (18, .int .u8 243), (19, .int .u8 238), (20, .int .u8 242), (21, .int .u8 128), (22, .int .u8 142), (23, .int .u8 25), (24, .int .u8 231), (25, .int .u8 252), (26, .int .u8 223), (27, .int .u8 86), (28, .int .u8 220), (29, .int .u8 217), (30, .int .u8 6), (31, .int .u8 36)]).run Tryz.prog w = .ok (.agg #[.int .u8 89, .int .u8 241, .int .u8 178, .int .u8 38, .int .u8 148, .int .u8 155, .int .u8 214, .int .u8 235, .int .u8 86, .int .u8 177, .int .u8 131, .int .u8 130, .int .u8 154, .int .u8 20, .int .u8 224, .int .u8 0, .int .u8 48, .int .u8 209, .int .u8 243, .int .u8 238, .int .u8 242, .int .u8 128, .int .u8 142, .int .u8 25, .int .u8 231, .int .u8 252, .int .u8 223, .int .u8 86, .int .u8 220, .int .u8 217, .int .u8 6, .int .u8 36]) w := by kernel_rfl
theorem twB_build {a : Act} {o : Oper} {w : World} (ho : o.op = .build 67 #[(0, .const (.int .u8 89)), (1, .const (.int .u8 241)), (2, .const (.int .u8 178)), (3, .const (.int .u8 38)), (4, .const (.int .u8 148)), (5, .const (.int .u8 155)), (6, .const (.int .u8 214)), (7, .const (.int .u8 235)), (8, .const (.int .u8 86)), (9, .const (.int .u8 177)), (10, .const (.int .u8 131)), (11, .const (.int .u8 130)), (12, .const (.int .u8 154)), (13, .const (.int .u8 20)), (14, .const (.int .u8 224)), (15, .const (.int .u8 0)), (16, .const (.int .u8 48)), (17, .const (.int .u8 209)), (18, .const (.int .u8 243)), (19, .const (.int .u8 238)), (20, .const (.int .u8 242)), (21, .const (.int .u8 128)), (22, .const (.int .u8 142)), (23, .const (.int .u8 25)), (24, .const (.int .u8 231)), (25, .const (.int .u8 252)), (26, .const (.int .u8 223)), (27, .const (.int .u8 86)), (28, .const (.int .u8 220)), (29, .const (.int .u8 217)), (30, .const (.int .u8 6)), (31, .const (.int .u8 36))]) : ∃ v, (execOp a.eval o).run Tryz.prog w = .ok (.value v) w ∧ IsFs rB32 v [twB] := by
 refine ⟨.agg #[.int .u8 89, .int .u8 241, .int .u8 178, .int .u8 38, .int .u8 148, .int .u8 155, .int .u8 214, .int .u8 235, .int .u8 86, .int .u8 177, .int .u8 131, .int .u8 130, .int .u8 154, .int .u8 20, .int .u8 224, .int .u8 0, .int .u8 48, .int .u8 209, .int .u8 243, .int .u8 238, .int .u8 242, .int .u8 128, .int .u8 142, .int .u8 25, .int .u8 231, .int .u8 252, .int .u8 223, .int .u8 86, .int .u8 220, .int .u8 217, .int .u8 6, .int .u8 36], ?_, _, rfl, Lims.single (R := rB32) ⟨twB_len, twB_cells⟩⟩
 unfold execOp
 simp only [ho]
 simp [Act.eval, twB_run]
set_option maxRecDepth 100000 in
set_option maxHeartbeats 4000000 in
theorem cTwice  (w : World) :
  Calls Tryz.prog 59 #[] w fun e w' => ∃ r, e = .returned r ∧ IsFs rE r [dE2] ∧ Below w.heap.size w w' := by
 go_enter Tryz.func59, Tryz.ntmps59
 have hbel : Below w.heap.size w w := Below.refl _ _
 have hbel0 := hbel
 go_upto_region 0 with fail
 refine rgT [(0, 0)] [.new 5] ?_ ?_
 ·intro hs
  refine ⟨?_, trivial⟩
  ·exact step_alloc hs Wn rfl rfl (by omega) rfl allocE
 intro L0 u0 W0 hall hJ hG
 obtain ⟨q0, e0, hq0, _, ht0⟩ := oN 5 hG 0
 have hq0 : w.heap.size ≤ q0 := by have := hbel0.size; omega
 have E0 := Lib.hid e0; clear e0
 have hb := hJ.all rfl
 have hbel := Below.call hbel hb
 have hbel0 := hbel
 clear hJ hG hall hb
 go_upto_region 1 with fail
 refine rgT [(1, 1), (0, 0)] [.val rB32 [twB], .new 32, .st 1 rB32 [twB]] ?_ ?_
 ·intro hs
  refine ⟨?_, ?_, ?_, trivial⟩
  ·exact step_pure hs Wn rfl fun L u W hG hdep => twB_build rfl
  ·exact step_alloc hs Wn rfl rfl (by omega) rfl alloca32
  ·exact step_store 1 hs (by kernel_rfl) Wn rfl rfl rfl (by kernel_rfl) (by kernel_rfl) (by kernel_rfl) (by kernel_rfl) (fun _ => rfl) (gO 0) tya32 rfl
 intro L1 u1 W1 hall hJ hG
 obtain ⟨q1, e1, hq1, _, ht1⟩ := oN 32 hG 1
 have hm1 := oS rB32 [twB] hG 2 e1
 have HD1_q0 := Lib.hid (show q0 ≠ q1 by have := there_lt ht0 (by omega); omega)
 have hq1 : w.heap.size ≤ q1 := by have := hbel0.size; omega
 have E1 := Lib.hid e1; clear e1
 have hb := hJ.all rfl
 have hbel := Below.call hbel hb
 have ht0 := there_later ht0 hb
 have hbel0 := hbel
 clear hJ hG hall hb
 go_upto_region 2 with fail
 refine rgT [(3, 0), (0, 1)] [.oth (fun v => v = .slice (some ⟨q1, 0, none⟩) 32 32), .val rE [dE2], .sto q0 rE [dE2]] ?_ ?_
 ·intro hs
  refine ⟨?_, ?_, ?_, trivial⟩
  ·refine step_pureO hs Wn rfl fun L u W hG hdep => ⟨_, ?_, rfl⟩
   have e0 := E1.out
   go_simp
  ·refine step_call hs Wn rfl fun L u W hJ hG hL hdep K hK => ?_
   have x0 := (oE (.slice (some ⟨q1, 0, none⟩) 32 32) hG hdep 0)
   have hRB0 := (hm1.blk (hJ.block _ hm1.lt (fun k hk => by rcases k with _ | _ | _ | k <;> first | (cases hk; done) | (cases hk; exact absurd rfl HD1_q0.out)))).rdb
   go_simp
   go_at_call 110
   (with_reducible refine (cOf' twB_is hRB0).mono ?_); rintro e w1 ⟨r, rfl, hr, hb⟩
   have hk := hK.out _ _ hr hb
   simp only [x0] at hk
   exact hk
  ·refine step_storeO q0 5 hs Wn rfl rfl (by kernel_rfl) (fun k hk => ?_) (fun _ => E0.out) (there_lt ht0 (by omega)) ht0 (gO 1) tyE rfl
   rcases k with _ | _ | _ | k
   all_goals first | (exact absurd rfl hk) | (intro e; cases e; done)
 intro L2 u2 W2 hall hJ hG
 have hb := hJ.beN hbel
 have hbel := hbel.trans hb
 have hm1 := kB hm1 hJ HD1_q0.out
 have ht1 := tB ht1 hJ HD1_q0.out
 obtain ⟨_, hs2_2t, hs2_2⟩ := oT 5 rE [dE2] hG 2
 have hbel0 := hbel
 clear hJ hG hall hb
 go_wp2
 exact ret_cell1 (R := rE) Tryz.results59 (by exact E0.out) hs2_2 tyE rfl (fun r hr => ⟨r, rfl, hr, hbel⟩)
set_option maxRecDepth 100000 in
set_option maxHeartbeats 4000000 in
theorem sum_any {v0 v1 v2 : Value} {X Y Z T X' Y' Z' T' D : F} (h0 : IsFs rE v0 [X, Y, Z, T]) (h1 : IsFs rE v1 [X', Y', Z', T']) (h2 : IsFs rE v2 [D]) (w : World) :
  Calls Tryz.prog 60 #[v0, v1, v2] w fun e w' => ∃ r, e = .returned r ∧ IsFs rE r [(((Y + X) * (Y' + X')) - ((Y - X) * (Y' - X'))) * (((Z * Z') + (Z * Z')) - ((T * D) * T')), (((Z * Z') + (Z * Z')) + ((T * D) * T')) * (((Y + X) * (Y' + X')) + ((Y - X) * (Y' - X'))), (((Z * Z') + (Z * Z')) - ((T * D) * T')) * (((Z * Z') + (Z * Z')) + ((T * D) * T')), (((Y + X) * (Y' + X')) - ((Y - X) * (Y' - X'))) * (((Y + X) * (Y' + X')) + ((Y - X) * (Y' - X')))] ∧ Below w.heap.size w w' := by
 go_enter Tryz.func60, Tryz.ntmps60
 have hbel : Below w.heap.size w w := Below.refl _ _
 have hbel0 := hbel
 go_upto_region 0 with fail
 refine rgT [(3, 0), (0, 1), (0, 2), (0, 3)] [.box rE [X, Y, Z, T], .box rE [X', Y', Z', T'], .box rE [D], .new 20] ?_ ?_
 ·intro hs
  refine ⟨?_, ?_, ?_, ?_, trivial⟩
  ·exact step_box hs Wn rfl rfl (gives_c h0 (fun _ => rfl))
  ·exact step_box hs Wn rfl rfl (gives_c h1 (fun _ => rfl))
  ·exact step_box hs Wn rfl rfl (gives_c h2 (fun _ => rfl))
  ·exact step_alloc hs Wn rfl rfl (by omega) rfl allocP
 intro L0 u0 W0 hall hJ hG
 obtain ⟨q3, e3, ⟨hq3, _⟩, ht3, hm3⟩ := oB 20 rE [X, Y, Z, T] hG 0
 have hq3 : w.heap.size ≤ q3 := by have := hbel0.size; omega
 have E3 := Lib.hid e3; clear e3
 obtain ⟨q4, e4, ⟨hq4, _⟩, ht4, hm4⟩ := oB 20 rE [X', Y', Z', T'] hG 1
 have hq4 : w.heap.size ≤ q4 := by have := hbel0.size; omega
 have E4 := Lib.hid e4; clear e4
 obtain ⟨q5, e5, ⟨hq5, _⟩, ht5, hm5⟩ := oB 5 rE [D] hG 2
 have hq5 : w.heap.size ≤ q5 := by have := hbel0.size; omega
 have E5 := Lib.hid e5; clear e5
 obtain ⟨q6, e6, hq6, _, ht6⟩ := oN 20 hG 3
 have hq6 : w.heap.size ≤ q6 := by have := hbel0.size; omega
 have E6 := Lib.hid e6; clear e6
 have hb := hJ.all rfl
 have hbel := Below.call hbel hb
 have HN3_6 := Lib.hid (show q3 ≠ q6 from fun e => hJ.apart 0 3 _ (by omega) (hall _ (by simp)) (hall _ (by simp)) rfl rfl (E3.out.trans (by rw [e])) E6.out)
 have HN4_6 := Lib.hid (show q4 ≠ q6 from fun e => hJ.apart 1 3 _ (by omega) (hall _ (by simp)) (hall _ (by simp)) rfl rfl (E4.out.trans (by rw [e])) E6.out)
 have HN5_6 := Lib.hid (show q5 ≠ q6 from fun e => hJ.apart 2 3 _ (by omega) (hall _ (by simp)) (hall _ (by simp)) rfl rfl (E5.out.trans (by rw [e])) E6.out)
 have hbel0 := hbel
 clear hJ hG hall hb
 go_upto_region 1 with fail
 refine rgM [(7, 11), (7, 0), (0, 1), (0, 2), (0, 3), (0, 4), (0, 5), (0, 6), (0, 7), (0, 8), (0, 9), (0, 10)] [.ptr q3 5, .val rE [Y], .ptr q3 0, .val rE [X], .val rE [Y - X], .ptr q4 5, .val rE [Y'], .ptr q4 0, .val rE [X'], .val rE [Y' - X'], .val rE [(Y - X) * (Y' - X')], .new 5, .st 11 rE [(Y - X) * (Y' - X')]] ?_ ?_
 ·intro hs
  refine ⟨?_, ?_, ?_, ?_, ?_, ?_, ?_, ?_, ?_, ?_, ?_, ?_, ?_, trivial⟩
  ·exact step_field hs Wn rfl rfl (fun _ => E3.out) (field_P1 _)
  ·exact step_loadF 0 q3 5 hs Wn rfl rfl tyE (fun _ => rfl) rfl (by kernel_rfl) hm3.lt (hm3.fld 1 1) Na
  ·exact step_field hs Wn rfl rfl (fun _ => E3.out) (field_P0 _)
  ·exact step_loadF 2 q3 0 hs Wn rfl rfl tyE (fun _ => rfl) rfl (by kernel_rfl) hm3.lt (hm3.fld 0 1) Na
  ·refine step_call hs Wn rfl fun L u W hJ hG hL hdep K hK => ?_
   have a0 := (vE rE [Y] hG hdep 1)
   have a1 := (vE rE [X] hG hdep 3)
   go_simp
   go_at_call 90
   (with_reducible refine (cSub a0 a1 _).mono ?_); rintro e w1 ⟨r, rfl, hr, hb⟩
   exact hK.out _ _ hr hb
  ·exact step_field hs Wn rfl rfl (fun _ => E4.out) (field_P1 _)
  ·exact step_loadF 5 q4 5 hs Wn rfl rfl tyE (fun _ => rfl) rfl (by kernel_rfl) hm4.lt (hm4.fld 1 1) Na
  ·exact step_field hs Wn rfl rfl (fun _ => E4.out) (field_P0 _)
  ·exact step_loadF 7 q4 0 hs Wn rfl rfl tyE (fun _ => rfl) rfl (by kernel_rfl) hm4.lt (hm4.fld 0 1) Na
  ·refine step_call hs Wn rfl fun L u W hJ hG hL hdep K hK => ?_
   have a0 := (vE rE [Y'] hG hdep 6)
   have a1 := (vE rE [X'] hG hdep 8)
   go_simp
   go_at_call 90
   (with_reducible refine (cSub a0 a1 _).mono ?_); rintro e w1 ⟨r, rfl, hr, hb⟩
   exact hK.out _ _ hr hb
  ·refine step_call hs Wn rfl fun L u W hJ hG hL hdep K hK => ?_
   have a0 := (vE rE [Y - X] hG hdep 4)
   have a1 := (vE rE [Y' - X'] hG hdep 9)
   go_simp
   go_at_call 63
   (with_reducible refine (cMul a0 a1 _).mono ?_); rintro e w1 ⟨r, rfl, hr, hb⟩
   exact hK.out _ _ hr hb
  ·exact step_alloc hs Wn rfl rfl (by omega) rfl allocE
  ·exact step_store 11 hs (by kernel_rfl) Wn rfl rfl rfl (by kernel_rfl) (by kernel_rfl) (by kernel_rfl) (by kernel_rfl) (fun _ => rfl) (gO 10) tyE rfl
 intro L1 u1 W1 hall hJ hG
 obtain ⟨q7, e7, hq7, _, ht7⟩ := oN 5 hG 11
 have hm7 := oS rE [(Y - X) * (Y' - X')] hG 12 e7
 have HD7_q3 := Lib.hid (show q3 ≠ q7 by have := there_lt ht3 (by omega); omega)
 have HD7_q4 := Lib.hid (show q4 ≠ q7 by have := there_lt ht4 (by omega); omega)
 have HD7_q5 := Lib.hid (show q5 ≠ q7 by have := there_lt ht5 (by omega); omega)
 have HD7_q6 := Lib.hid (show q6 ≠ q7 by have := there_lt ht6 (by omega); omega)
 have hq7 : w.heap.size ≤ q7 := by have := hbel0.size; omega
 have E7 := Lib.hid e7; clear e7
 have hb := hJ.all rfl
 have hbel := Below.call hbel hb
 have hm3 := hm3.later hb
 have hm4 := hm4.later hb
 have hm5 := hm5.later hb
 have ht3 := there_later ht3 hb
 have ht4 := there_later ht4 hb
 have ht5 := there_later ht5 hb
 have ht6 := there_later ht6 hb
 have hbel0 := hbel
 clear hJ hG hall hb
 go_upto_region 2 with fail
 refine rgM [(8, 11), (17, 0), (0, 1), (0, 2), (0, 3), (0, 4), (0, 5), (0, 6), (0, 7), (0, 8), (0, 9), (0, 10)] [.ptr q3 5, .val rE [Y], .ptr q3 0, .val rE [X], .val rE [Y + X], .ptr q4 5, .val rE [Y'], .ptr q4 0, .val rE [X'], .val rE [Y' + X'], .val rE [(Y + X) * (Y' + X')], .new 5, .st 11 rE [(Y + X) * (Y' + X')]] ?_ ?_
 ·intro hs
  refine ⟨?_, ?_, ?_, ?_, ?_, ?_, ?_, ?_, ?_, ?_, ?_, ?_, ?_, trivial⟩
  ·exact step_field hs Wn rfl rfl (fun _ => E3.out) (field_P1 _)
  ·exact step_loadF 0 q3 5 hs Wn rfl rfl tyE (fun _ => rfl) rfl (by kernel_rfl) hm3.lt (hm3.fld 1 1) Na
  ·exact step_field hs Wn rfl rfl (fun _ => E3.out) (field_P0 _)
  ·exact step_loadF 2 q3 0 hs Wn rfl rfl tyE (fun _ => rfl) rfl (by kernel_rfl) hm3.lt (hm3.fld 0 1) Na
  ·refine step_call hs Wn rfl fun L u W hJ hG hL hdep K hK => ?_
   have a0 := (vE rE [Y] hG hdep 1)
   have a1 := (vE rE [X] hG hdep 3)
   go_simp
   go_at_call 92
   (with_reducible refine (cAdd a0 a1 _).mono ?_); rintro e w1 ⟨r, rfl, hr, hb⟩
   exact hK.out _ _ hr hb
  ·exact step_field hs Wn rfl rfl (fun _ => E4.out) (field_P1 _)
  ·exact step_loadF 5 q4 5 hs Wn rfl rfl tyE (fun _ => rfl) rfl (by kernel_rfl) hm4.lt (hm4.fld 1 1) Na
  ·exact step_field hs Wn rfl rfl (fun _ => E4.out) (field_P0 _)
  ·exact step_loadF 7 q4 0 hs Wn rfl rfl tyE (fun _ => rfl) rfl (by kernel_rfl) hm4.lt (hm4.fld 0 1) Na
  ·refine step_call hs Wn rfl fun L u W hJ hG hL hdep K hK => ?_
   have a0 := (vE rE [Y'] hG hdep 6)
   have a1 := (vE rE [X'] hG hdep 8)
   go_simp
   go_at_call 92
   (with_reducible refine (cAdd a0 a1 _).mono ?_); rintro e w1 ⟨r, rfl, hr, hb⟩
   exact hK.out _ _ hr hb
  ·refine step_call hs Wn rfl fun L u W hJ hG hL hdep K hK => ?_
   have a0 := (vE rE [Y + X] hG hdep 4)
   have a1 := (vE rE [Y' + X'] hG hdep 9)
   go_simp
   go_at_call 63
   (with_reducible refine (cMul a0 a1 _).mono ?_); rintro e w1 ⟨r, rfl, hr, hb⟩
   exact hK.out _ _ hr hb
  ·exact step_alloc hs Wn rfl rfl (by omega) rfl allocE
  ·exact step_store 11 hs (by kernel_rfl) Wn rfl rfl rfl (by kernel_rfl) (by kernel_rfl) (by kernel_rfl) (by kernel_rfl) (fun _ => rfl) (gO 10) tyE rfl
 intro L2 u2 W2 hall hJ hG
 obtain ⟨q8, e8, hq8, _, ht8⟩ := oN 5 hG 11
 have hm8 := oS rE [(Y + X) * (Y' + X')] hG 12 e8
 have HD8_q3 := Lib.hid (show q3 ≠ q8 by have := there_lt ht3 (by omega); omega)
 have HD8_q4 := Lib.hid (show q4 ≠ q8 by have := there_lt ht4 (by omega); omega)
 have HD8_q5 := Lib.hid (show q5 ≠ q8 by have := there_lt ht5 (by omega); omega)
 have HD8_q6 := Lib.hid (show q6 ≠ q8 by have := there_lt ht6 (by omega); omega)
 have HD8_q7 := Lib.hid (show q7 ≠ q8 by have := there_lt ht7 (by omega); omega)
 have hq8 : w.heap.size ≤ q8 := by have := hbel0.size; omega
 have E8 := Lib.hid e8; clear e8
 have hb := hJ.all rfl
 have hbel := Below.call hbel hb
 have hm3 := hm3.later hb
 have hm4 := hm4.later hb
 have hm5 := hm5.later hb
 have hm7 := hm7.later hb
 have ht3 := there_later ht3 hb
 have ht4 := there_later ht4 hb
 have ht5 := there_later ht5 hb
 have ht6 := there_later ht6 hb
 have ht7 := there_later ht7 hb
 have hbel0 := hbel
 clear hJ hG hall hb
 go_upto_region 3 with fail
 refine rgM [(9, 7), (27, 0), (0, 1), (0, 2), (0, 3), (0, 4), (0, 5), (0, 6)] [.ptr q3 15, .val rE [T], .val rE [D], .val rE [T * D], .ptr q4 15, .val rE [T'], .val rE [(T * D) * T'], .new 5, .st 7 rE [(T * D) * T']] ?_ ?_
 ·intro hs
  refine ⟨?_, ?_, ?_, ?_, ?_, ?_, ?_, ?_, ?_, trivial⟩
  ·exact step_field hs Wn rfl rfl (fun _ => E3.out) (field_P3 _)
  ·exact step_loadF 0 q3 15 hs Wn rfl rfl tyE (fun _ => rfl) rfl (by kernel_rfl) hm3.lt (hm3.fld 3 1) Na
  ·exact step_load q5 0 hs Wn rfl rfl tyE (fun _ => E5.out) hm5.lt hm5 Na
  ·refine step_call hs Wn rfl fun L u W hJ hG hL hdep K hK => ?_
   have a0 := (vE rE [T] hG hdep 1)
   have a1 := (vE rE [D] hG hdep 2)
   go_simp
   go_at_call 63
   (with_reducible refine (cMul a0 a1 _).mono ?_); rintro e w1 ⟨r, rfl, hr, hb⟩
   exact hK.out _ _ hr hb
  ·exact step_field hs Wn rfl rfl (fun _ => E4.out) (field_P3 _)
  ·exact step_loadF 4 q4 15 hs Wn rfl rfl tyE (fun _ => rfl) rfl (by kernel_rfl) hm4.lt (hm4.fld 3 1) Na
  ·refine step_call hs Wn rfl fun L u W hJ hG hL hdep K hK => ?_
   have a0 := (vE rE [T * D] hG hdep 3)
   have a1 := (vE rE [T'] hG hdep 5)
   go_simp
   go_at_call 63
   (with_reducible refine (cMul a0 a1 _).mono ?_); rintro e w1 ⟨r, rfl, hr, hb⟩
   exact hK.out _ _ hr hb
  ·exact step_alloc hs Wn rfl rfl (by omega) rfl allocE
  ·exact step_store 7 hs (by kernel_rfl) Wn rfl rfl rfl (by kernel_rfl) (by kernel_rfl) (by kernel_rfl) (by kernel_rfl) (fun _ => rfl) (gO 6) tyE rfl
 intro L3 u3 W3 hall hJ hG
 obtain ⟨q9, e9, hq9, _, ht9⟩ := oN 5 hG 7
 have hm9 := oS rE [(T * D) * T'] hG 8 e9
 have HD9_q3 := Lib.hid (show q3 ≠ q9 by have := there_lt ht3 (by omega); omega)
 have HD9_q4 := Lib.hid (show q4 ≠ q9 by have := there_lt ht4 (by omega); omega)
 have HD9_q5 := Lib.hid (show q5 ≠ q9 by have := there_lt ht5 (by omega); omega)
 have HD9_q6 := Lib.hid (show q6 ≠ q9 by have := there_lt ht6 (by omega); omega)
 have HD9_q7 := Lib.hid (show q7 ≠ q9 by have := there_lt ht7 (by omega); omega)
 have HD9_q8 := Lib.hid (show q8 ≠ q9 by have := there_lt ht8 (by omega); omega)
 have hq9 : w.heap.size ≤ q9 := by have := hbel0.size; omega
 have E9 := Lib.hid e9; clear e9
 have hb := hJ.all rfl
 have hbel := Below.call hbel hb
 have hm3 := hm3.later hb
 have hm4 := hm4.later hb
 have hm5 := hm5.later hb
 have hm7 := hm7.later hb
 have hm8 := hm8.later hb
 have ht3 := there_later ht3 hb
 have ht4 := there_later ht4 hb
 have ht5 := there_later ht5 hb
 have ht6 := there_later ht6 hb
 have ht7 := there_later ht7 hb
 have ht8 := there_later ht8 hb
 have hbel0 := hbel
 clear hJ hG hall hb
 go_upto_region 4 with fail
 refine rgT [(10, 5), (33, 0), (0, 1), (0, 2), (0, 3), (0, 4)] [.ptr q3 10, .val rE [Z], .ptr q4 10, .val rE [Z'], .val rE [Z * Z'], .new 5, .st 5 rE [Z * Z']] ?_ ?_
 ·intro hs
  refine ⟨?_, ?_, ?_, ?_, ?_, ?_, ?_, trivial⟩
  ·exact step_field hs Wn rfl rfl (fun _ => E3.out) (field_P2 _)
  ·exact step_loadF 0 q3 10 hs Wn rfl rfl tyE (fun _ => rfl) rfl (by kernel_rfl) hm3.lt (hm3.fld 2 1) Na
  ·exact step_field hs Wn rfl rfl (fun _ => E4.out) (field_P2 _)
  ·exact step_loadF 2 q4 10 hs Wn rfl rfl tyE (fun _ => rfl) rfl (by kernel_rfl) hm4.lt (hm4.fld 2 1) Na
  ·refine step_call hs Wn rfl fun L u W hJ hG hL hdep K hK => ?_
   have a0 := (vE rE [Z] hG hdep 1)
   have a1 := (vE rE [Z'] hG hdep 3)
   go_simp
   go_at_call 63
   (with_reducible refine (cMul a0 a1 _).mono ?_); rintro e w1 ⟨r, rfl, hr, hb⟩
   exact hK.out _ _ hr hb
  ·exact step_alloc hs Wn rfl rfl (by omega) rfl allocE
  ·exact step_store 5 hs (by kernel_rfl) Wn rfl rfl rfl (by kernel_rfl) (by kernel_rfl) (by kernel_rfl) (by kernel_rfl) (fun _ => rfl) (gO 4) tyE rfl
 intro L4 u4 W4 hall hJ hG
 obtain ⟨q10, e10, hq10, _, ht10⟩ := oN 5 hG 5
 have hm10 := oS rE [Z * Z'] hG 6 e10
 have HD10_q3 := Lib.hid (show q3 ≠ q10 by have := there_lt ht3 (by omega); omega)
 have HD10_q4 := Lib.hid (show q4 ≠ q10 by have := there_lt ht4 (by omega); omega)
 have HD10_q5 := Lib.hid (show q5 ≠ q10 by have := there_lt ht5 (by omega); omega)
 have HD10_q6 := Lib.hid (show q6 ≠ q10 by have := there_lt ht6 (by omega); omega)
 have HD10_q7 := Lib.hid (show q7 ≠ q10 by have := there_lt ht7 (by omega); omega)
 have HD10_q8 := Lib.hid (show q8 ≠ q10 by have := there_lt ht8 (by omega); omega)
 have HD10_q9 := Lib.hid (show q9 ≠ q10 by have := there_lt ht9 (by omega); omega)
 have hq10 : w.heap.size ≤ q10 := by have := hbel0.size; omega
 have E10 := Lib.hid e10; clear e10
 have hb := hJ.all rfl
 have hbel := Below.call hbel hb
 have hm3 := hm3.later hb
 have hm4 := hm4.later hb
 have hm5 := hm5.later hb
 have hm7 := hm7.later hb
 have hm8 := hm8.later hb
 have hm9 := hm9.later hb
 have ht3 := there_later ht3 hb
 have ht4 := there_later ht4 hb
 have ht5 := there_later ht5 hb
 have ht6 := there_later ht6 hb
 have ht7 := there_later ht7 hb
 have ht8 := there_later ht8 hb
 have ht9 := there_later ht9 hb
 have hbel0 := hbel
 clear hJ hG hall hb
 go_upto_region 5 with fail
 refine rgT [(49, 0), (0, 1), (0, 2)] [.val rE [Z * Z'], .val rE [Z * Z'], .val rE [(Z * Z') + (Z * Z')], .sto q10 rE [(Z * Z') + (Z * Z')]] ?_ ?_
 ·intro hs
  refine ⟨?_, ?_, ?_, ?_, trivial⟩
  ·exact step_load q10 0 hs Wn rfl rfl tyE (fun _ => E10.out) hm10.lt hm10 Na
  ·exact step_load q10 0 hs Wn rfl rfl tyE (fun _ => E10.out) hm10.lt hm10 Na
  ·refine step_call hs Wn rfl fun L u W hJ hG hL hdep K hK => ?_
   have a0 := (vE rE [Z * Z'] hG hdep 0)
   have a1 := (vE rE [Z * Z'] hG hdep 1)
   go_simp
   go_at_call 92
   (with_reducible refine (cAdd a0 a1 _).mono ?_); rintro e w1 ⟨r, rfl, hr, hb⟩
   exact hK.out _ _ hr hb
  ·refine step_storeO q10 5 hs Wn rfl rfl (by kernel_rfl) (fun k hk => ?_) (fun _ => E10.out) (there_lt ht10 (by omega)) ht10 (gO 2) tyE rfl
   rcases k with _ | _ | _ | _ | k
   all_goals first | (exact absurd rfl hk) | (intro e; cases e; done)
 intro L5 u5 W5 hall hJ hG
 have hb := hJ.beN hbel
 have hbel := hbel.trans hb
 have hm3 := kC hm3 hJ HD10_q3.out
 have hm4 := kC hm4 hJ HD10_q4.out
 have hm5 := kC hm5 hJ HD10_q5.out
 have hm7 := kC hm7 hJ HD10_q7.out
 have hm8 := kC hm8 hJ HD10_q8.out
 have hm9 := kC hm9 hJ HD10_q9.out
 have ht3 := tC ht3 hJ HD10_q3.out
 have ht4 := tC ht4 hJ HD10_q4.out
 have ht5 := tC ht5 hJ HD10_q5.out
 have ht6 := tC ht6 hJ HD10_q6.out
 have ht7 := tC ht7 hJ HD10_q7.out
 have ht8 := tC ht8 hJ HD10_q8.out
 have ht9 := tC ht9 hJ HD10_q9.out
 obtain ⟨_, hs5_3t, hs5_3⟩ := oT 5 rE [(Z * Z') + (Z * Z')] hG 3
 have hbel0 := hbel
 clear hJ hG hall hb
 go_upto_region 6 with fail
 refine rgM [(11, 12), (0, 13), (0, 14), (0, 15), (37, 0), (0, 1), (0, 2), (0, 3), (0, 4), (0, 5), (0, 6), (0, 7), (0, 8), (0, 9), (0, 10), (0, 11)] [.val rE [(Y + X) * (Y' + X')], .val rE [(Y - X) * (Y' - X')], .val rE [((Y + X) * (Y' + X')) - ((Y - X) * (Y' - X'))], .val rE [(Z * Z') + (Z * Z')], .val rE [(T * D) * T'], .val rE [((Z * Z') + (Z * Z')) - ((T * D) * T')], .val rE [(Z * Z') + (Z * Z')], .val rE [(T * D) * T'], .val rE [((Z * Z') + (Z * Z')) + ((T * D) * T')], .val rE [(Y + X) * (Y' + X')], .val rE [(Y - X) * (Y' - X')], .val rE [((Y + X) * (Y' + X')) + ((Y - X) * (Y' - X'))], .new 5, .new 5, .new 5, .new 5, .st 12 rE [((Y + X) * (Y' + X')) - ((Y - X) * (Y' - X'))], .st 13 rE [((Z * Z') + (Z * Z')) - ((T * D) * T')], .st 14 rE [((Z * Z') + (Z * Z')) + ((T * D) * T')], .st 15 rE [((Y + X) * (Y' + X')) + ((Y - X) * (Y' - X'))]] ?_ ?_
 ·intro hs
  refine ⟨?_, ?_, ?_, ?_, ?_, ?_, ?_, ?_, ?_, ?_, ?_, ?_, ?_, ?_, ?_, ?_, ?_, ?_, ?_, ?_, trivial⟩
  ·exact step_load q8 0 hs Wn rfl rfl tyE (fun _ => E8.out) hm8.lt hm8 Na
  ·exact step_load q7 0 hs Wn rfl rfl tyE (fun _ => E7.out) hm7.lt hm7 Na
  ·refine step_call hs Wn rfl fun L u W hJ hG hL hdep K hK => ?_
   have a0 := (vE rE [(Y + X) * (Y' + X')] hG hdep 0)
   have a1 := (vE rE [(Y - X) * (Y' - X')] hG hdep 1)
   go_simp
   go_at_call 90
   (with_reducible refine (cSub a0 a1 _).mono ?_); rintro e w1 ⟨r, rfl, hr, hb⟩
   exact hK.out _ _ hr hb
  ·exact step_load q10 0 hs Wn rfl rfl tyE (fun _ => E10.out) hs5_3.lt hs5_3 Na
  ·exact step_load q9 0 hs Wn rfl rfl tyE (fun _ => E9.out) hm9.lt hm9 Na
  ·refine step_call hs Wn rfl fun L u W hJ hG hL hdep K hK => ?_
   have a0 := (vE rE [(Z * Z') + (Z * Z')] hG hdep 3)
   have a1 := (vE rE [(T * D) * T'] hG hdep 4)
   go_simp
   go_at_call 90
   (with_reducible refine (cSub a0 a1 _).mono ?_); rintro e w1 ⟨r, rfl, hr, hb⟩
   exact hK.out _ _ hr hb
  ·exact step_load q10 0 hs Wn rfl rfl tyE (fun _ => E10.out) hs5_3.lt hs5_3 Na
  ·exact step_load q9 0 hs Wn rfl rfl tyE (fun _ => E9.out) hm9.lt hm9 Na
  ·refine step_call hs Wn rfl fun L u W hJ hG hL hdep K hK => ?_
   have a0 := (vE rE [(Z * Z') + (Z * Z')] hG hdep 6)
   have a1 := (vE rE [(T * D) * T'] hG hdep 7)
   go_simp
   go_at_call 92
   (with_reducible refine (cAdd a0 a1 _).mono ?_); rintro e w1 ⟨r, rfl, hr, hb⟩
   exact hK.out _ _ hr hb
  ·exact step_load q8 0 hs Wn rfl rfl tyE (fun _ => E8.out) hm8.lt hm8 Na
  ·exact step_load q7 0 hs Wn rfl rfl tyE (fun _ => E7.out) hm7.lt hm7 Na
  ·refine step_call hs Wn rfl fun L u W hJ hG hL hdep K hK => ?_
   have a0 := (vE rE [(Y + X) * (Y' + X')] hG hdep 9)
   have a1 := (vE rE [(Y - X) * (Y' - X')] hG hdep 10)
   go_simp
   go_at_call 92
   (with_reducible refine (cAdd a0 a1 _).mono ?_); rintro e w1 ⟨r, rfl, hr, hb⟩
   exact hK.out _ _ hr hb
  ·exact step_alloc hs Wn rfl rfl (by omega) rfl allocE
  ·exact step_alloc hs Wn rfl rfl (by omega) rfl allocE
  ·exact step_alloc hs Wn rfl rfl (by omega) rfl allocE
  ·exact step_alloc hs Wn rfl rfl (by omega) rfl allocE
  ·exact step_store 12 hs (by kernel_rfl) Wn rfl rfl rfl (by kernel_rfl) (by kernel_rfl) (by kernel_rfl) (by kernel_rfl) (fun _ => rfl) (gO 2) tyE rfl
  ·exact step_store 13 hs (by kernel_rfl) Wn rfl rfl rfl (by kernel_rfl) (by kernel_rfl) (by kernel_rfl) (by kernel_rfl) (fun _ => rfl) (gO 5) tyE rfl
  ·exact step_store 14 hs (by kernel_rfl) Wn rfl rfl rfl (by kernel_rfl) (by kernel_rfl) (by kernel_rfl) (by kernel_rfl) (fun _ => rfl) (gO 8) tyE rfl
  ·exact step_store 15 hs (by kernel_rfl) Wn rfl rfl rfl (by kernel_rfl) (by kernel_rfl) (by kernel_rfl) (by kernel_rfl) (fun _ => rfl) (gO 11) tyE rfl
 intro L6 u6 W6 hall hJ hG
 obtain ⟨q11, e11, hq11, _, ht11⟩ := oN 5 hG 12
 have hm11 := oS rE [((Y + X) * (Y' + X')) - ((Y - X) * (Y' - X'))] hG 16 e11
 have HD11_q3 := Lib.hid (show q3 ≠ q11 by have := there_lt ht3 (by omega); omega)
 have HD11_q4 := Lib.hid (show q4 ≠ q11 by have := there_lt ht4 (by omega); omega)
 have HD11_q5 := Lib.hid (show q5 ≠ q11 by have := there_lt ht5 (by omega); omega)
 have HD11_q6 := Lib.hid (show q6 ≠ q11 by have := there_lt ht6 (by omega); omega)
 have HD11_q7 := Lib.hid (show q7 ≠ q11 by have := there_lt ht7 (by omega); omega)
 have HD11_q8 := Lib.hid (show q8 ≠ q11 by have := there_lt ht8 (by omega); omega)
 have HD11_q9 := Lib.hid (show q9 ≠ q11 by have := there_lt ht9 (by omega); omega)
 have HD11_q10 := Lib.hid (show q10 ≠ q11 by have := there_lt hs5_3t (by omega); omega)
 have hq11 : w.heap.size ≤ q11 := by have := hbel0.size; omega
 have E11 := Lib.hid e11; clear e11
 obtain ⟨q12, e12, hq12, _, ht12⟩ := oN 5 hG 13
 have hm12 := oS rE [((Z * Z') + (Z * Z')) - ((T * D) * T')] hG 17 e12
 have HD12_q3 := Lib.hid (show q3 ≠ q12 by have := there_lt ht3 (by omega); omega)
 have HD12_q4 := Lib.hid (show q4 ≠ q12 by have := there_lt ht4 (by omega); omega)
 have HD12_q5 := Lib.hid (show q5 ≠ q12 by have := there_lt ht5 (by omega); omega)
 have HD12_q6 := Lib.hid (show q6 ≠ q12 by have := there_lt ht6 (by omega); omega)
 have HD12_q7 := Lib.hid (show q7 ≠ q12 by have := there_lt ht7 (by omega); omega)
 have HD12_q8 := Lib.hid (show q8 ≠ q12 by have := there_lt ht8 (by omega); omega)
 have HD12_q9 := Lib.hid (show q9 ≠ q12 by have := there_lt ht9 (by omega); omega)
 have HD12_q10 := Lib.hid (show q10 ≠ q12 by have := there_lt hs5_3t (by omega); omega)
 have hq12 : w.heap.size ≤ q12 := by have := hbel0.size; omega
 have E12 := Lib.hid e12; clear e12
 obtain ⟨q13, e13, hq13, _, ht13⟩ := oN 5 hG 14
 have hm13 := oS rE [((Z * Z') + (Z * Z')) + ((T * D) * T')] hG 18 e13
 have HD13_q3 := Lib.hid (show q3 ≠ q13 by have := there_lt ht3 (by omega); omega)
 have HD13_q4 := Lib.hid (show q4 ≠ q13 by have := there_lt ht4 (by omega); omega)
 have HD13_q5 := Lib.hid (show q5 ≠ q13 by have := there_lt ht5 (by omega); omega)
 have HD13_q6 := Lib.hid (show q6 ≠ q13 by have := there_lt ht6 (by omega); omega)
 have HD13_q7 := Lib.hid (show q7 ≠ q13 by have := there_lt ht7 (by omega); omega)
 have HD13_q8 := Lib.hid (show q8 ≠ q13 by have := there_lt ht8 (by omega); omega)
 have HD13_q9 := Lib.hid (show q9 ≠ q13 by have := there_lt ht9 (by omega); omega)
 have HD13_q10 := Lib.hid (show q10 ≠ q13 by have := there_lt hs5_3t (by omega); omega)
 have hq13 : w.heap.size ≤ q13 := by have := hbel0.size; omega
 have E13 := Lib.hid e13; clear e13
 obtain ⟨q14, e14, hq14, _, ht14⟩ := oN 5 hG 15
 have hm14 := oS rE [((Y + X) * (Y' + X')) + ((Y - X) * (Y' - X'))] hG 19 e14
 have HD14_q3 := Lib.hid (show q3 ≠ q14 by have := there_lt ht3 (by omega); omega)
 have HD14_q4 := Lib.hid (show q4 ≠ q14 by have := there_lt ht4 (by omega); omega)
 have HD14_q5 := Lib.hid (show q5 ≠ q14 by have := there_lt ht5 (by omega); omega)
 have HD14_q6 := Lib.hid (show q6 ≠ q14 by have := there_lt ht6 (by omega); omega)
 have HD14_q7 := Lib.hid (show q7 ≠ q14 by have := there_lt ht7 (by omega); omega)
 have HD14_q8 := Lib.hid (show q8 ≠ q14 by have := there_lt ht8 (by omega); omega)
 have HD14_q9 := Lib.hid (show q9 ≠ q14 by have := there_lt ht9 (by omega); omega)
 have HD14_q10 := Lib.hid (show q10 ≠ q14 by have := there_lt hs5_3t (by omega); omega)
 have hq14 : w.heap.size ≤ q14 := by have := hbel0.size; omega
 have E14 := Lib.hid e14; clear e14
 have hb := hJ.all rfl
 have hbel := Below.call hbel hb
 have hm3 := hm3.later hb
 have hm4 := hm4.later hb
 have hm5 := hm5.later hb
 have hm7 := hm7.later hb
 have hm8 := hm8.later hb
 have hm9 := hm9.later hb
 have hs5_3 := hs5_3.later hb
 have ht3 := there_later ht3 hb
 have ht4 := there_later ht4 hb
 have ht5 := there_later ht5 hb
 have ht6 := there_later ht6 hb
 have ht7 := there_later ht7 hb
 have ht8 := there_later ht8 hb
 have ht9 := there_later ht9 hb
 have hs5_3t := there_later hs5_3t hb
 have hbel0 := hbel
 clear hJ hG hall hb
 go_upto_region 7 with fail
 refine rgM [(64, 0), (0, 1), (0, 2), (0, 3), (0, 4), (0, 5), (0, 6), (0, 7), (0, 8), (0, 9), (0, 10), (0, 11), (0, 12)] [.val rE [((Y + X) * (Y' + X')) - ((Y - X) * (Y' - X'))], .val rE [((Z * Z') + (Z * Z')) - ((T * D) * T')], .val rE [(((Y + X) * (Y' + X')) - ((Y - X) * (Y' - X'))) * (((Z * Z') + (Z * Z')) - ((T * D) * T'))], .val rE [((Z * Z') + (Z * Z')) + ((T * D) * T')], .val rE [((Y + X) * (Y' + X')) + ((Y - X) * (Y' - X'))], .val rE [(((Z * Z') + (Z * Z')) + ((T * D) * T')) * (((Y + X) * (Y' + X')) + ((Y - X) * (Y' - X')))], .val rE [((Z * Z') + (Z * Z')) - ((T * D) * T')], .val rE [((Z * Z') + (Z * Z')) + ((T * D) * T')], .val rE [(((Z * Z') + (Z * Z')) - ((T * D) * T')) * (((Z * Z') + (Z * Z')) + ((T * D) * T'))], .val rE [((Y + X) * (Y' + X')) - ((Y - X) * (Y' - X'))], .val rE [((Y + X) * (Y' + X')) + ((Y - X) * (Y' - X'))], .val rE [(((Y + X) * (Y' + X')) - ((Y - X) * (Y' - X'))) * (((Y + X) * (Y' + X')) + ((Y - X) * (Y' - X')))], .val rE [(((Y + X) * (Y' + X')) - ((Y - X) * (Y' - X'))) * (((Z * Z') + (Z * Z')) - ((T * D) * T')), (((Z * Z') + (Z * Z')) + ((T * D) * T')) * (((Y + X) * (Y' + X')) + ((Y - X) * (Y' - X'))), (((Z * Z') + (Z * Z')) - ((T * D) * T')) * (((Z * Z') + (Z * Z')) + ((T * D) * T')), (((Y + X) * (Y' + X')) - ((Y - X) * (Y' - X'))) * (((Y + X) * (Y' + X')) + ((Y - X) * (Y' - X')))], .sto q6 rE [(((Y + X) * (Y' + X')) - ((Y - X) * (Y' - X'))) * (((Z * Z') + (Z * Z')) - ((T * D) * T')), (((Z * Z') + (Z * Z')) + ((T * D) * T')) * (((Y + X) * (Y' + X')) + ((Y - X) * (Y' - X'))), (((Z * Z') + (Z * Z')) - ((T * D) * T')) * (((Z * Z') + (Z * Z')) + ((T * D) * T')), (((Y + X) * (Y' + X')) - ((Y - X) * (Y' - X'))) * (((Y + X) * (Y' + X')) + ((Y - X) * (Y' - X')))]] ?_ ?_
 ·intro hs
  refine ⟨?_, ?_, ?_, ?_, ?_, ?_, ?_, ?_, ?_, ?_, ?_, ?_, ?_, ?_, trivial⟩
  ·exact step_load q11 0 hs Wn rfl rfl tyE (fun _ => E11.out) hm11.lt hm11 (apN HD11_q6.out)
  ·exact step_load q12 0 hs Wn rfl rfl tyE (fun _ => E12.out) hm12.lt hm12 (apN HD12_q6.out)
  ·refine step_call hs Wn rfl fun L u W hJ hG hL hdep K hK => ?_
   have a0 := (vE rE [((Y + X) * (Y' + X')) - ((Y - X) * (Y' - X'))] hG hdep 0)
   have a1 := (vE rE [((Z * Z') + (Z * Z')) - ((T * D) * T')] hG hdep 1)
   go_simp
   go_at_call 63
   (with_reducible refine (cMul a0 a1 _).mono ?_); rintro e w1 ⟨r, rfl, hr, hb⟩
   exact hK.out _ _ hr hb
  ·exact step_load q13 0 hs Wn rfl rfl tyE (fun _ => E13.out) hm13.lt hm13 (apN HD13_q6.out)
  ·exact step_load q14 0 hs Wn rfl rfl tyE (fun _ => E14.out) hm14.lt hm14 (apN HD14_q6.out)
  ·refine step_call hs Wn rfl fun L u W hJ hG hL hdep K hK => ?_
   have a0 := (vE rE [((Z * Z') + (Z * Z')) + ((T * D) * T')] hG hdep 3)
   have a1 := (vE rE [((Y + X) * (Y' + X')) + ((Y - X) * (Y' - X'))] hG hdep 4)
   go_simp
   go_at_call 63
   (with_reducible refine (cMul a0 a1 _).mono ?_); rintro e w1 ⟨r, rfl, hr, hb⟩
   exact hK.out _ _ hr hb
  ·exact step_load q12 0 hs Wn rfl rfl tyE (fun _ => E12.out) hm12.lt hm12 (apN HD12_q6.out)
  ·exact step_load q13 0 hs Wn rfl rfl tyE (fun _ => E13.out) hm13.lt hm13 (apN HD13_q6.out)
  ·refine step_call hs Wn rfl fun L u W hJ hG hL hdep K hK => ?_
   have a0 := (vE rE [((Z * Z') + (Z * Z')) - ((T * D) * T')] hG hdep 6)
   have a1 := (vE rE [((Z * Z') + (Z * Z')) + ((T * D) * T')] hG hdep 7)
   go_simp
   go_at_call 63
   (with_reducible refine (cMul a0 a1 _).mono ?_); rintro e w1 ⟨r, rfl, hr, hb⟩
   exact hK.out _ _ hr hb
  ·exact step_load q11 0 hs Wn rfl rfl tyE (fun _ => E11.out) hm11.lt hm11 (apN HD11_q6.out)
  ·exact step_load q14 0 hs Wn rfl rfl tyE (fun _ => E14.out) hm14.lt hm14 (apN HD14_q6.out)
  ·refine step_call hs Wn rfl fun L u W hJ hG hL hdep K hK => ?_
   have a0 := (vE rE [((Y + X) * (Y' + X')) - ((Y - X) * (Y' - X'))] hG hdep 9)
   have a1 := (vE rE [((Y + X) * (Y' + X')) + ((Y - X) * (Y' - X'))] hG hdep 10)
   go_simp
   go_at_call 63
   (with_reducible refine (cMul a0 a1 _).mono ?_); rintro e w1 ⟨r, rfl, hr, hb⟩
   exact hK.out _ _ hr hb
  ·refine step_pure hs Wn rfl fun L u W hG hdep => ?_
   have a0 := (vE rE [(((Y + X) * (Y' + X')) - ((Y - X) * (Y' - X'))) * (((Z * Z') + (Z * Z')) - ((T * D) * T'))] hG hdep 2)
   have a1 := (vE rE [(((Z * Z') + (Z * Z')) + ((T * D) * T')) * (((Y + X) * (Y' + X')) + ((Y - X) * (Y' - X')))] hG hdep 5)
   have a2 := (vE rE [(((Z * Z') + (Z * Z')) - ((T * D) * T')) * (((Z * Z') + (Z * Z')) + ((T * D) * T'))] hG hdep 8)
   have a3 := (vE rE [(((Y + X) * (Y' + X')) - ((Y - X) * (Y' - X'))) * (((Y + X) * (Y' + X')) + ((Y - X) * (Y' - X')))] hG hdep 11)
   obtain ⟨r, hr, hx⟩ := build_P a0 a1 a2 a3 W
   exact ⟨r, run_build4 rfl hr, hx⟩
  ·refine step_storeO q6 20 hs Wn rfl rfl (by kernel_rfl) (fun k hk => ?_) (fun _ => E6.out) (there_lt ht6 (by omega)) ht6 (gO 12) tyP4 rfl
   rcases k with _ | _ | _ | _ | _ | _ | _ | _ | _ | _ | _ | _ | _ | _ | k
   all_goals first | (exact absurd rfl hk) | (intro e; cases e; done)
 intro L7 u7 W7 hall hJ hG
 have hb := hJ.beN hbel
 have hbel := hbel.trans hb
 have hm3 := kC hm3 hJ HN3_6.out
 have hm4 := kC hm4 hJ HN4_6.out
 have hm5 := kC hm5 hJ HN5_6.out
 have hm7 := kB hm7 hJ HD7_q6.out
 have hm8 := kB hm8 hJ HD8_q6.out
 have hm9 := kB hm9 hJ HD9_q6.out
 have hs5_3 := kB hs5_3 hJ HD10_q6.out
 have hm11 := kB hm11 hJ HD11_q6.out
 have hm12 := kB hm12 hJ HD12_q6.out
 have hm13 := kB hm13 hJ HD13_q6.out
 have hm14 := kB hm14 hJ HD14_q6.out
 have ht3 := tC ht3 hJ HN3_6.out
 have ht4 := tC ht4 hJ HN4_6.out
 have ht5 := tC ht5 hJ HN5_6.out
 have ht7 := tB ht7 hJ HD7_q6.out
 have ht8 := tB ht8 hJ HD8_q6.out
 have ht9 := tB ht9 hJ HD9_q6.out
 have hs5_3t := tB hs5_3t hJ HD10_q6.out
 have ht11 := tB ht11 hJ HD11_q6.out
 have ht12 := tB ht12 hJ HD12_q6.out
 have ht13 := tB ht13 hJ HD13_q6.out
 have ht14 := tB ht14 hJ HD14_q6.out
 obtain ⟨_, hs7_13t, hs7_13⟩ := oT 20 rE [(((Y + X) * (Y' + X')) - ((Y - X) * (Y' - X'))) * (((Z * Z') + (Z * Z')) - ((T * D) * T')), (((Z * Z') + (Z * Z')) + ((T * D) * T')) * (((Y + X) * (Y' + X')) + ((Y - X) * (Y' - X'))), (((Z * Z') + (Z * Z')) - ((T * D) * T')) * (((Z * Z') + (Z * Z')) + ((T * D) * T')), (((Y + X) * (Y' + X')) - ((Y - X) * (Y' - X'))) * (((Y + X) * (Y' + X')) + ((Y - X) * (Y' - X')))] hG 13
 have hbel0 := hbel
 clear hJ hG hall hb
 go_wp2
 exact ret_cell1 (R := rE) Tryz.results60 (by exact E6.out) hs7_13 tyP4 rfl (fun r hr => ⟨r, rfl, hr, hbel⟩)
theorem cSum {v0 v1 v2 : Value} {P Q : EP} (h0 : IsFs rPr v0 [P]) (h1 : IsFs rPr v1 [Q]) (h2 : IsFs rE v2 [dE2]) (w : World) :
  Calls Tryz.prog 60 #[v0, v1, v2] w fun e w' => ∃ r, e = .returned r ∧ IsFs rPr r [Cp.add P Q] ∧ Below w.heap.size w w' := by
 obtain ⟨x, y, z, t, i0, hp⟩ := of_isPr h0
 obtain ⟨x', y', z', t', i1, hq⟩ := of_isPr h1
 exact (sum_any i0 i1 h2 w).mono fun _ _ ⟨r, he, hr, hb⟩ => ⟨r, he, isPr hr (Pext.add (c := cuE) hp hq rfl rfl (by rw [dE2_eq]; rfl) rfl rfl rfl rfl rfl), hb⟩
end Go.Proofs.YtielgpefoameiaaGreat
namespace Go.Proofs.YtielgpefoameiaaGreat
open Go Go.RowKit
theorem sc_253 {x : F} (h : x.val < Lq) : x.val / 2 ^ 253 = 0 := Nat.div_eq_of_lt (Nat.lt_trans h (by decide +kernel))
theorem bit_1 {s : F} {i : Nat} (hi : i ≤ 255) (h : s.val / 2 ^ i % 2 = 1) : bitI s (i : Nat) = 1 := by
 unfold bitI; rw [if_pos ⟨by omega, by omega⟩, show (i : Int).toNat = i from rfl, h]; rfl
theorem bit_0 {s : F} {i : Nat} (hi : i ≤ 255) (h : ¬ s.val / 2 ^ i % 2 = 1) : bitI s (i : Nat) = 0 := by
 unfold bitI; rw [if_pos ⟨by omega, by omega⟩, show (i : Int).toNat = i from rfl, show s.val / 2 ^ i % 2 = 0 by omega]; rfl
theorem mul_dig1 {P : EP} {s : F} {i : Nat} (h : s.val / 2 ^ i % 2 = 1) : Cp.add (Cp.add (Cp.mul (s.val / 2 ^ (i + 1)) P) (Cp.mul (s.val / 2 ^ (i + 1)) P)) P = Cp.mul (s.val / 2 ^ i) P := by rw [mul_digit P s.val i, if_pos h]
theorem mul_dig0 {P : EP} {s : F} {i : Nat} (h : ¬ s.val / 2 ^ i % 2 = 1) : Cp.add (Cp.mul (s.val / 2 ^ (i + 1)) P) (Cp.mul (s.val / 2 ^ (i + 1)) P) = Cp.mul (s.val / 2 ^ i) P := by rw [mul_digit P s.val i, if_neg h]
set_option maxRecDepth 100000 in
set_option maxHeartbeats 4000000 in
theorem cMult {v0 v1 : Value} {P Q : EP} {s : F} (hq : Cp.mul s.val P = Q) (h0 : IsFs rP v0 [P]) (h1 : IsFs rS v1 [s]) (w : World) :
  Calls Tryz.prog 23 #[v0, v1] w fun e w' => ∃ r, e = .returned r ∧ IsFs rP r [Q] ∧ Below w.heap.size w w' := by
 have HL := Lib.hid (of_isS h1).1
 subst hq
 go_enter Tryz.func23, Tryz.ntmps23
 have hbel : Below w.heap.size w w := Below.refl _ _
 have hbel0 := hbel
 go_upto_region 0 with fail
 refine rgT [(2, 0), (0, 1), (0, 2)] [.box rP [P], .box rS [s], .new 20] ?_ ?_
 ·intro hs
  refine ⟨?_, ?_, ?_, trivial⟩
  ·exact step_box hs Wn rfl rfl (gives_c h0 (fun _ => rfl))
  ·exact step_box hs Wn rfl rfl (gives_c h1 (fun _ => rfl))
  ·exact step_alloc hs Wn rfl rfl (by omega) rfl allocP
 intro L0 u0 W0 hall hJ hG
 obtain ⟨q2, e2, ⟨hq2, _⟩, ht2, hm2⟩ := oB 20 rP [P] hG 0
 have hq2 : w.heap.size ≤ q2 := by have := hbel0.size; omega
 have E2 := Lib.hid e2; clear e2
 obtain ⟨q3, e3, ⟨hq3, _⟩, ht3, hm3⟩ := oB 4 rS [s] hG 1
 have hq3 : w.heap.size ≤ q3 := by have := hbel0.size; omega
 have E3 := Lib.hid e3; clear e3
 obtain ⟨q4, e4, hq4, _, ht4⟩ := oN 20 hG 2
 have hq4 : w.heap.size ≤ q4 := by have := hbel0.size; omega
 have E4 := Lib.hid e4; clear e4
 have hb := hJ.all rfl
 have hbel := Below.call hbel hb
 have HN2_3 := Lib.hid (show q2 ≠ q3 from fun e => hJ.apart 0 1 _ (by omega) (hall _ (by simp)) (hall _ (by simp)) rfl rfl (E2.out.trans (by rw [e])) E3.out)
 have HN2_4 := Lib.hid (show q2 ≠ q4 from fun e => hJ.apart 0 2 _ (by omega) (hall _ (by simp)) (hall _ (by simp)) rfl rfl (E2.out.trans (by rw [e])) E4.out)
 have HN3_4 := Lib.hid (show q3 ≠ q4 from fun e => hJ.apart 1 2 _ (by omega) (hall _ (by simp)) (hall _ (by simp)) rfl rfl (E3.out.trans (by rw [e])) E4.out)
 have hbel0 := hbel
 clear hJ hG hall hb
 go_upto_region 1 with fail
 refine rgT [(8, 0), (0, 1)] [.val rP [P], .val rPr [P], .sto q2 rPr [P]] ?_ ?_
 ·intro hs
  refine ⟨?_, ?_, ?_, trivial⟩
  ·exact step_load q2 0 hs Wn rfl rfl tyP (fun _ => E2.out) hm2.lt hm2 Na
  ·refine step_call hs Wn rfl fun L u W hJ hG hL hdep K hK => ?_
   have a0 := (vE rP [P] hG hdep 0)
   go_simp
   go_at_call 58
   (with_reducible refine (cReady a0 _).mono ?_); rintro e w1 ⟨r, rfl, hr, hb⟩
   exact hK.out _ _ hr hb
  ·refine step_storeO q2 20 hs Wn rfl rfl (by kernel_rfl) (fun k hk => ?_) (fun _ => E2.out) (there_lt ht2 (by omega)) ht2 (gO 1) tyPr rfl
   rcases k with _ | _ | _ | k
   all_goals first | (exact absurd rfl hk) | (intro e; cases e; done)
 intro L1 u1 W1 hall hJ hG
 have hb := hJ.beN hbel
 have hbel := hbel.trans hb
 have hm3 := kB hm3 hJ HN2_3.out
 have ht3 := tB ht3 hJ HN2_3.out
 have ht4 := tB ht4 hJ HN2_4.out
 obtain ⟨_, hs1_2t, hs1_2⟩ := oT 20 rPr [P] hG 2
 have hbel0 := hbel
 clear hJ hG hall hb
 go_upto_region 2 with fail
 refine rgT [(5, 1), (4, 0)] [.val rE [dE2], .new 5, .st 1 rE [dE2]] ?_ ?_
 ·intro hs
  refine ⟨?_, ?_, ?_, trivial⟩
  ·refine step_call hs Wn rfl fun L u W hJ hG hL hdep K hK => ?_
   go_simp
   go_at_call 59
   (with_reducible refine (cTwice _).mono ?_); rintro e w1 ⟨r, rfl, hr, hb⟩
   exact hK.out _ _ hr hb
  ·exact step_alloc hs Wn rfl rfl (by omega) rfl allocE
  ·exact step_store 1 hs (by kernel_rfl) Wn rfl rfl rfl (by kernel_rfl) (by kernel_rfl) (by kernel_rfl) (by kernel_rfl) (fun _ => rfl) (gO 0) tyE rfl
 intro L2 u2 W2 hall hJ hG
 obtain ⟨q5, e5, hq5, _, ht5⟩ := oN 5 hG 1
 have hm5 := oS rE [dE2] hG 2 e5
 have HD5_q2 := Lib.hid (show q2 ≠ q5 by have := there_lt hs1_2t (by omega); omega)
 have HD5_q3 := Lib.hid (show q3 ≠ q5 by have := there_lt ht3 (by omega); omega)
 have HD5_q4 := Lib.hid (show q4 ≠ q5 by have := there_lt ht4 (by omega); omega)
 have hq5 : w.heap.size ≤ q5 := by have := hbel0.size; omega
 have E5 := Lib.hid e5; clear e5
 have hb := hJ.all rfl
 have hbel := Below.call hbel hb
 have hs1_2 := hs1_2.later hb
 have hm3 := hm3.later hb
 have hs1_2t := there_later hs1_2t hb
 have ht3 := there_later ht3 hb
 have ht4 := there_later ht4 hb
 have hbel0 := hbel
 clear hJ hG hall hb
 go_upto_region 3 with fail
 refine rgT [(6, 2), (4, 0), (0, 1)] [.val rP [Cp.zero], .val rPr [Cp.zero], .new 20, .st 2 rPr [Cp.zero]] ?_ ?_
 ·intro hs
  refine ⟨?_, ?_, ?_, ?_, trivial⟩
  ·exact step_pure hs Wn rfl fun L u W hG hdep => run_build0 rfl (build_P0 W)
  ·refine step_call hs Wn rfl fun L u W hJ hG hL hdep K hK => ?_
   have a0 := (vE rP [Cp.zero] hG hdep 0)
   go_simp
   go_at_call 58
   (with_reducible refine (cReady a0 _).mono ?_); rintro e w1 ⟨r, rfl, hr, hb⟩
   exact hK.out _ _ hr hb
  ·exact step_alloc hs Wn rfl rfl (by omega) rfl allocP
  ·exact step_store 2 hs (by kernel_rfl) Wn rfl rfl rfl (by kernel_rfl) (by kernel_rfl) (by kernel_rfl) (by kernel_rfl) (fun _ => rfl) (gO 1) tyPr rfl
 intro L3 u3 W3 hall hJ hG
 obtain ⟨q6, e6, hq6, _, ht6⟩ := oN 20 hG 2
 have hm6 := oS rPr [Cp.zero] hG 3 e6
 have HD6_q2 := Lib.hid (show q2 ≠ q6 by have := there_lt hs1_2t (by omega); omega)
 have HD6_q3 := Lib.hid (show q3 ≠ q6 by have := there_lt ht3 (by omega); omega)
 have HD6_q4 := Lib.hid (show q4 ≠ q6 by have := there_lt ht4 (by omega); omega)
 have HD6_q5 := Lib.hid (show q5 ≠ q6 by have := there_lt ht5 (by omega); omega)
 have hq6 : w.heap.size ≤ q6 := by have := hbel0.size; omega
 have E6 := Lib.hid e6; clear e6
 have hb := hJ.all rfl
 have hbel := Below.call hbel hb
 have hs1_2 := hs1_2.later hb
 have hm3 := hm3.later hb
 have hm5 := hm5.later hb
 have hs1_2t := there_later hs1_2t hb
 have ht3 := there_later ht3 hb
 have ht4 := there_later ht4 hb
 have ht5 := there_later ht5 hb
 have hbel0 := hbel
 clear hJ hG hall hb
 go_wp2_with fail
 go_loopw [7] (fun sk wr => ∃ j : Nat, j ≤ 253 ∧ sk = .int .i64 ((j : Int) - 1) ∧ HasFs rPr wr q2 0 [P] ∧ HasFs rS wr q3 0 [s] ∧ HasFs rE wr q5 0 [dE2] ∧ HasFs rPr wr q6 0 [Cp.mul (s.val / 2 ^ j) P] ∧ wr.there q2 0 20 ∧ wr.there q3 0 4 ∧ wr.there q5 0 5 ∧ wr.there q6 0 20 ∧ wr.there q4 0 20 ∧ Below w.heap.size w wr) (fun t _ => (intOf t + 1).toNat)
 case atStart => exact ⟨253, by omega, by simp, hs1_2, hm3, hm5, (by rw [sc_253 HL.out]; exact hm6), hs1_2t, ht3, ht5, ht6, ht4, hbel⟩
 case round =>
  obtain ⟨j, hj, rfl, hmP, hmS, hmD, hmO, ht2', ht3', ht5', ht6', ht4', hbel'⟩ := hrel
  clear hm3 hm5 hm6 hs1_2 hs1_2t ht3 ht4 ht5 ht6 hbel hbel0 h0 h1
  have hbel := hbel'
  have hbel0 := hbel'
  by_cases h0 : 0 < j
  ·obtain ⟨i, rfl⟩ : ∃ i, j = i + 1 := ⟨j - 1, by omega⟩
   have hz : (((i + 1 : Nat) : Int) - 1) = (i : Int) := by omega
   simp only [hz]
   have h1 : (0 : Int) ≤ (i : Int) := by omega
   have h2 : (i : Int) < 256 := by omega
   have HI : Hid (i + 1 ≤ 253) := Lib.hid (by omega)
   clear hz h0 hj
   go_upto_region 7 with fail
   refine rgT [(17, 0), (0, 1), (0, 2), (0, 3)] [.val rPr [Cp.mul (s.val / 2 ^ (i + 1)) P], .val rPr [Cp.mul (s.val / 2 ^ (i + 1)) P], .val rE [dE2], .val rPr [Cp.add (Cp.mul (s.val / 2 ^ (i + 1)) P) (Cp.mul (s.val / 2 ^ (i + 1)) P)], .sto q6 rPr [Cp.add (Cp.mul (s.val / 2 ^ (i + 1)) P) (Cp.mul (s.val / 2 ^ (i + 1)) P)]] ?_ ?_
   ·intro hs
    refine ⟨?_, ?_, ?_, ?_, ?_, trivial⟩
    ·exact step_load q6 0 hs Wn rfl rfl tyPr (fun _ => E6.out) hmO.lt hmO Na
    ·exact step_load q6 0 hs Wn rfl rfl tyPr (fun _ => E6.out) hmO.lt hmO Na
    ·exact step_load q5 0 hs Wn rfl rfl tyE (fun _ => E5.out) hmD.lt hmD (apN (Ne.symm HD6_q5.out))
    ·refine step_call hs Wn rfl fun L u W hJ hG hL hdep K hK => ?_
     have a0 := (vE rPr [Cp.mul (s.val / 2 ^ (i + 1)) P] hG hdep 0)
     have a1 := (vE rPr [Cp.mul (s.val / 2 ^ (i + 1)) P] hG hdep 1)
     have a2 := (vE rE [dE2] hG hdep 2)
     go_simp
     go_at_call 60
     (with_reducible refine (cSum a0 a1 a2 _).mono ?_); rintro e w1 ⟨r, rfl, hr, hb⟩
     exact hK.out _ _ hr hb
    ·refine step_storeO q6 20 hs Wn rfl rfl (by kernel_rfl) (fun k hk => ?_) (fun _ => E6.out) (there_lt ht6' (by omega)) ht6' (gO 3) tyPr rfl
     rcases k with _ | _ | _ | _ | _ | k
     all_goals first | (exact absurd rfl hk) | (intro e; cases e; done)
   intro L7 u7 W7 hall hJ hG
   have hb := hJ.beN hbel
   have hbel := hbel.trans hb
   have hmP := kC hmP hJ HD6_q2.out
   have hmS := kC hmS hJ HD6_q3.out
   have hmD := kC hmD hJ HD6_q5.out
   have ht2' := tC ht2' hJ HD6_q2.out
   have ht3' := tC ht3' hJ HD6_q3.out
   have ht5' := tC ht5' hJ HD6_q5.out
   have ht4' := tC ht4' hJ HD6_q4.out
   obtain ⟨_, hs7_4t, hs7_4⟩ := oT 20 rPr [Cp.add (Cp.mul (s.val / 2 ^ (i + 1)) P) (Cp.mul (s.val / 2 ^ (i + 1)) P)] hG 4
   have hbel0 := hbel
   clear hJ hG hall hb
   by_cases hb1 : s.val / 2 ^ i % 2 = 1
   ·have HB := Lib.hid hb1; clear hb1
    go_upto_region 8 with fail
    refine rgT [(21, 0), (0, 1), (0, 2), (0, 3)] [.val rS [s], .oth (fun v => v = .int .i64 (i : Int)), .oth (fun v => v = .int .i64 1), .oth (fun v => v = .bool true)] ?_ ?_
    ·intro hs
     refine ⟨?_, ?_, ?_, ?_, trivial⟩
     ·exact step_load q3 0 hs Wn rfl rfl tyS (fun _ => E3.out) hmS.lt hmS Na
     ·exact mvK hs fun _ => rfl
     ·refine step_callO hs Wn rfl fun L u W hJ hG hL hdep K hK => ?_
      have a0 := (vE rS [s] hG hdep 0)
      have x0 := (oE (.int .i64 (i : Int)) hG hdep 1)
      go_simp
      go_at_call 61
      (with_reducible refine (cScBit (z := 1) (bit_1 (by have := HI.out; omega) HB.out) a0 _).mono ?_); rintro e w1 ⟨rfl, hb⟩
      have hk := hK.out _ _ rfl hb
      simp only [x0] at hk
      exact hk
     ·refine step_pureO hs Wn rfl fun L u W hG hdep => ⟨_, ?_, rfl⟩
      have e0 := (oE (.int .i64 1) hG hdep 2)
      go_simp
      try simp [bne]
    intro L8 u8y W8y hall hJ hG
    have hb := hJ.all rfl
    have hbel := Below.call hbel hb
    have hmP := hmP.later hb
    have hmS := hmS.later hb
    have hmD := hmD.later hb
    have hs7_4 := hs7_4.later hb
    have ht2' := there_later ht2' hb
    have ht3' := there_later ht3' hb
    have ht5' := there_later ht5' hb
    have hs7_4t := there_later hs7_4t hb
    have ht4' := there_later ht4' hb
    have HC24 := oC (.bool true) hG 3
    have hbel0 := hbel
    clear hJ hG hall hb
    have hx : u8y 3 = .bool true := HC24.out
    go_wp2_with fail
    rw [hx]
    clear hx
    go_upto_region 9 with fail
    refine rgT [(25, 0), (0, 1), (0, 2), (0, 3)] [.val rPr [Cp.add (Cp.mul (s.val / 2 ^ (i + 1)) P) (Cp.mul (s.val / 2 ^ (i + 1)) P)], .val rPr [P], .val rE [dE2], .val rPr [Cp.add (Cp.add (Cp.mul (s.val / 2 ^ (i + 1)) P) (Cp.mul (s.val / 2 ^ (i + 1)) P)) P], .sto q6 rPr [Cp.add (Cp.add (Cp.mul (s.val / 2 ^ (i + 1)) P) (Cp.mul (s.val / 2 ^ (i + 1)) P)) P]] ?_ ?_
    ·intro hs
     refine ⟨?_, ?_, ?_, ?_, ?_, trivial⟩
     ·exact step_load q6 0 hs Wn rfl rfl tyPr (fun _ => E6.out) hs7_4.lt hs7_4 Na
     ·exact step_load q2 0 hs Wn rfl rfl tyPr (fun _ => E2.out) hmP.lt hmP (apN (Ne.symm HD6_q2.out))
     ·exact step_load q5 0 hs Wn rfl rfl tyE (fun _ => E5.out) hmD.lt hmD (apN (Ne.symm HD6_q5.out))
     ·refine step_call hs Wn rfl fun L u W hJ hG hL hdep K hK => ?_
      have a0 := (vE rPr [Cp.add (Cp.mul (s.val / 2 ^ (i + 1)) P) (Cp.mul (s.val / 2 ^ (i + 1)) P)] hG hdep 0)
      have a1 := (vE rPr [P] hG hdep 1)
      have a2 := (vE rE [dE2] hG hdep 2)
      go_simp
      go_at_call 60
      (with_reducible refine (cSum a0 a1 a2 _).mono ?_); rintro e w1 ⟨r, rfl, hr, hb⟩
      exact hK.out _ _ hr hb
     ·refine step_storeO q6 20 hs Wn rfl rfl (by kernel_rfl) (fun k hk => ?_) (fun _ => E6.out) (there_lt hs7_4t (by omega)) hs7_4t (gO 3) tyPr rfl
      rcases k with _ | _ | _ | _ | _ | k
      all_goals first | (exact absurd rfl hk) | (intro e; cases e; done)
    intro L9 u9y W9y hall hJ hG
    have hb := hJ.beN hbel
    have hbel := hbel.trans hb
    have hmP := kC hmP hJ HD6_q2.out
    have hmS := kC hmS hJ HD6_q3.out
    have hmD := kC hmD hJ HD6_q5.out
    have ht2' := tC ht2' hJ HD6_q2.out
    have ht3' := tC ht3' hJ HD6_q3.out
    have ht5' := tC ht5' hJ HD6_q5.out
    have ht4' := tC ht4' hJ HD6_q4.out
    obtain ⟨_, hs9_4t, hs9_4⟩ := oT 20 rPr [Cp.add (Cp.add (Cp.mul (s.val / 2 ^ (i + 1)) P) (Cp.mul (s.val / 2 ^ (i + 1)) P)) P] hG 4
    have hbel0 := hbel
    clear hJ hG hall hb
    go_wp2_with fail
    go_roundw
    case rel => exact ⟨i, by have := HI.out; omega, by go_num, hmP, hmS, hmD, (by rw [← mul_dig1 HB.out]; exact hs9_4), ht2', ht3', ht5', hs9_4t, ht4', hbel⟩
    case measure => simp [intOf]
   ·have HB := Lib.hid hb1; clear hb1
    go_upto_region 8 with fail
    refine rgT [(21, 0), (0, 1), (0, 2), (0, 3)] [.val rS [s], .oth (fun v => v = .int .i64 (i : Int)), .oth (fun v => v = .int .i64 0), .oth (fun v => v = .bool false)] ?_ ?_
    ·intro hs
     refine ⟨?_, ?_, ?_, ?_, trivial⟩
     ·exact step_load q3 0 hs Wn rfl rfl tyS (fun _ => E3.out) hmS.lt hmS Na
     ·exact mvK hs fun _ => rfl
     ·refine step_callO hs Wn rfl fun L u W hJ hG hL hdep K hK => ?_
      have a0 := (vE rS [s] hG hdep 0)
      have x0 := (oE (.int .i64 (i : Int)) hG hdep 1)
      go_simp
      go_at_call 61
      (with_reducible refine (cScBit (z := 0) (bit_0 (by have := HI.out; omega) HB.out) a0 _).mono ?_); rintro e w1 ⟨rfl, hb⟩
      have hk := hK.out _ _ rfl hb
      simp only [x0] at hk
      exact hk
     ·refine step_pureO hs Wn rfl fun L u W hG hdep => ⟨_, ?_, rfl⟩
      have e0 := (oE (.int .i64 0) hG hdep 2)
      go_simp
      try simp [bne]
    intro L8 u8n W8n hall hJ hG
    have hb := hJ.all rfl
    have hbel := Below.call hbel hb
    have hmP := hmP.later hb
    have hmS := hmS.later hb
    have hmD := hmD.later hb
    have hs7_4 := hs7_4.later hb
    have ht2' := there_later ht2' hb
    have ht3' := there_later ht3' hb
    have ht5' := there_later ht5' hb
    have hs7_4t := there_later hs7_4t hb
    have ht4' := there_later ht4' hb
    have HC24 := oC (.bool false) hG 3
    have hbel0 := hbel
    clear hJ hG hall hb
    have hx : u8n 3 = .bool false := HC24.out
    go_wp2_with fail
    rw [hx]
    clear hx
    go_wp2_with fail
    go_roundw
    case rel => exact ⟨i, by have := HI.out; omega, by go_num, hmP, hmS, hmD, (by rw [← mul_dig0 HB.out]; exact hs7_4), ht2', ht3', ht5', hs7_4t, ht4', hbel⟩
    case measure => simp [intOf]
  ·obtain rfl : j = 0 := by omega
   have hz : (((0 : Nat) : Int) - 1) = -1 := by omega
   simp only [hz]
   clear hz h0 hj
   go_upto_region 10 with fail
   refine rgT [(29, 0)] [.val rPr [Cp.mul (s.val / 2 ^ 0) P], .sto q4 rPr [Cp.mul (s.val / 2 ^ 0) P]] ?_ ?_
   ·intro hs
    refine ⟨?_, ?_, trivial⟩
    ·exact step_load q6 0 hs Wn rfl rfl tyPr (fun _ => E6.out) hmO.lt hmO (apN HD6_q4.out)
    ·refine step_storeO q4 20 hs Wn rfl rfl (by kernel_rfl) (fun k hk => ?_) (fun _ => E4.out) (there_lt ht4' (by omega)) ht4' (gO 0) tyPr rfl
     rcases k with _ | _ | k
     all_goals first | (exact absurd rfl hk) | (intro e; cases e; done)
   intro L10 u10 W10 hall hJ hG
   have hb := hJ.beN hbel
   have hbel := hbel.trans hb
   have hmP := kC hmP hJ HN2_4.out
   have hmS := kC hmS hJ HN3_4.out
   have hmD := kB hmD hJ HD5_q4.out
   have hmO := kB hmO hJ HD6_q4.out
   have ht2' := tC ht2' hJ HN2_4.out
   have ht3' := tC ht3' hJ HN3_4.out
   have ht5' := tB ht5' hJ HD5_q4.out
   have ht6' := tB ht6' hJ HD6_q4.out
   obtain ⟨_, hs10_1t, hs10_1⟩ := oT 20 rPr [Cp.mul (s.val / 2 ^ 0) P] hG 1
   have hbel0 := hbel
   clear hJ hG hall hb
   go_wp2
   exact ret_cell1 (R := rPr) Tryz.results23 (by exact E4.out) hs10_1 tyPr rfl (fun r hr => ⟨r, rfl, by rw [Nat.pow_zero, Nat.div_one] at hr; exact toP hr, hbel⟩)
end Go.Proofs.YtielgpefoameiaaGreat
namespace Go.Proofs.YtielgpefoameiaaGreat
open Go Go.RowKit
theorem hi_bit {x : Nat} (hx : x < Pq) : (leB 32 x).set 31 ((leB 32 x).getD 31 0 ||| 128) = leB 32 (x + 57896044618658097711785492504343953926634992332820282019728792003956564819968) := by
 have h31 : (leB 32 x).getD 31 0 = UInt8.ofNat (x / 2 ^ 248) := by
  simp [leB]
 have hd : x / 2 ^ 248 < 128 := by unfold Pq at hx; simp only [Nat.reducePow]; omega
 apply List.ext_getElem
 ·simp [leB_len]
 ·intro i h1 h2
  have hi : i < 32 := by simpa [leB_len] using h2
  rw [leB_get, List.getElem_set]
  by_cases h : 31 = i
  ·subst h
   rw [if_pos rfl, h31]
   apply UInt8.toNat_inj.1
   have e1 : (x + 57896044618658097711785492504343953926634992332820282019728792003956564819968) / 2 ^ (8 * 31) = x / 2 ^ 248 + 128 := by simp only [Nat.reduceMul, Nat.reducePow]; omega
   rw [e1]
   generalize x / 2 ^ 248 = y at *
   have h4 := Nat.shiftLeft_add_eq_or_of_lt (show y < 2 ^ 7 by omega) 1
   rw [show (1 : Nat) <<< 7 = 128 from rfl] at h4
   simp
   rw [Nat.mod_eq_of_lt (show y < 256 by omega), Nat.mod_eq_of_lt (show y + 128 < 256 by omega), Nat.or_comm]
   omega
  ·rw [if_neg h, leB_get, ← ofNat_mod, ← ofNat_mod (_ / _)]
   congr 1
   have hi' : i < 31 := by omega
   have : i = 0 ∨ i = 1 ∨ i = 2 ∨ i = 3 ∨ i = 4 ∨ i = 5 ∨ i = 6 ∨ i = 7 ∨ i = 8 ∨ i = 9 ∨ i = 10 ∨ i = 11 ∨ i = 12 ∨ i = 13 ∨ i = 14 ∨ i = 15 ∨ i = 16 ∨ i = 17 ∨ i = 18 ∨ i = 19 ∨ i = 20 ∨ i = 21 ∨ i = 22 ∨ i = 23 ∨ i = 24 ∨ i = 25 ∨ i = 26 ∨ i = 27 ∨ i = 28 ∨ i = 29 ∨ i = 30 := by omega
   rcases this with rfl | rfl | rfl | rfl | rfl | rfl | rfl | rfl | rfl | rfl | rfl | rfl | rfl | rfl | rfl | rfl | rfl | rfl | rfl | rfl | rfl | rfl | rfl | rfl | rfl | rfl | rfl | rfl | rfl | rfl | rfl <;> simp only [Nat.reduceMul, Nat.reducePow] <;> omega
theorem T255 : 2 ^ 255 = 57896044618658097711785492504343953926634992332820282019728792003956564819968 := by decide +kernel
theorem enc_odd {P : EP} (h : P.x.val % 2 = 1) : (leB 32 P.y.val).set 31 ((leB 32 P.y.val).getD 31 0 ||| 128) = encP P := by
 rw [hi_bit P.y.isLt]
 unfold encP
 rw [h, Nat.mul_one, T255]
theorem enc_even {P : EP} (h : ¬ P.x.val % 2 = 1) : leB 32 P.y.val = encP P := by
 unfold encP
 rw [show P.x.val % 2 = 0 by omega, Nat.mul_zero, Nat.add_zero]
theorem clr_byte : ∀ c : Nat, c < 256 → (UInt8.ofNat c &&& 127).toNat = c % 128 := by decide +kernel
theorem clr_byte2 : ∀ c : Nat, c < 256 → bits BinOp.andNot IntKind.u8 (c : Int) 128 = ((UInt8.ofNat c &&& 127).toNat : Nat) := by decide +kernel
theorem clr_byte3 : ∀ c : Nat, c < 256 → bits BinOp.and IntKind.u8 (c : Int) 127 = ((UInt8.ofNat c &&& 127).toNat : Nat) := by decide +kernel
theorem odd_byte : ∀ c : Nat, c < 256 → (bits BinOp.and IntKind.u8 (c : Int) 128 != 0) = (c / 128 % 2 == 1) := by decide +kernel
theorem odd_byte2 : ∀ c : Nat, c < 256 → ((c : Int) / 128 == 1) = (c / 128 % 2 == 1) := by decide +kernel
/-- The bytes with the highest bit cleared. -/
def clr (b : List UInt8) : List UInt8 := b.set 31 (b.getD 31 0 &&& 127)
theorem clr_len (b : List UInt8) : (clr b).length = b.length := by simp [clr]
theorem leN_last {b : List UInt8} (h : b.length = 32) : leN b = leN (b.take 31) + 256 ^ 31 * (b.getD 31 0).toNat := by
 have e := leN_take b 31 (by omega)
 rw [List.take_of_length_le (by omega)] at e
 rw [e, Nat.mul_comm]
 congr 3
 rw [List.getD_eq_getElem?_getD, List.getElem?_eq_getElem (by omega)]
 rfl
theorem p31 : (256 : Nat) ^ 31 * 128 = 2 ^ 255 := by decide +kernel
theorem leN_clr {b : List UInt8} (h : b.length = 32) : leN (clr b) = lowN b := by
 have e := leN_last h
 have e2 := leN_last (b := clr b) (by rw [clr_len, h])
 have e3 : (clr b).take 31 = b.take 31 := by unfold clr; rw [List.take_set_of_le (by omega)]
 have e4 : (clr b).getD 31 0 = b.getD 31 0 &&& 127 := by unfold clr; rw [List.getD_eq_getElem?_getD, List.getElem?_set_self (by omega)]; rfl
 rw [e3, e4] at e2
 have h5 := clr_byte (b.getD 31 0).toNat (b.getD 31 0).toNat_lt
 rw [UInt8.ofNat_toNat] at h5
 rw [h5] at e2
 have h6 := leN_take_lt b 31
 unfold lowN
 rw [e2, e, ← p31]
 generalize (b.getD 31 0).toNat = c at *
 generalize leN (b.take 31) = r at *
 generalize 256 ^ 31 = T at *
 clear e e2 e3 e4 h5
 have hc := Nat.div_add_mod c 128
 have hm : c % 128 < 128 := Nat.mod_lt _ (by omega)
 generalize c / 128 = q at *
 generalize c % 128 = m at *
 subst hc
 have : r + T * (128 * q + m) = (r + T * m) + T * 128 * q := by rw [Nat.mul_add, Nat.mul_assoc]; omega
 rw [this, Nat.add_mul_mod_self_left, Nat.mod_eq_of_lt]
 have : T * m ≤ T * 127 := Nat.mul_le_mul_left _ (by omega)
 omega
theorem sgn_byte {b : List UInt8} (h : b.length = 32) : sgn b = ((b.getD 31 0).toNat / 128 % 2 == 1) := by
 have e := leN_last h
 have h6 := leN_take_lt b 31
 unfold sgn
 rw [e, ← p31, ← Nat.div_div_eq_div_mul]
 generalize leN (b.take 31) = r at *
 generalize (b.getD 31 0).toNat = c at *
 have : (r + 256 ^ 31 * c) / 256 ^ 31 = c := by rw [Nat.add_mul_div_left _ _ (Nat.pos_of_ne_zero (by decide +kernel)), Nat.div_eq_of_lt h6, Nat.zero_add]
 rw [this]
def decV (l : List UInt8) : EP := (decP l).getD Cp.zero
def decC (l : List UInt8) : Int := if (decP l).isSome then 0 else 12
theorem feOk_clr {b : List UInt8} (h : b.length = 32) : feOk (clr b) = decide (lowN b < Pq) := by
 unfold feOk
 rw [clr_len, h, leN_clr h]; simp
theorem stC_clr {b : List UInt8} (h : b.length = 32) (h2 : lowN b < Pq) : stC (clr b) = 0 := by unfold stC; rw [feOk_clr h, if_pos (by simpa using h2)]
theorem stC_no {b : List UInt8} (h : b.length = 32) (h2 : ¬ lowN b < Pq) : stC (clr b) = 2 := by unfold stC; rw [feOk_clr h, if_neg (by simpa using h2)]
theorem stV_clr {b : List UInt8} (h : b.length = 32) (h2 : lowN b < Pq) : stV (clr b) = fn (lowN b) := by
 have hok : feOk (clr b) = true := by rw [feOk_clr h]; simpa using h2
 unfold stV
 rw [if_pos hok]
 apply F.ext'
 rw [feF_ok hok, leN_clr h]
 exact (Nat.mod_eq_of_lt h2).symm
theorem dec_len {b : List UInt8} (h : b.length ≠ 32) : decV b = Cp.zero ∧ decC b = 12 := by
 have : decP b = none := by unfold decP; rw [if_neg (fun k => h k.1)]
 unfold decV decC; rw [this]; exact ⟨rfl, rfl⟩
theorem dec_big {b : List UInt8} (h : ¬ lowN b < Pq) : decV b = Cp.zero ∧ decC b = 12 := by
 have : decP b = none := by unfold decP; rw [if_neg (fun k => h k.2)]
 unfold decV decC; rw [this]; exact ⟨rfl, rfl⟩
theorem dec_root {b : List UInt8} {y : F} (h1 : b.length = 32) (h2 : lowN b < Pq) (hy : fn (lowN b) = y) (hr : ¬ rootC (xx y) = 0) : decV b = Cp.zero ∧ decC b = 12 := by
 subst hy
 have : decP b = none := by unfold decP; rw [if_pos ⟨h1, h2⟩, dif_neg hr]
 unfold decV decC; rw [this]; exact ⟨rfl, rfl⟩
theorem dec_sgn {b : List UInt8} {y : F} (h1 : b.length = 32) (h2 : lowN b < Pq) (hy : fn (lowN b) = y) (hr : rootC (xx y) = 0) (hs : sgn b = true) (hx : rootV (xx y) = 0) : decV b = Cp.zero ∧ decC b = 12 := by
 subst hy
 have : decP b = none := by unfold decP; rw [if_pos ⟨h1, h2⟩, dif_pos hr, if_pos ⟨hs, hx⟩]
 unfold decV decC; rw [this]; exact ⟨rfl, rfl⟩
theorem dec_yes {b : List UInt8} {y : F} {o : Bool} (h1 : b.length = 32) (h2 : lowN b < Pq) (hy : fn (lowN b) = y) (hr : rootC (xx y) = 0) (hs : sgn b = o) (hx : ¬ (o = true ∧ rootV (xx y) = 0)) :
  decC b = 0 ∧ (decV b).x = (if o then -rootV (xx y) else rootV (xx y)) ∧ (decV b).y = y := by
 have := decP_some h1 h2 hy hs hr hx
 unfold decV decC
 rw [this]
 exact ⟨rfl, rfl, rfl⟩
end Go.Proofs.YtielgpefoameiaaGreat
namespace Go.Proofs.YtielgpefoameiaaGreat
open Go Go.RowKit
theorem Prep.xv {P : EP} {X Y Z : F} (h : Prep P X Y Z) : X * finv Z = P.x := by
 obtain ⟨hz, rfl, rfl⟩ := h
 have := finv_mul hz
 generalize finv Z = u at *
 generalize P.x = x
 clear hz
 grind
theorem Prep.yv {P : EP} {X Y Z : F} (h : Prep P X Y Z) : Y * finv Z = P.y := by
 obtain ⟨hz, rfl, rfl⟩ := h
 have := finv_mul hz
 generalize finv Z = u at *
 generalize P.y = x
 clear hz
 grind
theorem set31 {LB : List UInt8} {r : List Value} {d : UInt8} (h : LB.length = 32) : (LB.map bV ++ r).set 31 (bV d) = (LB.set 31 d).map bV ++ r := by
 rw [List.set_append_left _ _ (by simp [h]), List.map_set]
theorem at31 {W : World} {g E : Nat} {LB : List UInt8} {r : List Value} (h : LB.length = 32) (hB : Blk W g (LB.map bV ++ r) E) : W.cell? ⟨g, 31, none⟩ = some (.int .u8 ((LB.getD 31 0).toNat : Int)) := by
 rw [hB.cell, List.getElem?_append_left (by simp [h]), List.getElem?_map, List.getElem?_eq_getElem (by omega), List.getD_eq_getElem?_getD, List.getElem?_eq_getElem (by omega)]
 rfl
theorem or128 (c d : UInt8) (h : c ||| 128 = d) : bits BinOp.or IntKind.u8 (c.toNat : Int) 128 = (d.toNat : Int) := by
 rw [← h, show (128 : Int) = ((128 : UInt8).toNat : Int) from rfl, u8_or_nat _ _ c.toNat_lt (by decide)]; simp
set_option maxRecDepth 100000 in
set_option maxHeartbeats 4000000 in
theorem enc_o {v0 : Value} {P : EP} (hp : P.x.val % 2 = 1) (h0 : IsFs rP v0 [P]) (w : World) :
  Calls Tryz.prog 24 #[v0] w fun e w' => ∃ g n cap r, e = .returned (.slice (some ⟨g, 0, none⟩) n cap) ∧ w.heap.size ≤ g ∧ Blk w' g ((encP P).map bV ++ r) 5 ∧ (encP P).length = n ∧ n ≤ cap ∧ cap ≤ maxLen ∧ Below w.heap.size w w' := by
 have HP := Lib.hid hp; clear hp
 go_enter Tryz.func24, Tryz.ntmps24
 have hbel : Below w.heap.size w w := Below.refl _ _
 have hbel0 := hbel
 go_upto_region 0 with fail
 refine rgT [(1, 0), (0, 1)] [.box rP [P], .oth (fun v => v = .slice none 0 0)] ?_ ?_
 ·intro hs
  refine ⟨?_, ?_, trivial⟩
  ·exact step_box hs Wn rfl rfl (gives_c h0 (fun _ => rfl))
  ·exact mvK hs fun _ => rfl
 intro L0 u0 W0 hall hJ hG
 obtain ⟨q1, e1, ⟨hq1, _⟩, ht1, hm1⟩ := oB 20 rP [P] hG 0
 have hq1 : w.heap.size ≤ q1 := by have := hbel0.size; omega
 have E1 := Lib.hid e1; clear e1
 have hb := hJ.all rfl
 have hbel := Below.call hbel hb
 have HC2 := oC (.slice none 0 0) hG 1
 have hbel0 := hbel
 clear hJ hG hall hb
 go_upto_region 1 with fail
 refine rgT [(5, 0), (0, 1)] [.val rP [P], .val rPr [P], .sto q1 rPr [P]] ?_ ?_
 ·intro hs
  refine ⟨?_, ?_, ?_, trivial⟩
  ·exact step_load q1 0 hs Wn rfl rfl tyP (fun _ => E1.out) hm1.lt hm1 Na
  ·refine step_call hs Wn rfl fun L u W hJ hG hL hdep K hK => ?_
   have a0 := (vE rP [P] hG hdep 0)
   go_simp
   go_at_call 58
   (with_reducible refine (cReady a0 _).mono ?_); rintro e w1 ⟨r, rfl, hr, hb⟩
   exact hK.out _ _ hr hb
  ·refine step_storeO q1 20 hs Wn rfl rfl (by kernel_rfl) (fun k hk => ?_) (fun _ => E1.out) (there_lt ht1 (by omega)) ht1 (gO 1) tyPr rfl
   rcases k with _ | _ | _ | k
   all_goals first | (exact absurd rfl hk) | (intro e; cases e; done)
 intro L1 u1 W1 hall hJ hG
 have hb := hJ.beN hbel
 have hbel := hbel.trans hb
 obtain ⟨_, hs1_2t, hs1_2⟩ := oT 20 rPr [P] hG 2
 have hbel0 := hbel
 clear hJ hG hall hb
 obtain ⟨pax, pay, paz, pat, hmpa, hppa⟩ := of_hasPr hs1_2
 go_upto_region 2 with fail
 refine rgT [(3, 3), (3, 0), (0, 1), (0, 2)] [.ptr q1 10, .val rE [paz], .val rE [finv paz], .new 5, .st 3 rE [finv paz]] ?_ ?_
 ·intro hs
  refine ⟨?_, ?_, ?_, ?_, ?_, trivial⟩
  ·exact step_field hs Wn rfl rfl (fun _ => E1.out) (field_P2 _)
  ·exact step_loadF 0 q1 10 hs Wn rfl rfl tyE (fun _ => rfl) rfl (by kernel_rfl) hmpa.lt (hmpa.fld 2 1) Na
  ·refine step_call hs Wn rfl fun L u W hJ hG hL hdep K hK => ?_
   have a0 := (vE rE [paz] hG hdep 1)
   go_simp
   go_at_call 62
   (with_reducible refine (cInv a0 _).mono ?_); rintro e w1 ⟨r, rfl, hr, hb⟩
   exact hK.out _ _ hr hb
  ·exact step_alloc hs Wn rfl rfl (by omega) rfl allocE
  ·exact step_store 3 hs (by kernel_rfl) Wn rfl rfl rfl (by kernel_rfl) (by kernel_rfl) (by kernel_rfl) (by kernel_rfl) (fun _ => rfl) (gO 2) tyE rfl
 intro L2 u2 W2 hall hJ hG
 obtain ⟨q3, e3, hq3, _, ht3⟩ := oN 5 hG 3
 have hm3 := oS rE [finv paz] hG 4 e3
 have HD3_q1 := Lib.hid (show q1 ≠ q3 by have := there_lt hs1_2t (by omega); omega)
 have hq3 : w.heap.size ≤ q3 := by have := hbel0.size; omega
 have E3 := Lib.hid e3; clear e3
 have hb := hJ.all rfl
 have hbel := Below.call hbel hb
 have hmpa := hmpa.later hb
 have hs1_2t := there_later hs1_2t hb
 have hbel0 := hbel
 clear hJ hG hall hb
 go_upto_region 3 with fail
 refine rgT [(4, 5), (5, 0), (0, 1), (0, 2), (0, 3), (0, 4)] [.ptr q1 5, .val rE [pay], .val rE [finv paz], .val rE [pay * (finv paz)], .rd (leB 32 (pay * (finv paz)).val), .rd (leB 32 (pay * (finv paz)).val)] ?_ ?_
 ·intro hs
  refine ⟨?_, ?_, ?_, ?_, ?_, ?_, trivial⟩
  ·exact step_field hs Wn rfl rfl (fun _ => E1.out) (field_P1 _)
  ·exact step_loadF 0 q1 5 hs Wn rfl rfl tyE (fun _ => rfl) rfl (by kernel_rfl) hmpa.lt (hmpa.fld 1 1) Na
  ·exact step_load q3 0 hs Wn rfl rfl tyE (fun _ => E3.out) hm3.lt hm3 Na
  ·refine step_call hs Wn rfl fun L u W hJ hG hL hdep K hK => ?_
   have a0 := (vE rE [pay] hG hdep 1)
   have a1 := (vE rE [finv paz] hG hdep 2)
   go_simp
   go_at_call 63
   (with_reducible refine (cMul a0 a1 _).mono ?_); rintro e w1 ⟨r, rfl, hr, hb⟩
   exact hK.out _ _ hr hb
  ·refine step_callB hs Wn rfl fun L u W hJ hG hL hdep K hK => ?_
   have a0 := (vE rE [pay * (finv paz)] hG hdep 3)
   go_simp
   go_at_call 64
   (with_reducible refine (cBytes a0 _).mono ?_); rintro e w1 ⟨g, n, cap, r, rfl, h1, h2, h3, h4, h5, hb⟩
   exact hK.out _ _ _ _ _ h1 h2 h3 h4 h5 hb
  ·exact step_moveB 4 hs Wn rfl (by first | exact .inl rfl | exact .inr rfl) rfl (by kernel_rfl) (fun _ => rfl)
 intro L3 u3 W3 hall hJ hG
 obtain ⟨gB5, nB5, cB5, rB5, eB5, hgB5, hB5, hlB5, hcB5, hmB5⟩ := (show ∃ g n cap r, u3 5 = .slice (some ⟨g, 0, none⟩) n cap ∧ W2.heap.size ≤ g ∧ Blk W3 g ((leB 32 (pay * (finv paz)).val).map bV ++ r) 5 ∧ (leB 32 (pay * (finv paz)).val).length = n ∧ n ≤ cap ∧ cap ≤ maxLen from hG 5 (by simp))
 have hgB5 : w.heap.size ≤ gB5 := by have := hbel0.size; omega
 have EB5 := Lib.hid eB5; clear eB5
 obtain rfl : nB5 = 32 := by have h : (((leB 32 (pay * (finv paz)).val).length : Nat) : Int) = 32 := (by rw [leB_len]; rfl); omega
 have HB5 := Lib.hid hB5; clear hB5
 have HE5_q1 := Lib.hid (show q1 ≠ gB5 by have := there_lt hs1_2t (by omega); omega)
 have HE5_q3 := Lib.hid (show q3 ≠ gB5 by have := there_lt ht3 (by omega); omega)
 have hb := hJ.all rfl
 have hbel := Below.call hbel hb
 have hmpa := hmpa.later hb
 have hm3 := hm3.later hb
 have hs1_2t := there_later hs1_2t hb
 have ht3 := there_later ht3 hb
 have hbel0 := hbel
 clear hJ hG hall hb
 go_upto_region 4 with fail
 refine rgT [(15, 0), (0, 1), (0, 2), (0, 3), (0, 4)] [.ptr q1 0, .val rE [pax], .val rE [finv paz], .val rE [pax * (finv paz)], .oth (fun v => v = .bool true)] ?_ ?_
 ·intro hs
  refine ⟨?_, ?_, ?_, ?_, ?_, trivial⟩
  ·exact step_field hs Wn rfl rfl (fun _ => E1.out) (field_P0 _)
  ·exact step_loadF 0 q1 0 hs Wn rfl rfl tyE (fun _ => rfl) rfl (by kernel_rfl) hmpa.lt (hmpa.fld 0 1) Na
  ·exact step_load q3 0 hs Wn rfl rfl tyE (fun _ => E3.out) hm3.lt hm3 Na
  ·refine step_call hs Wn rfl fun L u W hJ hG hL hdep K hK => ?_
   have a0 := (vE rE [pax] hG hdep 1)
   have a1 := (vE rE [finv paz] hG hdep 2)
   go_simp
   go_at_call 63
   (with_reducible refine (cMul a0 a1 _).mono ?_); rintro e w1 ⟨r, rfl, hr, hb⟩
   exact hK.out _ _ hr hb
  ·refine step_callO hs Wn rfl fun L u W hJ hG hL hdep K hK => ?_
   have a0 := (vE rE [pax * (finv paz)] hG hdep 3)
   go_simp
   go_at_call 65
   (with_reducible refine (cOdd (b := true) (by rw [hppa.p.xv]; exact decide_eq_true HP.out) a0 _).mono ?_); rintro e w1 ⟨rfl, hb⟩
   exact hK.out _ _ rfl hb
 intro L4 u4 W4 hall hJ hG
 have hb := hJ.all rfl
 have hbel := Below.call hbel hb
 have hmpa := hmpa.later hb
 have hm3 := hm3.later hb
 have hs1_2t := there_later hs1_2t hb
 have ht3 := there_later ht3 hb
 have HB5 := Lib.hid (HB5.out.below' hb)
 have HC19 := oC (.bool true) hG 4
 have hbel0 := hbel
 clear hJ hG hall hb
 have hx : u4 4 = .bool true := HC19.out
 go_wp2_with fail
 rw [hx]
 clear hx
 have HLB : Hid (leB 32 (pay * finv paz).val = leB 32 P.y.val) := Lib.hid (by rw [hppa.p.yv])
 generalize leB 32 (pay * finv paz).val = LB at *
 have HLL : Hid (LB.length = 32) := Lib.hid (by rw [HLB.out, leB_len])
 have hcell := at31 HLL.out HB5.out
 have HCF : Hid (W4.frozen? ⟨gB5, 31, none⟩ = false) := Lib.hid (HB5.out.frozen 31)
 generalize hcd : LB.getD 31 0 = c at *
 generalize hdd : c ||| 128 = d at *
 have HCC := Lib.hid hcell; have HCD := Lib.hid hcd; have HDD := Lib.hid hdd
 clear hcell hcd hdd
 go_upto_region 5 with fail
 refine rgT [(20, 0), (0, 1), (0, 2), (0, 3), (0, 4)] [.oth (fun v => v = .slice (some ⟨gB5, 0, none⟩) 32 cB5), .oth (fun v => v = .pointer (some ⟨gB5, 31, none⟩)), .oth (fun v => v = .int .u8 (c.toNat : Int)), .oth (fun v => v = .int .u8 (d.toNat : Int)), .oth (fun v => v = .pointer (some ⟨gB5, 31, none⟩)), .cst gB5 31 (.int .u8 (d.toNat : Int))] ?_ ?_
 ·intro hs
  refine ⟨?_, ?_, ?_, ?_, ?_, ?_, trivial⟩
  ·exact mvK hs fun _ => EB5.out
  ·refine step_pureO hs Wn rfl fun L u W hG hdep => ⟨_, ?_, rfl⟩
   have e0 := (oE (.slice (some ⟨gB5, 0, none⟩) 32 cB5) hG hdep 0)
   go_simp
  ·exact step_cell gB5 31 hs Wn rfl rfl (fun _ h => load_u8 h) (fun L u W hG hdep => (oE (.pointer (some ⟨gB5, 31, none⟩)) hG hdep 1)) HCC.out Na
  ·refine step_pureO hs Wn rfl fun L u W hG hdep => ⟨_, ?_, rfl⟩
   have e0 := (oE (.int .u8 (c.toNat : Int)) hG hdep 2)
   have e9 := or128 c d HDD.out
   go_simp
  ·refine step_pureO hs Wn rfl fun L u W hG hdep => ⟨_, ?_, rfl⟩
   have e0 := (oE (.slice (some ⟨gB5, 0, none⟩) 32 cB5) hG hdep 0)
   go_simp
  ·refine step_cst (old := .int .u8 (c.toNat : Int)) gB5 31 hs Wn rfl rfl (by kernel_rfl) (fun k hk => ?_) (fun _ h1 h2 => store_u8 h1 h2) (fun L u W hG hdep => (oE (.pointer (some ⟨gB5, 31, none⟩)) hG hdep 4)) (fun L u W hG hdep => (oE (.int .u8 (d.toNat : Int)) hG hdep 3)) HCC.out HCF.out
   rcases k with _ | _ | _ | _ | _ | _ | k
   all_goals first | (exact absurd rfl hk) | (intro e; cases e; done)
 intro L5 u5 W5 hall hJ hG
 have hb := hJ.beN hbel
 have hbel := hbel.trans hb
 have hmpa := kC hmpa hJ HE5_q1.out
 have hm3 := kC hm3 hJ HE5_q3.out
 have hs1_2t := tC hs1_2t hJ HE5_q1.out
 have ht3 := tC ht3 hJ HE5_q3.out
 have HB5 := Lib.hid (blk_keep (HB5.out.set 31 (.int .u8 (d.toNat : Int))) (show _ ∧ W5.heap[gB5]? = (W4.setCell ⟨gB5, 31, none⟩ (.int .u8 (d.toNat : Int))).heap[gB5]? from hG 5 (by simp)).2)
 have hbel0 := hbel
 clear hJ hG hall hb
 go_upto_region 6 with fail
 refine rgT [(2, 1), (22, 0)] [.oth (fun v => v = .slice (some ⟨gB5, 0, none⟩) 32 cB5), .oth (fun v => v = .slice (some ⟨gB5, 0, none⟩) 32 cB5)] ?_ ?_
 ·intro hs
  refine ⟨?_, ?_, trivial⟩
  ·exact mvK hs fun _ => EB5.out
  ·exact mvO 0 hs
 intro L6 u6 W6 hall hJ hG
 have hb := hJ.all rfl
 have hbel := Below.call hbel hb
 have HB5 := Lib.hid (HB5.out.below' hb)
 have HC2 := oC (.slice (some ⟨gB5, 0, none⟩) 32 cB5) hG 1
 have hbel0 := hbel
 clear hJ hG hall hb
 rw [HC2.out]
 go_wp2
 go_ret
 exact ⟨gB5, 32, cB5, rB5, rfl, hgB5, by rw [← enc_odd HP.out, ← HLB.out, HCD.out, HDD.out, ← set31 HLL.out]; exact HB5.out, encP_len _, hcB5, hmB5, hbel⟩
set_option maxRecDepth 100000 in
set_option maxHeartbeats 4000000 in
theorem enc_e {v0 : Value} {P : EP} (hp : ¬ P.x.val % 2 = 1) (h0 : IsFs rP v0 [P]) (w : World) :
  Calls Tryz.prog 24 #[v0] w fun e w' => ∃ g n cap r, e = .returned (.slice (some ⟨g, 0, none⟩) n cap) ∧ w.heap.size ≤ g ∧ Blk w' g ((encP P).map bV ++ r) 5 ∧ (encP P).length = n ∧ n ≤ cap ∧ cap ≤ maxLen ∧ Below w.heap.size w w' := by
 have HP := Lib.hid hp; clear hp
 go_enter Tryz.func24, Tryz.ntmps24
 have hbel : Below w.heap.size w w := Below.refl _ _
 have hbel0 := hbel
 go_upto_region 0 with fail
 refine rgT [(1, 0), (0, 1)] [.box rP [P], .oth (fun v => v = .slice none 0 0)] ?_ ?_
 ·intro hs
  refine ⟨?_, ?_, trivial⟩
  ·exact step_box hs Wn rfl rfl (gives_c h0 (fun _ => rfl))
  ·exact mvK hs fun _ => rfl
 intro L0 u0 W0 hall hJ hG
 obtain ⟨q1, e1, ⟨hq1, _⟩, ht1, hm1⟩ := oB 20 rP [P] hG 0
 have hq1 : w.heap.size ≤ q1 := by have := hbel0.size; omega
 have E1 := Lib.hid e1; clear e1
 have hb := hJ.all rfl
 have hbel := Below.call hbel hb
 have HC2 := oC (.slice none 0 0) hG 1
 have hbel0 := hbel
 clear hJ hG hall hb
 go_upto_region 1 with fail
 refine rgT [(5, 0), (0, 1)] [.val rP [P], .val rPr [P], .sto q1 rPr [P]] ?_ ?_
 ·intro hs
  refine ⟨?_, ?_, ?_, trivial⟩
  ·exact step_load q1 0 hs Wn rfl rfl tyP (fun _ => E1.out) hm1.lt hm1 Na
  ·refine step_call hs Wn rfl fun L u W hJ hG hL hdep K hK => ?_
   have a0 := (vE rP [P] hG hdep 0)
   go_simp
   go_at_call 58
   (with_reducible refine (cReady a0 _).mono ?_); rintro e w1 ⟨r, rfl, hr, hb⟩
   exact hK.out _ _ hr hb
  ·refine step_storeO q1 20 hs Wn rfl rfl (by kernel_rfl) (fun k hk => ?_) (fun _ => E1.out) (there_lt ht1 (by omega)) ht1 (gO 1) tyPr rfl
   rcases k with _ | _ | _ | k
   all_goals first | (exact absurd rfl hk) | (intro e; cases e; done)
 intro L1 u1 W1 hall hJ hG
 have hb := hJ.beN hbel
 have hbel := hbel.trans hb
 obtain ⟨_, hs1_2t, hs1_2⟩ := oT 20 rPr [P] hG 2
 have hbel0 := hbel
 clear hJ hG hall hb
 obtain ⟨pax, pay, paz, pat, hmpa, hppa⟩ := of_hasPr hs1_2
 go_upto_region 2 with fail
 refine rgT [(3, 3), (3, 0), (0, 1), (0, 2)] [.ptr q1 10, .val rE [paz], .val rE [finv paz], .new 5, .st 3 rE [finv paz]] ?_ ?_
 ·intro hs
  refine ⟨?_, ?_, ?_, ?_, ?_, trivial⟩
  ·exact step_field hs Wn rfl rfl (fun _ => E1.out) (field_P2 _)
  ·exact step_loadF 0 q1 10 hs Wn rfl rfl tyE (fun _ => rfl) rfl (by kernel_rfl) hmpa.lt (hmpa.fld 2 1) Na
  ·refine step_call hs Wn rfl fun L u W hJ hG hL hdep K hK => ?_
   have a0 := (vE rE [paz] hG hdep 1)
   go_simp
   go_at_call 62
   (with_reducible refine (cInv a0 _).mono ?_); rintro e w1 ⟨r, rfl, hr, hb⟩
   exact hK.out _ _ hr hb
  ·exact step_alloc hs Wn rfl rfl (by omega) rfl allocE
  ·exact step_store 3 hs (by kernel_rfl) Wn rfl rfl rfl (by kernel_rfl) (by kernel_rfl) (by kernel_rfl) (by kernel_rfl) (fun _ => rfl) (gO 2) tyE rfl
 intro L2 u2 W2 hall hJ hG
 obtain ⟨q3, e3, hq3, _, ht3⟩ := oN 5 hG 3
 have hm3 := oS rE [finv paz] hG 4 e3
 have HD3_q1 := Lib.hid (show q1 ≠ q3 by have := there_lt hs1_2t (by omega); omega)
 have hq3 : w.heap.size ≤ q3 := by have := hbel0.size; omega
 have E3 := Lib.hid e3; clear e3
 have hb := hJ.all rfl
 have hbel := Below.call hbel hb
 have hmpa := hmpa.later hb
 have hs1_2t := there_later hs1_2t hb
 have hbel0 := hbel
 clear hJ hG hall hb
 go_upto_region 3 with fail
 refine rgT [(4, 5), (5, 0), (0, 1), (0, 2), (0, 3), (0, 4)] [.ptr q1 5, .val rE [pay], .val rE [finv paz], .val rE [pay * (finv paz)], .rd (leB 32 (pay * (finv paz)).val), .rd (leB 32 (pay * (finv paz)).val)] ?_ ?_
 ·intro hs
  refine ⟨?_, ?_, ?_, ?_, ?_, ?_, trivial⟩
  ·exact step_field hs Wn rfl rfl (fun _ => E1.out) (field_P1 _)
  ·exact step_loadF 0 q1 5 hs Wn rfl rfl tyE (fun _ => rfl) rfl (by kernel_rfl) hmpa.lt (hmpa.fld 1 1) Na
  ·exact step_load q3 0 hs Wn rfl rfl tyE (fun _ => E3.out) hm3.lt hm3 Na
  ·refine step_call hs Wn rfl fun L u W hJ hG hL hdep K hK => ?_
   have a0 := (vE rE [pay] hG hdep 1)
   have a1 := (vE rE [finv paz] hG hdep 2)
   go_simp
   go_at_call 63
   (with_reducible refine (cMul a0 a1 _).mono ?_); rintro e w1 ⟨r, rfl, hr, hb⟩
   exact hK.out _ _ hr hb
  ·refine step_callB hs Wn rfl fun L u W hJ hG hL hdep K hK => ?_
   have a0 := (vE rE [pay * (finv paz)] hG hdep 3)
   go_simp
   go_at_call 64
   (with_reducible refine (cBytes a0 _).mono ?_); rintro e w1 ⟨g, n, cap, r, rfl, h1, h2, h3, h4, h5, hb⟩
   exact hK.out _ _ _ _ _ h1 h2 h3 h4 h5 hb
  ·exact step_moveB 4 hs Wn rfl (by first | exact .inl rfl | exact .inr rfl) rfl (by kernel_rfl) (fun _ => rfl)
 intro L3 u3 W3 hall hJ hG
 obtain ⟨gB5, nB5, cB5, rB5, eB5, hgB5, hB5, hlB5, hcB5, hmB5⟩ := (show ∃ g n cap r, u3 5 = .slice (some ⟨g, 0, none⟩) n cap ∧ W2.heap.size ≤ g ∧ Blk W3 g ((leB 32 (pay * (finv paz)).val).map bV ++ r) 5 ∧ (leB 32 (pay * (finv paz)).val).length = n ∧ n ≤ cap ∧ cap ≤ maxLen from hG 5 (by simp))
 have hgB5 : w.heap.size ≤ gB5 := by have := hbel0.size; omega
 have EB5 := Lib.hid eB5; clear eB5
 obtain rfl : nB5 = 32 := by have h : (((leB 32 (pay * (finv paz)).val).length : Nat) : Int) = 32 := (by rw [leB_len]; rfl); omega
 have HB5 := Lib.hid hB5; clear hB5
 have HE5_q1 := Lib.hid (show q1 ≠ gB5 by have := there_lt hs1_2t (by omega); omega)
 have HE5_q3 := Lib.hid (show q3 ≠ gB5 by have := there_lt ht3 (by omega); omega)
 have hb := hJ.all rfl
 have hbel := Below.call hbel hb
 have hmpa := hmpa.later hb
 have hm3 := hm3.later hb
 have hbel0 := hbel
 clear hJ hG hall hb
 go_upto_region 4 with fail
 refine rgT [(15, 0), (0, 1), (0, 2), (0, 3), (0, 4)] [.ptr q1 0, .val rE [pax], .val rE [finv paz], .val rE [pax * (finv paz)], .oth (fun v => v = .bool false)] ?_ ?_
 ·intro hs
  refine ⟨?_, ?_, ?_, ?_, ?_, trivial⟩
  ·exact step_field hs Wn rfl rfl (fun _ => E1.out) (field_P0 _)
  ·exact step_loadF 0 q1 0 hs Wn rfl rfl tyE (fun _ => rfl) rfl (by kernel_rfl) hmpa.lt (hmpa.fld 0 1) Na
  ·exact step_load q3 0 hs Wn rfl rfl tyE (fun _ => E3.out) hm3.lt hm3 Na
  ·refine step_call hs Wn rfl fun L u W hJ hG hL hdep K hK => ?_
   have a0 := (vE rE [pax] hG hdep 1)
   have a1 := (vE rE [finv paz] hG hdep 2)
   go_simp
   go_at_call 63
   (with_reducible refine (cMul a0 a1 _).mono ?_); rintro e w1 ⟨r, rfl, hr, hb⟩
   exact hK.out _ _ hr hb
  ·refine step_callO hs Wn rfl fun L u W hJ hG hL hdep K hK => ?_
   have a0 := (vE rE [pax * (finv paz)] hG hdep 3)
   go_simp
   go_at_call 65
   (with_reducible refine (cOdd (b := false) (by rw [hppa.p.xv]; exact decide_eq_false HP.out) a0 _).mono ?_); rintro e w1 ⟨rfl, hb⟩
   exact hK.out _ _ rfl hb
 intro L4 u4 W4 hall hJ hG
 have hb := hJ.all rfl
 have hbel := Below.call hbel hb
 have HB5 := Lib.hid (HB5.out.below' hb)
 have HC19 := oC (.bool false) hG 4
 have hbel0 := hbel
 clear hJ hG hall hb
 have hx : u4 4 = .bool false := HC19.out
 go_wp2_with fail
 rw [hx]
 clear hx
 have HLB : Hid (leB 32 (pay * finv paz).val = leB 32 P.y.val) := Lib.hid (by rw [hppa.p.yv])
 generalize leB 32 (pay * finv paz).val = LB at *
 have HLL : Hid (LB.length = 32) := Lib.hid (by rw [HLB.out, leB_len])
 go_upto_region 6 with fail
 refine rgT [(2, 1), (22, 0)] [.oth (fun v => v = .slice (some ⟨gB5, 0, none⟩) 32 cB5), .oth (fun v => v = .slice (some ⟨gB5, 0, none⟩) 32 cB5)] ?_ ?_
 ·intro hs
  refine ⟨?_, ?_, trivial⟩
  ·exact mvK hs fun _ => EB5.out
  ·exact mvO 0 hs
 intro L6 u6 W6 hall hJ hG
 have hb := hJ.all rfl
 have hbel := Below.call hbel hb
 have HB5 := Lib.hid (HB5.out.below' hb)
 have HC2 := oC (.slice (some ⟨gB5, 0, none⟩) 32 cB5) hG 1
 have hbel0 := hbel
 clear hJ hG hall hb
 rw [HC2.out]
 go_wp2
 go_ret
 exact ⟨gB5, 32, cB5, rB5, rfl, hgB5, by rw [← enc_even HP.out, ← HLB.out]; exact HB5.out, encP_len _, hcB5, hmB5, hbel⟩
theorem cEncode {v0 : Value} {P : EP} (h0 : IsFs rP v0 [P]) (w : World) :
  Calls Tryz.prog 24 #[v0] w fun e w' => ∃ g n cap r, e = .returned (.slice (some ⟨g, 0, none⟩) n cap) ∧ w.heap.size ≤ g ∧ Blk w' g ((encP P).map bV ++ r) 5 ∧ (encP P).length = n ∧ n ≤ cap ∧ cap ≤ maxLen ∧ Below w.heap.size w w' := by
 by_cases hp : P.x.val % 2 = 1
 ·exact (enc_o hp h0 w).mono fun _ _ ⟨g, n, cap, r, h1, h2, h3, h4, h5, h6, hb⟩ => ⟨g, n, cap, r, h1, h2, h3, h4, h5, h6, hb⟩
 ·exact (enc_e hp h0 w).mono fun _ _ ⟨g, n, cap, r, h1, h2, h3, h4, h5, h6, hb⟩ => ⟨g, n, cap, r, h1, h2, h3, h4, h5, h6, hb⟩
end Go.Proofs.YtielgpefoameiaaGreat
namespace Go.Proofs.YtielgpefoameiaaGreat
open Go Go.RowKit
theorem xx_fs {v : Value} {y : F} (h : IsFs rE v [(y * y - fn 1) * finv (y * y * dE + fn 1)]) : IsFs rE v [xx y] := h
theorem cRootN {v : Value} {x X : F} {c : Int} (hX : rootV x = X) (hc : rootC x = c) (h : IsFs rE v [x]) (w : World) :
  Calls Tryz.prog 93 #[v] w fun e w' => ∃ r, e = .returned (.tuple #[r, .int .i64 c]) ∧ IsFs rE r [X] ∧ Below w.heap.size w w' := by subst hX hc; exact cRoot h w
theorem dec_pext {P : EP} {x y : F} (hx : P.x = x) (hy : P.y = y) : Pext P x y (fn 1) (x * y) := by subst hx hy; exact Pext.one P
theorem odd_bit {l : List UInt8} {c : UInt8} {o : Bool} (h : l.length = 32) (hc : l.getD 31 0 = c) (ho : sgn l = o) : (bits BinOp.and IntKind.u8 (c.toNat : Int) 128 != 0) = o := by
 rw [← ho, sgn_byte h, hc]
 exact odd_byte _ c.toNat_lt
theorem clr_bit {c d : UInt8} (h : c &&& 127 = d) : bits BinOp.andNot IntKind.u8 (c.toNat : Int) 128 = (d.toNat : Int) := by
 have := clr_byte2 c.toNat c.toNat_lt
 rw [UInt8.ofNat_toNat, h] at this
 exact this
theorem root_7 {x : F} (h : ¬ rootC x = 0) : rootC x = 7 := by
 unfold rootC at *
 by_cases e : cand x * cand x = x
 ·rw [if_pos e] at h; exact absurd rfl h
 ·rw [if_neg e]
set_option maxRecDepth 100000 in
set_option maxHeartbeats 4000000 in
theorem decode_len {a : Option Addr} {n cap : Nat} (w : World) (hn : n ≠ 32) :
  Calls Tryz.prog 41 #[.slice a n cap] w fun e w' => ∃ r, e = .returned (.tuple #[r, .int .i64 12]) ∧ IsFs rP r [Cp.zero] ∧ Below w.heap.size w w' := by
 have d1 : decide ((n : Int) = 32) = false := decide_eq_false (by omega)
 have HD : Hid (¬ ((n : Int) = 32)) := Lib.hid (by omega)
 clear hn
 go_enter Tryz.func41, Tryz.ntmps41
 have hbel : Below w.heap.size w w := Below.refl _ _
 have hbel0 := hbel
 go_upto_region 0 with fail
 refine rgT [(2, 0), (0, 1)] [.new 20, .oth (fun v => v = .int .i64 0)] ?_ ?_
 ·intro hs
  refine ⟨?_, ?_, trivial⟩
  ·exact step_alloc hs Wn rfl rfl (by omega) rfl allocP
  ·exact mvK hs fun _ => rfl
 intro L0 u0 W0 hall hJ hG
 obtain ⟨q2, e2, hq2, _, ht2⟩ := oN 20 hG 0
 have hq2 : w.heap.size ≤ q2 := by have := hbel0.size; omega
 have E2 := Lib.hid e2; clear e2
 have hb := hJ.all rfl
 have hbel := Below.call hbel hb
 have HC3 := oC (.int .i64 0) hG 1
 have hbel0 := hbel
 clear hJ hG hall hb
 go_upto_region 1 with fail
 refine rgT [(10, 0), (0, 1), (0, 2)] [.oth (fun v => v = .slice a n cap), .oth (fun v => v = .int .i64 (n : Nat)), .oth (fun v => v = .bool true)] ?_ ?_
 ·intro hs
  refine ⟨?_, ?_, ?_, trivial⟩
  ·exact mvK hs fun _ => rfl
  ·refine step_pureO hs Wn rfl fun L u W hG hdep => ⟨_, ?_, rfl⟩
   have e0 := (oE (.slice a n cap) hG hdep 0)
   go_simp
  ·refine step_pureO hs Wn rfl fun L u W hG hdep => ⟨_, ?_, rfl⟩
   have e0 := (oE (.int .i64 (n : Nat)) hG hdep 1)
   go_simp
   exact HD.out
 intro L1 u1 W1 hall hJ hG
 have hb := hJ.all rfl
 have hbel := Below.call hbel hb
 have ht2 := there_later ht2 hb
 have HC12 := oC (.bool true) hG 2
 have hbel0 := hbel
 clear hJ hG hall hb
 have hx : u1 2 = .bool true := HC12.out
 go_wp2_with fail
 rw [hx]
 clear hx
 go_upto_region 2 with fail
 refine rgT [(3, 2), (9, 0)] [.val rP [Cp.zero], .sto q2 rP [Cp.zero], .oth (fun v => v = .int .i64 12)] ?_ ?_
 ·intro hs
  refine ⟨?_, ?_, ?_, trivial⟩
  ·exact step_pure hs Wn rfl fun L u W hG hdep => run_build0 rfl (build_P0 W)
  ·refine step_storeO q2 20 hs Wn rfl rfl (by kernel_rfl) (fun k hk => ?_) (fun _ => E2.out) (there_lt ht2 (by omega)) ht2 (gO 0) tyP rfl
   rcases k with _ | _ | _ | k
   all_goals first | (exact absurd rfl hk) | (intro e; cases e; done)
  ·exact mvK hs fun _ => rfl
 intro L2 u2 W2 hall hJ hG
 have hb := hJ.beN hbel
 have hbel := hbel.trans hb
 obtain ⟨_, hs2_1t, hs2_1⟩ := oT 20 rP [Cp.zero] hG 1
 have HC3 := oC (.int .i64 12) hG 2
 have hbel0 := hbel
 clear hJ hG hall hb
 go_wp2
 exact ret_cell_slot (R := rP) Tryz.results41 (by exact E2.out) (by exact HC3.out) hs2_1 tyP rfl (fun r hr => ⟨r, rfl, hr, hbel⟩)
set_option maxRecDepth 100000 in
set_option maxHeartbeats 8000000 in
theorem decode_32 {bb q cap : Nat} {l : List UInt8} {o : Bool} (w : World) (hs : sgn l = o) (h : RdB w (some ⟨bb, q, none⟩) 32 cap l) :
  Calls Tryz.prog 41 #[.slice (some ⟨bb, q, none⟩) 32 cap] w fun e w' => ∃ r, e = .returned (.tuple #[r, .int .i64 (decC l)]) ∧ IsFs rP r [decV l] ∧ Below w.heap.size w w' := by
 have hl := h.hlen
 obtain ⟨b', q', hab, hc0⟩ := h.get 31 (by omega)
 obtain ⟨rfl, rfl⟩ : bb = b' ∧ q = q' := by simpa using hab
 clear hab
 obtain ⟨c, hc⟩ : ∃ c, c = l.getD 31 0 := ⟨_, rfl⟩
 have hc1 : w.cell? ⟨bb, q + 31, none⟩ = some (.int .u8 (c.toNat : Int)) := by
  rw [hc0, hc, List.getD_eq_getElem?_getD, List.getElem?_eq_getElem (by omega)]; rfl
 have HCL := Lib.hid hc1
 have HOB := Lib.hid (odd_bit hl hc.symm hs)
 obtain ⟨d, hd⟩ : ∃ d, c &&& 127 = d := ⟨_, rfl⟩
 have HDB := Lib.hid (clr_bit hd)
 have HK0 : Hid (l.set 31 d = clr l) := Lib.hid (by unfold clr; rw [← hc, hd])
 have HL := Lib.hid hl; have HS := Lib.hid hs; have HCC := Lib.hid hc
 clear hc0 hc1 hc hd hl hs
 go_enter Tryz.func41, Tryz.ntmps41
 have hbel : Below w.heap.size w w := Below.refl _ _
 have hbel0 := hbel
 go_upto_region 0 with fail
 refine rgT [(2, 0), (0, 1)] [.new 20, .oth (fun v => v = .int .i64 0)] ?_ ?_
 ·intro hs
  refine ⟨?_, ?_, trivial⟩
  ·exact step_alloc hs Wn rfl rfl (by omega) rfl allocP
  ·exact mvK hs fun _ => rfl
 intro L0 u0 W0 hall hJ hG
 obtain ⟨q2, e2, hq2, _, ht2⟩ := oN 20 hG 0
 have hq2 : w.heap.size ≤ q2 := by have := hbel0.size; omega
 have E2 := Lib.hid e2; clear e2
 have hb := hJ.all rfl
 have hbel := Below.call hbel hb
 have HC3 := oC (.int .i64 0) hG 1
 have hbel0 := hbel
 clear hJ hG hall hb
 go_upto_region 1 with fail
 refine rgT [(10, 0), (0, 1), (0, 2)] [.oth (fun v => v = .slice (some ⟨bb, q, none⟩) 32 cap), .oth (fun v => v = .int .i64 32), .oth (fun v => v = .bool false)] ?_ ?_
 ·intro hs
  refine ⟨?_, ?_, ?_, trivial⟩
  ·exact mvK hs fun _ => rfl
  ·refine step_pureO hs Wn rfl fun L u W hG hdep => ⟨_, ?_, rfl⟩
   have e0 := (oE (.slice (some ⟨bb, q, none⟩) 32 cap) hG hdep 0)
   go_simp
  ·refine step_pureO hs Wn rfl fun L u W hG hdep => ⟨_, ?_, rfl⟩
   have e0 := (oE (.int .i64 32) hG hdep 1)
   go_simp
   try simp [bne]
 intro L1 u1 W1 hall hJ hG
 have hb := hJ.all rfl
 have hbel := Below.call hbel hb
 have ht2 := there_later ht2 hb
 have HC12 := oC (.bool false) hG 2
 have hbel0 := hbel
 clear hJ hG hall hb
 have hx : u1 2 = .bool false := HC12.out
 go_wp2_with fail
 rw [hx]
 clear hx
 go_upto_region 3 with fail
 refine rgT [(4, 5), (9, 0), (0, 1), (0, 2), (0, 3), (0, 4)] [.oth (fun v => v = .slice (some ⟨bb, q, none⟩) 32 cap), .oth (fun v => v = .pointer (some ⟨bb, q + 31, none⟩)), .oth (fun v => v = .int .u8 (c.toNat : Int)), .oth (fun v => v = .int .u8 (bits BinOp.and IntKind.u8 (c.toNat : Int) 128)), .oth (fun v => v = .bool o), .oth (fun v => v = .bool o)] ?_ ?_
 ·intro hs
  refine ⟨?_, ?_, ?_, ?_, ?_, ?_, trivial⟩
  ·exact mvK hs fun _ => rfl
  ·refine step_pureO hs Wn rfl fun L u W hG hdep => ⟨_, ?_, rfl⟩
   have e0 := (oE (.slice (some ⟨bb, q, none⟩) 32 cap) hG hdep 0)
   go_simp
  ·exact step_cell bb (q + 31) hs Wn rfl rfl (fun _ h => load_u8 h) (fun L u W hG hdep => (oE (.pointer (some ⟨bb, q + 31, none⟩)) hG hdep 1)) (cell_keep HCL.out hbel) Na
  ·refine step_pureO hs Wn rfl fun L u W hG hdep => ⟨_, ?_, rfl⟩
   have e0 := (oE (.int .u8 (c.toNat : Int)) hG hdep 2)
   go_simp
  ·refine step_pureO hs Wn rfl fun L u W hG hdep => ⟨_, ?_, rfl⟩
   have e0 := (oE (.int .u8 (bits BinOp.and IntKind.u8 (c.toNat : Int) 128)) hG hdep 3)
   have e9 := HOB.out
   go_simp
   try exact e9
  ·exact mvO 4 hs
 intro L3 u3 W3 hall hJ hG
 have hb := hJ.all rfl
 have hbel := Below.call hbel hb
 have ht2 := there_later ht2 hb
 have HC18 := oC (.bool o) hG 4
 have HC4 := oC (.bool o) hG 5
 have hbel0 := hbel
 clear hJ hG hall hb
 go_upto_region 5 with (go_at_call 30; go_must (refine (clone_any _ (h.below hbel) (by omega) (by omega)).mono ?_; rintro e W4 ⟨gB, nB, cB, rB, rfl, hgB0, hB, hlB, hcB, hmB, hb⟩))
 rw [HL.out] at hlB
 subst hlB
 have hgB : w.heap.size ≤ gB := by have := hbel.size; omega
 have HE_q2 := Lib.hid (show q2 ≠ gB by have := there_lt ht2 (by omega); omega)
 have ht2 := there_later ht2 hb
 have hbel := Below.call hbel hb
 have hbel0 := hbel
 have HB := Lib.hid hB
 clear hB hb
 have hcell : W4.cell? ⟨gB, 31, none⟩ = some (.int .u8 (c.toNat : Int)) := by rw [HCC.out]; exact at31 HL.out HB.out
 have HCX := Lib.hid hcell; have HCF : Hid (W4.frozen? ⟨gB, 31, none⟩ = false) := Lib.hid (HB.out.frozen 31)
 clear hcell
 go_upto_region 5 with fail
 refine rgT [(21, 0), (0, 1), (0, 2), (0, 3), (0, 4)] [.oth (fun v => v = .slice (some ⟨gB, 0, none⟩) 32 cB), .oth (fun v => v = .pointer (some ⟨gB, 31, none⟩)), .oth (fun v => v = .int .u8 (c.toNat : Int)), .oth (fun v => v = .int .u8 (d.toNat : Int)), .oth (fun v => v = .pointer (some ⟨gB, 31, none⟩)), .cst gB 31 (.int .u8 (d.toNat : Int))] ?_ ?_
 ·intro hs
  refine ⟨?_, ?_, ?_, ?_, ?_, ?_, trivial⟩
  ·exact mvK hs fun _ => rfl
  ·refine step_pureO hs Wn rfl fun L u W hG hdep => ⟨_, ?_, rfl⟩
   have e0 := (oE (.slice (some ⟨gB, 0, none⟩) 32 cB) hG hdep 0)
   go_simp
  ·exact step_cell gB 31 hs Wn rfl rfl (fun _ h => load_u8 h) (fun L u W hG hdep => (oE (.pointer (some ⟨gB, 31, none⟩)) hG hdep 1)) HCX.out Na
  ·refine step_pureO hs Wn rfl fun L u W hG hdep => ⟨_, ?_, rfl⟩
   have e0 := (oE (.int .u8 (c.toNat : Int)) hG hdep 2)
   have e9 := HDB.out
   go_simp
  ·refine step_pureO hs Wn rfl fun L u W hG hdep => ⟨_, ?_, rfl⟩
   have e0 := (oE (.slice (some ⟨gB, 0, none⟩) 32 cB) hG hdep 0)
   go_simp
  ·refine step_cst (old := .int .u8 (c.toNat : Int)) gB 31 hs Wn rfl rfl (by kernel_rfl) (fun k hk => ?_) (fun _ h1 h2 => store_u8 h1 h2) (fun L u W hG hdep => (oE (.pointer (some ⟨gB, 31, none⟩)) hG hdep 4)) (fun L u W hG hdep => (oE (.int .u8 (d.toNat : Int)) hG hdep 3)) HCX.out HCF.out
   rcases k with _ | _ | _ | _ | _ | _ | k
   all_goals first | (exact absurd rfl hk) | (intro e; cases e; done)
 intro L5 u5 W5 hall hJ hG
 have hb := hJ.beN hbel
 have hbel := hbel.trans hb
 have ht2 := tC ht2 hJ HE_q2.out
 have HB := Lib.hid (blk_keep (HB.out.set 31 (.int .u8 (d.toNat : Int))) (show _ ∧ W5.heap[gB]? = (W4.setCell ⟨gB, 31, none⟩ (.int .u8 (d.toNat : Int))).heap[gB]? from hG 5 (by simp)).2)
 have hbel0 := hbel
 clear hJ hG hall hb
 have HKB : Hid (Blk W5 gB ((clr l).map bV ++ rB) 5) := Lib.hid (by rw [← HK0.out, ← set31 HL.out]; exact HB.out)
 clear HB HCX HCF HK0 HDB HOB HCL HCC
 have HKL : Hid ((clr l).length = 32) := Lib.hid (by rw [clr_len]; exact HL.out)
 by_cases hlow : lowN l < Pq
 rotate_left
 ·have HLW := Lib.hid hlow; clear hlow
  have HC2 := Lib.hid (stC_no HL.out HLW.out)
  generalize clr l = K at *
  go_upto_region 6 with fail
  refine rgT [(5, 5), (0, 7), (19, 2), (0, 0), (0, 1), (0, 3), (0, 4)] [.oth (fun v => v = .slice (some ⟨gB, 0, none⟩) 32 cB), .oth (fun v => IsTV rE v [stV K] (.int .i64 2)), .oth (fun v => IsTV rE v [stV K] (.int .i64 2)), .val rE [stV K], .oth (fun v => v = .int .i64 2), .new 5, .st 5 rE [stV K], .oth (fun v => v = .int .i64 2)] ?_ ?_
  ·intro hs
   refine ⟨?_, ?_, ?_, ?_, ?_, ?_, ?_, ?_, trivial⟩
   ·exact mvK hs fun _ => rfl
   ·refine step_callO hs Wn rfl fun L u W hJ hG hL hdep K hK => ?_
    have x0 := (oE (.slice (some ⟨gB, 0, none⟩) 32 cB) hG hdep 0)
    have hRB0 := (RdB.blk rB HKB.out HKL.out hcB hmB).below (hJ.all rfl)
    go_simp
    go_at_call 88
    (with_reducible refine (cStrict' rfl HC2.out hRB0).mono ?_); rintro e w1 ⟨r, rfl, hr, hb⟩
    have hk := hK.out _ _ ⟨r, rfl, hr⟩ hb
    simp only [x0] at hk
    exact hk
   ·exact step_pureO hs Wn rfl fun L u W hG hdep => ⟨_, run_move rfl, (show IsTV rE (u 1) [stV K] (.int .i64 2) from hG 1 (hdep 1 (by kernel_rfl)))⟩
   ·exact step_pure hs Wn rfl fun L u W hG hdep => run_extractV0 rfl (show IsTV rE (u 2) [stV K] (.int .i64 2) from hG 2 (hdep 2 (by kernel_rfl)))
   ·exact step_pureO hs Wn rfl fun L u W hG hdep => run_extractV1 rfl (show IsTV rE (u 2) [stV K] (.int .i64 2) from hG 2 (hdep 2 (by kernel_rfl)))
   ·exact step_alloc hs Wn rfl rfl (by omega) rfl allocE
   ·exact step_store 5 hs (by kernel_rfl) Wn rfl rfl rfl (by kernel_rfl) (by kernel_rfl) (by kernel_rfl) (by kernel_rfl) (fun _ => rfl) (gO 3) tyE rfl
   ·exact mvO 4 hs
  intro L6 u6a W6a hall hJ hG
  obtain ⟨q5, e5, hq5, _, ht5⟩ := oN 5 hG 5
  have hm5 := oS rE [stV K] hG 6 e5
  have HD5_q2 := Lib.hid (show q2 ≠ q5 by have := there_lt ht2 (by omega); omega)
  have hq5 : w.heap.size ≤ q5 := by have := hbel0.size; omega
  have E5 := Lib.hid e5; clear e5
  have hb := hJ.all rfl
  have hbel := Below.call hbel hb
  have ht2 := there_later ht2 hb
  have HKB := Lib.hid (HKB.out.below' hb)
  have HC6 := oC (.int .i64 2) hG 7
  have hbel0 := hbel
  clear hJ hG hall hb
  go_upto_region 7 with fail
  refine rgT [(31, 0), (0, 1)] [.oth (fun v => v = .int .i64 2), .oth (fun v => v = .bool true)] ?_ ?_
  ·intro hs
   refine ⟨?_, ?_, trivial⟩
   ·exact mvK hs fun _ => HC6.out
   ·refine step_pureO hs Wn rfl fun L u W hG hdep => ⟨_, ?_, rfl⟩
    have e0 := (oE (.int .i64 2) hG hdep 0)
    go_simp
    try simp [bne]
  intro L7 u7a W7a hall hJ hG
  have hb := hJ.all rfl
  have hbel := Below.call hbel hb
  have hm5 := hm5.later hb
  have ht2 := there_later ht2 hb
  have ht5 := there_later ht5 hb
  have HKB := Lib.hid (HKB.out.below' hb)
  have HC32 := oC (.bool true) hG 1
  have hbel0 := hbel
  clear hJ hG hall hb
  have hx : u7a 1 = .bool true := HC32.out
  go_wp2_with fail
  rw [hx]
  clear hx
  go_upto_region 8 with fail
  refine rgT [(3, 2), (29, 0)] [.val rP [Cp.zero], .sto q2 rP [Cp.zero], .oth (fun v => v = .int .i64 12)] ?_ ?_
  ·intro hs
   refine ⟨?_, ?_, ?_, trivial⟩
   ·exact step_pure hs Wn rfl fun L u W hG hdep => run_build0 rfl (build_P0 W)
   ·refine step_storeO q2 20 hs Wn rfl rfl (by kernel_rfl) (fun k hk => ?_) (fun _ => E2.out) (there_lt ht2 (by omega)) ht2 (gO 0) tyP rfl
    rcases k with _ | _ | _ | k
    all_goals first | (exact absurd rfl hk) | (intro e; cases e; done)
   ·exact mvK hs fun _ => rfl
  intro L8 u8a W8a hall hJ hG
  have hb := hJ.beN hbel
  have hbel := hbel.trans hb
  have hm5 := kB hm5 hJ HD5_q2.out
  have ht5 := tB ht5 hJ HD5_q2.out
  have HKB := Lib.hid (blk_keep HKB.out (hJ.block _ (HKB.out.lt) (fun k hk => by rcases k with _ | _ | _ | k <;> first | (cases hk; done) | (cases hk; exact absurd rfl HE_q2.out))))
  obtain ⟨_, hs8_1t, hs8_1⟩ := oT 20 rP [Cp.zero] hG 1
  have HC3 := oC (.int .i64 12) hG 2
  have hbel0 := hbel
  clear hJ hG hall hb
  go_wp2
  exact ret_cell_slot (R := rP) Tryz.results41 (by exact E2.out) (by exact HC3.out) hs8_1 tyP rfl (fun r hr => ⟨r, by rw [(dec_big HLW.out).2], by rw [(dec_big HLW.out).1]; exact hr, hbel⟩)
 ·have HLW := Lib.hid hlow; clear hlow
  have HC2 := Lib.hid (stC_clr HL.out HLW.out)
  have HV0 := Lib.hid (stV_clr HL.out HLW.out)
  generalize clr l = K at *
  generalize hy : fn (lowN l) = y at *
  have HY := Lib.hid hy; clear hy
  go_upto_region 6 with fail
  refine rgT [(5, 5), (0, 7), (19, 2), (0, 0), (0, 1), (0, 3), (0, 4)] [.oth (fun v => v = .slice (some ⟨gB, 0, none⟩) 32 cB), .oth (fun v => IsTV rE v [y] (.int .i64 0)), .oth (fun v => IsTV rE v [y] (.int .i64 0)), .val rE [y], .oth (fun v => v = .int .i64 0), .new 5, .st 5 rE [y], .oth (fun v => v = .int .i64 0)] ?_ ?_
  ·intro hs
   refine ⟨?_, ?_, ?_, ?_, ?_, ?_, ?_, ?_, trivial⟩
   ·exact mvK hs fun _ => rfl
   ·refine step_callO hs Wn rfl fun L u W hJ hG hL hdep K hK => ?_
    have x0 := (oE (.slice (some ⟨gB, 0, none⟩) 32 cB) hG hdep 0)
    have hRB0 := (RdB.blk rB HKB.out HKL.out hcB hmB).below (hJ.all rfl)
    go_simp
    go_at_call 88
    (with_reducible refine (cStrict' HV0.out HC2.out hRB0).mono ?_); rintro e w1 ⟨r, rfl, hr, hb⟩
    have hk := hK.out _ _ ⟨r, rfl, hr⟩ hb
    simp only [x0] at hk
    exact hk
   ·exact step_pureO hs Wn rfl fun L u W hG hdep => ⟨_, run_move rfl, (show IsTV rE (u 1) [y] (.int .i64 0) from hG 1 (hdep 1 (by kernel_rfl)))⟩
   ·exact step_pure hs Wn rfl fun L u W hG hdep => run_extractV0 rfl (show IsTV rE (u 2) [y] (.int .i64 0) from hG 2 (hdep 2 (by kernel_rfl)))
   ·exact step_pureO hs Wn rfl fun L u W hG hdep => run_extractV1 rfl (show IsTV rE (u 2) [y] (.int .i64 0) from hG 2 (hdep 2 (by kernel_rfl)))
   ·exact step_alloc hs Wn rfl rfl (by omega) rfl allocE
   ·exact step_store 5 hs (by kernel_rfl) Wn rfl rfl rfl (by kernel_rfl) (by kernel_rfl) (by kernel_rfl) (by kernel_rfl) (fun _ => rfl) (gO 3) tyE rfl
   ·exact mvO 4 hs
  intro L6 u6b W6b hall hJ hG
  obtain ⟨q5, e5, hq5, _, ht5⟩ := oN 5 hG 5
  have hm5 := oS rE [y] hG 6 e5
  have HD5_q2 := Lib.hid (show q2 ≠ q5 by have := there_lt ht2 (by omega); omega)
  have hq5 : w.heap.size ≤ q5 := by have := hbel0.size; omega
  have E5 := Lib.hid e5; clear e5
  have hb := hJ.all rfl
  have hbel := Below.call hbel hb
  have ht2 := there_later ht2 hb
  have HKB := Lib.hid (HKB.out.below' hb)
  have HC6 := oC (.int .i64 0) hG 7
  have hbel0 := hbel
  clear hJ hG hall hb
  go_upto_region 7 with fail
  refine rgT [(31, 0), (0, 1)] [.oth (fun v => v = .int .i64 0), .oth (fun v => v = .bool false)] ?_ ?_
  ·intro hs
   refine ⟨?_, ?_, trivial⟩
   ·exact mvK hs fun _ => HC6.out
   ·refine step_pureO hs Wn rfl fun L u W hG hdep => ⟨_, ?_, rfl⟩
    have e0 := (oE (.int .i64 0) hG hdep 0)
    go_simp
    try simp [bne]
  intro L7 u7b W7b hall hJ hG
  have hb := hJ.all rfl
  have hbel := Below.call hbel hb
  have hm5 := hm5.later hb
  have ht2 := there_later ht2 hb
  have ht5 := there_later ht5 hb
  have HKB := Lib.hid (HKB.out.below' hb)
  have HC32 := oC (.bool false) hG 1
  have hbel0 := hbel
  clear hJ hG hall hb
  have hx : u7b 1 = .bool false := HC32.out
  go_wp2_with fail
  rw [hx]
  clear hx
  go_upto_region 9 with fail
  refine rgM [(7, 4), (0, 5), (25, 0), (0, 1), (0, 2), (0, 3)] [.val rE [fn 1], .val rE [y], .val rE [y], .val rE [y * y], .new 5, .new 5, .st 4 rE [fn 1], .st 5 rE [y * y]] ?_ ?_
  ·intro hs
   refine ⟨?_, ?_, ?_, ?_, ?_, ?_, ?_, ?_, trivial⟩
   ·refine step_call hs Wn rfl fun L u W hJ hG hL hdep K hK => ?_
    go_simp
    go_at_call 89
    (with_reducible refine (cSmallI (n := 1) (z := 1) rfl (by omega) _).mono ?_); rintro e w1 ⟨r, rfl, hr, hb⟩
    exact hK.out _ _ hr hb
   ·exact step_load q5 0 hs Wn rfl rfl tyE (fun _ => E5.out) hm5.lt hm5 Na
   ·exact step_load q5 0 hs Wn rfl rfl tyE (fun _ => E5.out) hm5.lt hm5 Na
   ·refine step_call hs Wn rfl fun L u W hJ hG hL hdep K hK => ?_
    have a0 := (vE rE [y] hG hdep 1)
    have a1 := (vE rE [y] hG hdep 2)
    go_simp
    go_at_call 63
    (with_reducible refine (cMul a0 a1 _).mono ?_); rintro e w1 ⟨r, rfl, hr, hb⟩
    exact hK.out _ _ hr hb
   ·exact step_alloc hs Wn rfl rfl (by omega) rfl allocE
   ·exact step_alloc hs Wn rfl rfl (by omega) rfl allocE
   ·exact step_store 4 hs (by kernel_rfl) Wn rfl rfl rfl (by kernel_rfl) (by kernel_rfl) (by kernel_rfl) (by kernel_rfl) (fun _ => rfl) (gO 0) tyE rfl
   ·exact step_store 5 hs (by kernel_rfl) Wn rfl rfl rfl (by kernel_rfl) (by kernel_rfl) (by kernel_rfl) (by kernel_rfl) (fun _ => rfl) (gO 3) tyE rfl
  intro L9 u9b W9b hall hJ hG
  obtain ⟨q7, e7, hq7, _, ht7⟩ := oN 5 hG 4
  have hm7 := oS rE [fn 1] hG 6 e7
  have HD7_q2 := Lib.hid (show q2 ≠ q7 by have := there_lt ht2 (by omega); omega)
  have HD7_q5 := Lib.hid (show q5 ≠ q7 by have := there_lt ht5 (by omega); omega)
  have hq7 : w.heap.size ≤ q7 := by have := hbel0.size; omega
  have E7 := Lib.hid e7; clear e7
  obtain ⟨q8, e8, hq8, _, ht8⟩ := oN 5 hG 5
  have hm8 := oS rE [y * y] hG 7 e8
  have HD8_q2 := Lib.hid (show q2 ≠ q8 by have := there_lt ht2 (by omega); omega)
  have HD8_q5 := Lib.hid (show q5 ≠ q8 by have := there_lt ht5 (by omega); omega)
  have hq8 : w.heap.size ≤ q8 := by have := hbel0.size; omega
  have E8 := Lib.hid e8; clear e8
  have hb := hJ.all rfl
  have hbel := Below.call hbel hb
  have hm5 := hm5.later hb
  have ht2 := there_later ht2 hb
  have ht5 := there_later ht5 hb
  have HKB := Lib.hid (HKB.out.below' hb)
  have hbel0 := hbel
  clear hJ hG hall hb
  obtain ⟨X, hX⟩ : ∃ X, rootV (xx y) = X := ⟨_, rfl⟩
  have HX := Lib.hid hX; clear hX
  by_cases hrc : rootC (xx y) = 0
  rotate_left
  ·have HR7 := Lib.hid hrc; have HRC := Lib.hid (root_7 hrc); clear hrc
   go_upto_region 10 with fail
   refine rgM [(6, 16), (2, 14), (28, 11), (0, 0), (0, 1), (0, 2), (0, 3), (0, 4), (0, 5), (0, 6), (0, 7), (0, 8), (0, 9), (0, 10), (0, 12), (0, 13)] [.val rE [y * y], .val rE [fn 1], .val rE [(y * y) - (fn 1)], .val rE [y * y], .val rE [dE], .val rE [(y * y) * dE], .val rE [fn 1], .val rE [((y * y) * dE) + (fn 1)], .val rE [finv (((y * y) * dE) + (fn 1))], .val rE [((y * y) - (fn 1)) * (finv (((y * y) * dE) + (fn 1)))], .oth (fun v => IsTV rE v [X] (.int .i64 7)), .oth (fun v => IsTV rE v [X] (.int .i64 7)), .val rE [X], .oth (fun v => v = .int .i64 7), .new 5, .st 14 rE [X], .oth (fun v => v = .int .i64 7)] ?_ ?_
   ·intro hs
    refine ⟨?_, ?_, ?_, ?_, ?_, ?_, ?_, ?_, ?_, ?_, ?_, ?_, ?_, ?_, ?_, ?_, ?_, trivial⟩
    ·exact step_load q8 0 hs Wn rfl rfl tyE (fun _ => E8.out) hm8.lt hm8 Na
    ·exact step_load q7 0 hs Wn rfl rfl tyE (fun _ => E7.out) hm7.lt hm7 Na
    ·refine step_call hs Wn rfl fun L u W hJ hG hL hdep K hK => ?_
     have a0 := (vE rE [y * y] hG hdep 0)
     have a1 := (vE rE [fn 1] hG hdep 1)
     go_simp
     go_at_call 90
     (with_reducible refine (cSub a0 a1 _).mono ?_); rintro e w1 ⟨r, rfl, hr, hb⟩
     exact hK.out _ _ hr hb
    ·exact step_load q8 0 hs Wn rfl rfl tyE (fun _ => E8.out) hm8.lt hm8 Na
    ·refine step_call hs Wn rfl fun L u W hJ hG hL hdep K hK => ?_
     go_simp
     go_at_call 91
     (with_reducible refine (cD _).mono ?_); rintro e w1 ⟨r, rfl, hr, hb⟩
     exact hK.out _ _ hr hb
    ·refine step_call hs Wn rfl fun L u W hJ hG hL hdep K hK => ?_
     have a0 := (vE rE [y * y] hG hdep 3)
     have a1 := (vE rE [dE] hG hdep 4)
     go_simp
     go_at_call 63
     (with_reducible refine (cMul a0 a1 _).mono ?_); rintro e w1 ⟨r, rfl, hr, hb⟩
     exact hK.out _ _ hr hb
    ·exact step_load q7 0 hs Wn rfl rfl tyE (fun _ => E7.out) hm7.lt hm7 Na
    ·refine step_call hs Wn rfl fun L u W hJ hG hL hdep K hK => ?_
     have a0 := (vE rE [(y * y) * dE] hG hdep 5)
     have a1 := (vE rE [fn 1] hG hdep 6)
     go_simp
     go_at_call 92
     (with_reducible refine (cAdd a0 a1 _).mono ?_); rintro e w1 ⟨r, rfl, hr, hb⟩
     exact hK.out _ _ hr hb
    ·refine step_call hs Wn rfl fun L u W hJ hG hL hdep K hK => ?_
     have a0 := (vE rE [((y * y) * dE) + (fn 1)] hG hdep 7)
     go_simp
     go_at_call 62
     (with_reducible refine (cInv a0 _).mono ?_); rintro e w1 ⟨r, rfl, hr, hb⟩
     exact hK.out _ _ hr hb
    ·refine step_call hs Wn rfl fun L u W hJ hG hL hdep K hK => ?_
     have a0 := (vE rE [(y * y) - (fn 1)] hG hdep 2)
     have a1 := (vE rE [finv (((y * y) * dE) + (fn 1))] hG hdep 8)
     go_simp
     go_at_call 63
     (with_reducible refine (cMul a0 a1 _).mono ?_); rintro e w1 ⟨r, rfl, hr, hb⟩
     exact hK.out _ _ hr hb
    ·refine step_callO hs Wn rfl fun L u W hJ hG hL hdep K hK => ?_
     have a0 := xx_fs ((vE rE [((y * y) - (fn 1)) * (finv (((y * y) * dE) + (fn 1)))] hG hdep 9))
     go_simp
     go_at_call 93
     (with_reducible refine (cRootN HX.out HRC.out a0 _).mono ?_); rintro e w1 ⟨r, rfl, hr, hb⟩
     exact hK.out _ _ ⟨r, rfl, hr⟩ hb
    ·exact step_pureO hs Wn rfl fun L u W hG hdep => ⟨_, run_move rfl, (show IsTV rE (u 10) [X] (.int .i64 7) from hG 10 (hdep 10 (by kernel_rfl)))⟩
    ·exact step_pure hs Wn rfl fun L u W hG hdep => run_extractV0 rfl (show IsTV rE (u 11) [X] (.int .i64 7) from hG 11 (hdep 11 (by kernel_rfl)))
    ·exact step_pureO hs Wn rfl fun L u W hG hdep => run_extractV1 rfl (show IsTV rE (u 11) [X] (.int .i64 7) from hG 11 (hdep 11 (by kernel_rfl)))
    ·exact step_alloc hs Wn rfl rfl (by omega) rfl allocE
    ·exact step_store 14 hs (by kernel_rfl) Wn rfl rfl rfl (by kernel_rfl) (by kernel_rfl) (by kernel_rfl) (by kernel_rfl) (fun _ => rfl) (gO 12) tyE rfl
    ·exact mvO 13 hs
   intro L10 u10c W10c hall hJ hG
   obtain ⟨q9, e9, hq9, _, ht9⟩ := oN 5 hG 14
   have hm9 := oS rE [X] hG 15 e9
   have HD9_q2 := Lib.hid (show q2 ≠ q9 by have := there_lt ht2 (by omega); omega)
   have HD9_q5 := Lib.hid (show q5 ≠ q9 by have := there_lt ht5 (by omega); omega)
   have HD9_q7 := Lib.hid (show q7 ≠ q9 by have := there_lt ht7 (by omega); omega)
   have HD9_q8 := Lib.hid (show q8 ≠ q9 by have := there_lt ht8 (by omega); omega)
   have hq9 : w.heap.size ≤ q9 := by have := hbel0.size; omega
   have E9 := Lib.hid e9; clear e9
   have hb := hJ.all rfl
   have hbel := Below.call hbel hb
   have hm5 := hm5.later hb
   have hm7 := hm7.later hb
   have hm8 := hm8.later hb
   have ht2 := there_later ht2 hb
   have ht5 := there_later ht5 hb
   have ht7 := there_later ht7 hb
   have ht8 := there_later ht8 hb
   have HKB := Lib.hid (HKB.out.below' hb)
   have HC6 := oC (.int .i64 7) hG 16
   have hbel0 := hbel
   clear hJ hG hall hb
   go_upto_region 11 with fail
   refine rgT [(52, 0), (0, 1), (0, 2), (0, 3), (0, 4), (0, 5), (0, 6), (0, 7), (0, 8), (0, 9)] [.oth (fun v => v = .int .i64 7), .oth (fun v => v = .bool true), .oth (fun v => v = .bool true), .oth (fun v => v = undef), .oth (fun v => v = undef), .oth (fun v => v = undef), .oth (fun v => v = undef), .oth (fun v => v = undef), .oth (fun v => v = undef), .oth (fun v => v = .bool true)] ?_ ?_
   ·intro hs
    refine ⟨?_, ?_, ?_, ?_, ?_, ?_, ?_, ?_, ?_, ?_, trivial⟩
    ·exact mvK hs fun _ => HC6.out
    ·refine step_pureO hs Wn rfl fun L u W hG hdep => ⟨_, ?_, rfl⟩
     have e0 := (oE (.int .i64 7) hG hdep 0)
     go_simp
     try simp [bne]
    ·exact mvO 1 hs
    ·exact step_outU hs (wants_off 2 rfl rfl rfl (by kernel_rfl) (fun _ => rfl)) rfl
    ·exact step_outU hs (wants_off 2 rfl rfl rfl (by kernel_rfl) (fun _ => rfl)) rfl
    ·exact step_outU hs (wants_offU 4 rfl rfl (by kernel_rfl) (fun _ => rfl)) rfl
    ·exact step_outU hs (wants_offU 4 rfl rfl (by kernel_rfl) (fun _ => rfl)) rfl
    ·exact step_outU hs (wants_offU 4 rfl rfl (by kernel_rfl) (fun _ => rfl)) rfl
    ·exact step_outU hs (wants_off 2 rfl rfl rfl (by kernel_rfl) (fun _ => rfl)) rfl
    ·exact step_pick true hs Wn rfl rfl (fun L u W hG hdep => (oE (.bool true) hG hdep 2)) (fun L u W hG hdep => rfl)
   intro L11 u11c W11c hall hJ hG
   have hb := hJ.all rfl
   have hbel := Below.call hbel hb
   have hm5 := hm5.later hb
   have hm7 := hm7.later hb
   have hm8 := hm8.later hb
   have hm9 := hm9.later hb
   have ht2 := there_later ht2 hb
   have ht5 := there_later ht5 hb
   have ht7 := there_later ht7 hb
   have ht8 := there_later ht8 hb
   have ht9 := there_later ht9 hb
   have HKB := Lib.hid (HKB.out.below' hb)
   have HC53 := oC (.bool true) hG 1
   have HC54 := oC (.bool true) hG 2
   have HC61 := oC (.bool true) hG 9
   have hbel0 := hbel
   clear hJ hG hall hb
   have hx : u11c 9 = .bool true := HC61.out
   go_wp2_with fail
   rw [hx]
   clear hx
   go_upto_region 12 with fail
   refine rgT [(3, 2), (58, 0)] [.val rP [Cp.zero], .sto q2 rP [Cp.zero], .oth (fun v => v = .int .i64 12)] ?_ ?_
   ·intro hs
    refine ⟨?_, ?_, ?_, trivial⟩
    ·exact step_pure hs Wn rfl fun L u W hG hdep => run_build0 rfl (build_P0 W)
    ·refine step_storeO q2 20 hs Wn rfl rfl (by kernel_rfl) (fun k hk => ?_) (fun _ => E2.out) (there_lt ht2 (by omega)) ht2 (gO 0) tyP rfl
     rcases k with _ | _ | _ | k
     all_goals first | (exact absurd rfl hk) | (intro e; cases e; done)
    ·exact mvK hs fun _ => rfl
   intro L12 u12c W12c hall hJ hG
   have hb := hJ.beN hbel
   have hbel := hbel.trans hb
   have hm5 := kB hm5 hJ HD5_q2.out
   have hm7 := kB hm7 hJ HD7_q2.out
   have hm8 := kB hm8 hJ HD8_q2.out
   have hm9 := kB hm9 hJ HD9_q2.out
   have ht5 := tB ht5 hJ HD5_q2.out
   have ht7 := tB ht7 hJ HD7_q2.out
   have ht8 := tB ht8 hJ HD8_q2.out
   have ht9 := tB ht9 hJ HD9_q2.out
   have HKB := Lib.hid (blk_keep HKB.out (hJ.block _ (HKB.out.lt) (fun k hk => by rcases k with _ | _ | _ | k <;> first | (cases hk; done) | (cases hk; exact absurd rfl HE_q2.out))))
   obtain ⟨_, hs12_1t, hs12_1⟩ := oT 20 rP [Cp.zero] hG 1
   have HC3 := oC (.int .i64 12) hG 2
   have hbel0 := hbel
   clear hJ hG hall hb
   go_wp2
   exact ret_cell_slot (R := rP) Tryz.results41 (by exact E2.out) (by exact HC3.out) hs12_1 tyP rfl (fun r hr => ⟨r, by rw [(dec_root HL.out HLW.out HY.out HR7.out).2], by rw [(dec_root HL.out HLW.out HY.out HR7.out).1]; exact hr, hbel⟩)
  ·have HRC := Lib.hid hrc; clear hrc
   go_upto_region 10 with fail
   refine rgM [(6, 16), (2, 14), (28, 11), (0, 0), (0, 1), (0, 2), (0, 3), (0, 4), (0, 5), (0, 6), (0, 7), (0, 8), (0, 9), (0, 10), (0, 12), (0, 13)] [.val rE [y * y], .val rE [fn 1], .val rE [(y * y) - (fn 1)], .val rE [y * y], .val rE [dE], .val rE [(y * y) * dE], .val rE [fn 1], .val rE [((y * y) * dE) + (fn 1)], .val rE [finv (((y * y) * dE) + (fn 1))], .val rE [((y * y) - (fn 1)) * (finv (((y * y) * dE) + (fn 1)))], .oth (fun v => IsTV rE v [X] (.int .i64 0)), .oth (fun v => IsTV rE v [X] (.int .i64 0)), .val rE [X], .oth (fun v => v = .int .i64 0), .new 5, .st 14 rE [X], .oth (fun v => v = .int .i64 0)] ?_ ?_
   ·intro hs
    refine ⟨?_, ?_, ?_, ?_, ?_, ?_, ?_, ?_, ?_, ?_, ?_, ?_, ?_, ?_, ?_, ?_, ?_, trivial⟩
    ·exact step_load q8 0 hs Wn rfl rfl tyE (fun _ => E8.out) hm8.lt hm8 Na
    ·exact step_load q7 0 hs Wn rfl rfl tyE (fun _ => E7.out) hm7.lt hm7 Na
    ·refine step_call hs Wn rfl fun L u W hJ hG hL hdep K hK => ?_
     have a0 := (vE rE [y * y] hG hdep 0)
     have a1 := (vE rE [fn 1] hG hdep 1)
     go_simp
     go_at_call 90
     (with_reducible refine (cSub a0 a1 _).mono ?_); rintro e w1 ⟨r, rfl, hr, hb⟩
     exact hK.out _ _ hr hb
    ·exact step_load q8 0 hs Wn rfl rfl tyE (fun _ => E8.out) hm8.lt hm8 Na
    ·refine step_call hs Wn rfl fun L u W hJ hG hL hdep K hK => ?_
     go_simp
     go_at_call 91
     (with_reducible refine (cD _).mono ?_); rintro e w1 ⟨r, rfl, hr, hb⟩
     exact hK.out _ _ hr hb
    ·refine step_call hs Wn rfl fun L u W hJ hG hL hdep K hK => ?_
     have a0 := (vE rE [y * y] hG hdep 3)
     have a1 := (vE rE [dE] hG hdep 4)
     go_simp
     go_at_call 63
     (with_reducible refine (cMul a0 a1 _).mono ?_); rintro e w1 ⟨r, rfl, hr, hb⟩
     exact hK.out _ _ hr hb
    ·exact step_load q7 0 hs Wn rfl rfl tyE (fun _ => E7.out) hm7.lt hm7 Na
    ·refine step_call hs Wn rfl fun L u W hJ hG hL hdep K hK => ?_
     have a0 := (vE rE [(y * y) * dE] hG hdep 5)
     have a1 := (vE rE [fn 1] hG hdep 6)
     go_simp
     go_at_call 92
     (with_reducible refine (cAdd a0 a1 _).mono ?_); rintro e w1 ⟨r, rfl, hr, hb⟩
     exact hK.out _ _ hr hb
    ·refine step_call hs Wn rfl fun L u W hJ hG hL hdep K hK => ?_
     have a0 := (vE rE [((y * y) * dE) + (fn 1)] hG hdep 7)
     go_simp
     go_at_call 62
     (with_reducible refine (cInv a0 _).mono ?_); rintro e w1 ⟨r, rfl, hr, hb⟩
     exact hK.out _ _ hr hb
    ·refine step_call hs Wn rfl fun L u W hJ hG hL hdep K hK => ?_
     have a0 := (vE rE [(y * y) - (fn 1)] hG hdep 2)
     have a1 := (vE rE [finv (((y * y) * dE) + (fn 1))] hG hdep 8)
     go_simp
     go_at_call 63
     (with_reducible refine (cMul a0 a1 _).mono ?_); rintro e w1 ⟨r, rfl, hr, hb⟩
     exact hK.out _ _ hr hb
    ·refine step_callO hs Wn rfl fun L u W hJ hG hL hdep K hK => ?_
     have a0 := xx_fs ((vE rE [((y * y) - (fn 1)) * (finv (((y * y) * dE) + (fn 1)))] hG hdep 9))
     go_simp
     go_at_call 93
     (with_reducible refine (cRootN HX.out HRC.out a0 _).mono ?_); rintro e w1 ⟨r, rfl, hr, hb⟩
     exact hK.out _ _ ⟨r, rfl, hr⟩ hb
    ·exact step_pureO hs Wn rfl fun L u W hG hdep => ⟨_, run_move rfl, (show IsTV rE (u 10) [X] (.int .i64 0) from hG 10 (hdep 10 (by kernel_rfl)))⟩
    ·exact step_pure hs Wn rfl fun L u W hG hdep => run_extractV0 rfl (show IsTV rE (u 11) [X] (.int .i64 0) from hG 11 (hdep 11 (by kernel_rfl)))
    ·exact step_pureO hs Wn rfl fun L u W hG hdep => run_extractV1 rfl (show IsTV rE (u 11) [X] (.int .i64 0) from hG 11 (hdep 11 (by kernel_rfl)))
    ·exact step_alloc hs Wn rfl rfl (by omega) rfl allocE
    ·exact step_store 14 hs (by kernel_rfl) Wn rfl rfl rfl (by kernel_rfl) (by kernel_rfl) (by kernel_rfl) (by kernel_rfl) (fun _ => rfl) (gO 12) tyE rfl
    ·exact mvO 13 hs
   intro L10 u10d W10d hall hJ hG
   obtain ⟨q9, e9, hq9, _, ht9⟩ := oN 5 hG 14
   have hm9 := oS rE [X] hG 15 e9
   have HD9_q2 := Lib.hid (show q2 ≠ q9 by have := there_lt ht2 (by omega); omega)
   have HD9_q5 := Lib.hid (show q5 ≠ q9 by have := there_lt ht5 (by omega); omega)
   have HD9_q7 := Lib.hid (show q7 ≠ q9 by have := there_lt ht7 (by omega); omega)
   have HD9_q8 := Lib.hid (show q8 ≠ q9 by have := there_lt ht8 (by omega); omega)
   have hq9 : w.heap.size ≤ q9 := by have := hbel0.size; omega
   have E9 := Lib.hid e9; clear e9
   have hb := hJ.all rfl
   have hbel := Below.call hbel hb
   have hm5 := hm5.later hb
   have hm7 := hm7.later hb
   have hm8 := hm8.later hb
   have ht2 := there_later ht2 hb
   have ht5 := there_later ht5 hb
   have ht7 := there_later ht7 hb
   have ht8 := there_later ht8 hb
   have HKB := Lib.hid (HKB.out.below' hb)
   have HC6 := oC (.int .i64 0) hG 16
   have hbel0 := hbel
   clear hJ hG hall hb
   cases o
   ·skip
    go_upto_region 11 with fail
    refine rgT [(52, 0), (0, 1), (0, 2), (0, 3), (0, 4), (0, 5), (0, 6), (0, 7), (0, 8), (0, 9)] [.oth (fun v => v = .int .i64 0), .oth (fun v => v = .bool false), .oth (fun v => v = .bool false), .oth (fun v => v = .bool false), .oth (fun v => v = .bool false), .oth (fun v => v = undef), .oth (fun v => v = undef), .oth (fun v => v = undef), .oth (fun v => v = .bool false), .oth (fun v => v = .bool false)] ?_ ?_
    ·intro hs
     refine ⟨?_, ?_, ?_, ?_, ?_, ?_, ?_, ?_, ?_, ?_, trivial⟩
     ·exact mvK hs fun _ => HC6.out
     ·refine step_pureO hs Wn rfl fun L u W hG hdep => ⟨_, ?_, rfl⟩
      have e0 := (oE (.int .i64 0) hG hdep 0)
      go_simp
      try simp [bne]
     ·exact mvO 1 hs
     ·exact step_pureO hs (wants_on 2 rfl rfl (by kernel_rfl) (fun _ => rfl)) rfl fun L u W hG hdep => ⟨_, run_move rfl, HC4.out⟩
     ·exact step_pureO hs (wants_on 2 rfl rfl (by kernel_rfl) (fun _ => rfl)) rfl fun L u W hG hdep => ⟨_, run_move rfl, (oE (.bool false) hG hdep 3)⟩
     ·exact step_outU hs (wants_off 4 rfl rfl rfl (by kernel_rfl) (fun _ => rfl)) rfl
     ·exact step_outU hs (wants_off 4 rfl rfl rfl (by kernel_rfl) (fun _ => rfl)) rfl
     ·exact step_outU hs (wants_off 4 rfl rfl rfl (by kernel_rfl) (fun _ => rfl)) rfl
     ·exact step_pick false hs (wants_on 2 rfl rfl (by kernel_rfl) (fun _ => rfl)) rfl rfl (fun L u W hG hdep => (oE (.bool false) hG hdep 4)) (fun L u W hG hdep => rfl)
     ·exact step_pick false hs Wn rfl rfl (fun L u W hG hdep => (oE (.bool false) hG hdep 2)) (fun L u W hG hdep => (oE (.bool false) hG hdep 8))
    intro L11 u11n W11n hall hJ hG
    have hb := hJ.all rfl
    have hbel := Below.call hbel hb
    have hm5 := hm5.later hb
    have hm7 := hm7.later hb
    have hm8 := hm8.later hb
    have hm9 := hm9.later hb
    have ht2 := there_later ht2 hb
    have ht5 := there_later ht5 hb
    have ht7 := there_later ht7 hb
    have ht8 := there_later ht8 hb
    have ht9 := there_later ht9 hb
    have HKB := Lib.hid (HKB.out.below' hb)
    have HC53 := oC (.bool false) hG 1
    have HC54 := oC (.bool false) hG 2
    have HC55 := oC (.bool false) hG 3
    have HC56 := oC (.bool false) hG 4
    have HC60 := oC (.bool false) hG 8
    have HC61 := oC (.bool false) hG 9
    have hbel0 := hbel
    clear hJ hG hall hb
    have hx : u11n 9 = .bool false := HC61.out
    go_wp2_with fail
    rw [hx]
    clear hx
    go_upto_region 13 with fail
    refine rgM [(3, 8), (59, 0), (0, 1), (0, 2), (0, 3), (0, 4), (0, 5), (0, 6)] [.oth (fun v => v = .bool false), .val rE [X], .val rE [-X], .val rE [X], .val rE [X], .val rE [y], .val rE [X, y, fn 1, X * y], .sto q2 rE [X, y, fn 1, X * y], .oth (fun v => v = .int .i64 0)] ?_ ?_
    ·intro hs
     refine ⟨?_, ?_, ?_, ?_, ?_, ?_, ?_, ?_, ?_, trivial⟩
     ·exact mvK hs fun _ => HC4.out
     ·exact step_load q9 0 hs Wn rfl rfl tyE (fun _ => E9.out) hm9.lt hm9 (apN HD9_q2.out)
     ·refine step_call hs Wn rfl fun L u W hJ hG hL hdep K hK => ?_
      have a0 := (vE rE [X] hG hdep 1)
      go_simp
      go_at_call 97
      (with_reducible refine (cNeg a0 _).mono ?_); rintro e w1 ⟨r, rfl, hr, hb⟩
      exact hK.out _ _ hr hb
     ·exact step_load q9 0 hs Wn rfl rfl tyE (fun _ => E9.out) hm9.lt hm9 (apN HD9_q2.out)
     ·refine step_call hs Wn rfl fun L u W hJ hG hL hdep K hK => ?_
      have a0 := (vE rE [-X] hG hdep 2)
      have a1 := (vE rE [X] hG hdep 3)
      have x0 := (oE (.bool false) hG hdep 0)
      go_simp
      go_at_call 96
      (with_reducible refine (cPick (b := false) rfl a0 a1 _).mono ?_); rintro e w1 ⟨r, rfl, hr, hb⟩
      have hk := hK.out _ _ hr hb
      simp only [x0] at hk
      exact hk
     ·exact step_load q5 0 hs Wn rfl rfl tyE (fun _ => E5.out) hm5.lt hm5 (apN HD5_q2.out)
     ·refine step_call hs Wn rfl fun L u W hJ hG hL hdep K hK => ?_
      have a0 := (vE rE [X] hG hdep 4)
      have a1 := (vE rE [y] hG hdep 5)
      go_simp
      go_at_call 95
      (with_reducible refine (cPoint a0 a1 _).mono ?_); rintro e w1 ⟨r, rfl, hr, hb⟩
      exact hK.out _ _ hr hb
     ·refine step_storeO q2 20 hs Wn rfl rfl (by kernel_rfl) (fun k hk => ?_) (fun _ => E2.out) (there_lt ht2 (by omega)) ht2 (gO 6) tyP4 rfl
      rcases k with _ | _ | _ | _ | _ | _ | _ | _ | _ | k
      all_goals first | (exact absurd rfl hk) | (intro e; cases e; done)
     ·exact mvK hs fun _ => rfl
    intro L13 u13n W13n hall hJ hG
    have hb := hJ.beN hbel
    have hbel := hbel.trans hb
    have hm5 := kB hm5 hJ HD5_q2.out
    have hm7 := kB hm7 hJ HD7_q2.out
    have hm8 := kB hm8 hJ HD8_q2.out
    have hm9 := kB hm9 hJ HD9_q2.out
    have ht5 := tB ht5 hJ HD5_q2.out
    have ht7 := tB ht7 hJ HD7_q2.out
    have ht8 := tB ht8 hJ HD8_q2.out
    have ht9 := tB ht9 hJ HD9_q2.out
    have HKB := Lib.hid (blk_keep HKB.out (hJ.block _ (HKB.out.lt) (fun k hk => by rcases k with _ | _ | _ | _ | _ | _ | _ | _ | _ | k <;> first | (cases hk; done) | (cases hk; exact absurd rfl HE_q2.out))))
    obtain ⟨_, hs13_7t, hs13_7⟩ := oT 20 rE [X, y, fn 1, X * y] hG 7
    have HC63 := oC (.bool false) hG 0
    have HC3 := oC (.int .i64 0) hG 8
    have hbel0 := hbel
    clear hJ hG hall hb
    go_wp2
    exact ret_cell_slot (R := rE) Tryz.results41 (by exact E2.out) (by exact HC3.out) hs13_7 tyP4 rfl (fun r hr => ⟨r, by rw [(dec_yes HL.out HLW.out HY.out HRC.out HS.out (fun k => by cases k.1)).1], toP (isPr hr (dec_pext (by rw [(dec_yes HL.out HLW.out HY.out HRC.out HS.out (fun k => by cases k.1)).2.1, HX.out]; rfl) (dec_yes HL.out HLW.out HY.out HRC.out HS.out (fun k => by cases k.1)).2.2)), hbel⟩)
   ·skip
    by_cases hx0 : X = 0
    ·have HX0 := Lib.hid hx0; clear hx0
     go_upto_region 11 with fail
     refine rgT [(52, 0), (0, 1), (0, 2), (0, 3), (0, 4), (0, 5), (0, 6), (0, 7), (0, 8), (0, 9)] [.oth (fun v => v = .int .i64 0), .oth (fun v => v = .bool false), .oth (fun v => v = .bool false), .oth (fun v => v = .bool true), .oth (fun v => v = .bool true), .val rE [X], .val rE [0], .oth (fun v => v = .bool true), .oth (fun v => v = .bool true), .oth (fun v => v = .bool true)] ?_ ?_
     ·intro hs
      refine ⟨?_, ?_, ?_, ?_, ?_, ?_, ?_, ?_, ?_, ?_, trivial⟩
      ·exact mvK hs fun _ => HC6.out
      ·refine step_pureO hs Wn rfl fun L u W hG hdep => ⟨_, ?_, rfl⟩
       have e0 := (oE (.int .i64 0) hG hdep 0)
       go_simp
       try simp [bne]
      ·exact mvO 1 hs
      ·exact step_pureO hs (wants_on 2 rfl rfl (by kernel_rfl) (fun _ => rfl)) rfl fun L u W hG hdep => ⟨_, run_move rfl, HC4.out⟩
      ·exact step_pureO hs (wants_on 2 rfl rfl (by kernel_rfl) (fun _ => rfl)) rfl fun L u W hG hdep => ⟨_, run_move rfl, (oE (.bool true) hG hdep 3)⟩
      ·exact step_load q9 0 hs (wants_on 4 rfl rfl (by kernel_rfl) (fun _ => rfl)) rfl rfl tyE (fun _ => E9.out) hm9.lt hm9 Na
      ·exact step_pure hs (wants_on 4 rfl rfl (by kernel_rfl) (fun _ => rfl)) rfl fun L u W hG hdep => run_build0 rfl (buildE0 W)
      ·refine step_callO hs (wants_on 4 rfl rfl (by kernel_rfl) (fun _ => rfl)) rfl fun L u W hJ hG hL hdep K hK => ?_
       have a0 := (vE rE [X] hG hdep 5)
       have a1 := (vE rE [0] hG hdep 6)
       go_simp
       go_at_call 94
       (with_reducible refine (cSame (b := true) (decide_eq_true HX0.out) a0 a1 _).mono ?_); rintro e w1 ⟨rfl, hb⟩
       exact hK.out _ _ rfl hb
      ·exact step_pick true hs (wants_on 2 rfl rfl (by kernel_rfl) (fun _ => rfl)) rfl rfl (fun L u W hG hdep => (oE (.bool true) hG hdep 4)) (fun L u W hG hdep => (oE (.bool true) hG hdep 7))
      ·exact step_pick false hs Wn rfl rfl (fun L u W hG hdep => (oE (.bool false) hG hdep 2)) (fun L u W hG hdep => (oE (.bool true) hG hdep 8))
     intro L11 u11e W11e hall hJ hG
     have hb := hJ.all rfl
     have hbel := Below.call hbel hb
     have hm5 := hm5.later hb
     have hm7 := hm7.later hb
     have hm8 := hm8.later hb
     have hm9 := hm9.later hb
     have ht2 := there_later ht2 hb
     have ht5 := there_later ht5 hb
     have ht7 := there_later ht7 hb
     have ht8 := there_later ht8 hb
     have ht9 := there_later ht9 hb
     have HKB := Lib.hid (HKB.out.below' hb)
     have HC53 := oC (.bool false) hG 1
     have HC54 := oC (.bool false) hG 2
     have HC55 := oC (.bool true) hG 3
     have HC56 := oC (.bool true) hG 4
     have HC59 := oC (.bool true) hG 7
     have HC60 := oC (.bool true) hG 8
     have HC61 := oC (.bool true) hG 9
     have hbel0 := hbel
     clear hJ hG hall hb
     have hx : u11e 9 = .bool true := HC61.out
     go_wp2_with fail
     rw [hx]
     clear hx
     go_upto_region 12 with fail
     refine rgT [(3, 2), (58, 0)] [.val rP [Cp.zero], .sto q2 rP [Cp.zero], .oth (fun v => v = .int .i64 12)] ?_ ?_
     ·intro hs
      refine ⟨?_, ?_, ?_, trivial⟩
      ·exact step_pure hs Wn rfl fun L u W hG hdep => run_build0 rfl (build_P0 W)
      ·refine step_storeO q2 20 hs Wn rfl rfl (by kernel_rfl) (fun k hk => ?_) (fun _ => E2.out) (there_lt ht2 (by omega)) ht2 (gO 0) tyP rfl
       rcases k with _ | _ | _ | k
       all_goals first | (exact absurd rfl hk) | (intro e; cases e; done)
      ·exact mvK hs fun _ => rfl
     intro L12 u12e W12e hall hJ hG
     have hb := hJ.beN hbel
     have hbel := hbel.trans hb
     have hm5 := kB hm5 hJ HD5_q2.out
     have hm7 := kB hm7 hJ HD7_q2.out
     have hm8 := kB hm8 hJ HD8_q2.out
     have hm9 := kB hm9 hJ HD9_q2.out
     have ht5 := tB ht5 hJ HD5_q2.out
     have ht7 := tB ht7 hJ HD7_q2.out
     have ht8 := tB ht8 hJ HD8_q2.out
     have ht9 := tB ht9 hJ HD9_q2.out
     have HKB := Lib.hid (blk_keep HKB.out (hJ.block _ (HKB.out.lt) (fun k hk => by rcases k with _ | _ | _ | k <;> first | (cases hk; done) | (cases hk; exact absurd rfl HE_q2.out))))
     obtain ⟨_, hs12_1t, hs12_1⟩ := oT 20 rP [Cp.zero] hG 1
     have HC3 := oC (.int .i64 12) hG 2
     have hbel0 := hbel
     clear hJ hG hall hb
     go_wp2
     exact ret_cell_slot (R := rP) Tryz.results41 (by exact E2.out) (by exact HC3.out) hs12_1 tyP rfl (fun r hr => ⟨r, by rw [(dec_sgn HL.out HLW.out HY.out HRC.out HS.out (HX.out.trans HX0.out)).2], by rw [(dec_sgn HL.out HLW.out HY.out HRC.out HS.out (HX.out.trans HX0.out)).1]; exact hr, hbel⟩)
    ·have HX0 := Lib.hid hx0; clear hx0
     go_upto_region 11 with fail
     refine rgT [(52, 0), (0, 1), (0, 2), (0, 3), (0, 4), (0, 5), (0, 6), (0, 7), (0, 8), (0, 9)] [.oth (fun v => v = .int .i64 0), .oth (fun v => v = .bool false), .oth (fun v => v = .bool false), .oth (fun v => v = .bool true), .oth (fun v => v = .bool true), .val rE [X], .val rE [0], .oth (fun v => v = .bool false), .oth (fun v => v = .bool false), .oth (fun v => v = .bool false)] ?_ ?_
     ·intro hs
      refine ⟨?_, ?_, ?_, ?_, ?_, ?_, ?_, ?_, ?_, ?_, trivial⟩
      ·exact mvK hs fun _ => HC6.out
      ·refine step_pureO hs Wn rfl fun L u W hG hdep => ⟨_, ?_, rfl⟩
       have e0 := (oE (.int .i64 0) hG hdep 0)
       go_simp
       try simp [bne]
      ·exact mvO 1 hs
      ·exact step_pureO hs (wants_on 2 rfl rfl (by kernel_rfl) (fun _ => rfl)) rfl fun L u W hG hdep => ⟨_, run_move rfl, HC4.out⟩
      ·exact step_pureO hs (wants_on 2 rfl rfl (by kernel_rfl) (fun _ => rfl)) rfl fun L u W hG hdep => ⟨_, run_move rfl, (oE (.bool true) hG hdep 3)⟩
      ·exact step_load q9 0 hs (wants_on 4 rfl rfl (by kernel_rfl) (fun _ => rfl)) rfl rfl tyE (fun _ => E9.out) hm9.lt hm9 Na
      ·exact step_pure hs (wants_on 4 rfl rfl (by kernel_rfl) (fun _ => rfl)) rfl fun L u W hG hdep => run_build0 rfl (buildE0 W)
      ·refine step_callO hs (wants_on 4 rfl rfl (by kernel_rfl) (fun _ => rfl)) rfl fun L u W hJ hG hL hdep K hK => ?_
       have a0 := (vE rE [X] hG hdep 5)
       have a1 := (vE rE [0] hG hdep 6)
       go_simp
       go_at_call 94
       (with_reducible refine (cSame (b := false) (decide_eq_false HX0.out) a0 a1 _).mono ?_); rintro e w1 ⟨rfl, hb⟩
       exact hK.out _ _ rfl hb
      ·exact step_pick true hs (wants_on 2 rfl rfl (by kernel_rfl) (fun _ => rfl)) rfl rfl (fun L u W hG hdep => (oE (.bool true) hG hdep 4)) (fun L u W hG hdep => (oE (.bool false) hG hdep 7))
      ·exact step_pick false hs Wn rfl rfl (fun L u W hG hdep => (oE (.bool false) hG hdep 2)) (fun L u W hG hdep => (oE (.bool false) hG hdep 8))
     intro L11 u11f W11f hall hJ hG
     have hb := hJ.all rfl
     have hbel := Below.call hbel hb
     have hm5 := hm5.later hb
     have hm7 := hm7.later hb
     have hm8 := hm8.later hb
     have hm9 := hm9.later hb
     have ht2 := there_later ht2 hb
     have ht5 := there_later ht5 hb
     have ht7 := there_later ht7 hb
     have ht8 := there_later ht8 hb
     have ht9 := there_later ht9 hb
     have HKB := Lib.hid (HKB.out.below' hb)
     have HC53 := oC (.bool false) hG 1
     have HC54 := oC (.bool false) hG 2
     have HC55 := oC (.bool true) hG 3
     have HC56 := oC (.bool true) hG 4
     have HC59 := oC (.bool false) hG 7
     have HC60 := oC (.bool false) hG 8
     have HC61 := oC (.bool false) hG 9
     have hbel0 := hbel
     clear hJ hG hall hb
     have hx : u11f 9 = .bool false := HC61.out
     go_wp2_with fail
     rw [hx]
     clear hx
     go_upto_region 13 with fail
     refine rgM [(3, 8), (59, 0), (0, 1), (0, 2), (0, 3), (0, 4), (0, 5), (0, 6)] [.oth (fun v => v = .bool true), .val rE [X], .val rE [-X], .val rE [X], .val rE [-X], .val rE [y], .val rE [-X, y, fn 1, (-X) * y], .sto q2 rE [-X, y, fn 1, (-X) * y], .oth (fun v => v = .int .i64 0)] ?_ ?_
     ·intro hs
      refine ⟨?_, ?_, ?_, ?_, ?_, ?_, ?_, ?_, ?_, trivial⟩
      ·exact mvK hs fun _ => HC4.out
      ·exact step_load q9 0 hs Wn rfl rfl tyE (fun _ => E9.out) hm9.lt hm9 (apN HD9_q2.out)
      ·refine step_call hs Wn rfl fun L u W hJ hG hL hdep K hK => ?_
       have a0 := (vE rE [X] hG hdep 1)
       go_simp
       go_at_call 97
       (with_reducible refine (cNeg a0 _).mono ?_); rintro e w1 ⟨r, rfl, hr, hb⟩
       exact hK.out _ _ hr hb
      ·exact step_load q9 0 hs Wn rfl rfl tyE (fun _ => E9.out) hm9.lt hm9 (apN HD9_q2.out)
      ·refine step_call hs Wn rfl fun L u W hJ hG hL hdep K hK => ?_
       have a0 := (vE rE [-X] hG hdep 2)
       have a1 := (vE rE [X] hG hdep 3)
       have x0 := (oE (.bool true) hG hdep 0)
       go_simp
       go_at_call 96
       (with_reducible refine (cPick (b := true) rfl a0 a1 _).mono ?_); rintro e w1 ⟨r, rfl, hr, hb⟩
       have hk := hK.out _ _ hr hb
       simp only [x0] at hk
       exact hk
      ·exact step_load q5 0 hs Wn rfl rfl tyE (fun _ => E5.out) hm5.lt hm5 (apN HD5_q2.out)
      ·refine step_call hs Wn rfl fun L u W hJ hG hL hdep K hK => ?_
       have a0 := (vE rE [-X] hG hdep 4)
       have a1 := (vE rE [y] hG hdep 5)
       go_simp
       go_at_call 95
       (with_reducible refine (cPoint a0 a1 _).mono ?_); rintro e w1 ⟨r, rfl, hr, hb⟩
       exact hK.out _ _ hr hb
      ·refine step_storeO q2 20 hs Wn rfl rfl (by kernel_rfl) (fun k hk => ?_) (fun _ => E2.out) (there_lt ht2 (by omega)) ht2 (gO 6) tyP4 rfl
       rcases k with _ | _ | _ | _ | _ | _ | _ | _ | _ | k
       all_goals first | (exact absurd rfl hk) | (intro e; cases e; done)
      ·exact mvK hs fun _ => rfl
     intro L13 u13f W13f hall hJ hG
     have hb := hJ.beN hbel
     have hbel := hbel.trans hb
     have hm5 := kB hm5 hJ HD5_q2.out
     have hm7 := kB hm7 hJ HD7_q2.out
     have hm8 := kB hm8 hJ HD8_q2.out
     have hm9 := kB hm9 hJ HD9_q2.out
     have ht5 := tB ht5 hJ HD5_q2.out
     have ht7 := tB ht7 hJ HD7_q2.out
     have ht8 := tB ht8 hJ HD8_q2.out
     have ht9 := tB ht9 hJ HD9_q2.out
     have HKB := Lib.hid (blk_keep HKB.out (hJ.block _ (HKB.out.lt) (fun k hk => by rcases k with _ | _ | _ | _ | _ | _ | _ | _ | _ | k <;> first | (cases hk; done) | (cases hk; exact absurd rfl HE_q2.out))))
     obtain ⟨_, hs13_7t, hs13_7⟩ := oT 20 rE [-X, y, fn 1, (-X) * y] hG 7
     have HC63 := oC (.bool true) hG 0
     have HC3 := oC (.int .i64 0) hG 8
     have hbel0 := hbel
     clear hJ hG hall hb
     go_wp2
     exact ret_cell_slot (R := rE) Tryz.results41 (by exact E2.out) (by exact HC3.out) hs13_7 tyP4 rfl (fun r hr => ⟨r, by rw [(dec_yes HL.out HLW.out HY.out HRC.out HS.out (fun k => HX0.out (HX.out.symm.trans k.2))).1], toP (isPr hr (dec_pext (by rw [(dec_yes HL.out HLW.out HY.out HRC.out HS.out (fun k => HX0.out (HX.out.symm.trans k.2))).2.1, HX.out]; rfl) (dec_yes HL.out HLW.out HY.out HRC.out HS.out (fun k => HX0.out (HX.out.symm.trans k.2))).2.2)), hbel⟩)
theorem cDecode {a : Option Addr} {n cap : Nat} {l : List UInt8} {P : EP} {c : Int} {w : World} (hP : decV l = P) (hc : decC l = c) (h : RdB w a n cap l) :
  Calls Tryz.prog 41 #[.slice a n cap] w fun e w' => ∃ r, e = .returned (.tuple #[r, .int .i64 c]) ∧ IsFs rP r [P] ∧ Below w.heap.size w w' := by
 subst hP hc
 by_cases hn : n = 32
 ·subst hn
  obtain ⟨b, q, rfl, hc0⟩ := h.get 31 (by rw [h.hlen]; omega)
  exact decode_32 w rfl h
 ·obtain ⟨e1, e2⟩ := dec_len (b := l) (by rw [h.hlen]; exact hn)
  rw [e1, e2]
  exact decode_len w hn
end Go.Proofs.YtielgpefoameiaaGreat
namespace Go.Proofs.YtielgpefoameiaaGreat
open Go Go.RowKit
theorem dec_base : decV (88 :: List.replicate 31 102) = base ∧ decC (88 :: List.replicate 31 102) = 0 := by
 rw [← base_enc]
 unfold decV decC
 rw [decP_enc]
 exact ⟨rfl, rfl⟩
set_option maxRecDepth 100000 in
set_option maxHeartbeats 4000000 in
theorem cBase (w : World) : Calls Tryz.prog 22 #[] w fun e w' => ∃ r, e = .returned r ∧ IsFs rP r [base] ∧ Below w.heap.size w w' := by
 go_enter Tryz.func22, Tryz.ntmps22
 go_upto_region 3 with (go_at_call 57; go_must (refine (repeat_32' (k := w.heap.size + 1 + 1) (by simp) ?_).mono ?_; (focus (exact Blk.new' (cs := #[.int .u8 102]) (by simp))); rintro e w1 ⟨rfl, hB, hb⟩; have hN := hB.frozen 0; have hC : w1.cell? ⟨w.heap.size + 1 + 1, 0, none⟩ = some (.int .u8 102) := (by rw [hB.cell 0]; rfl); have HB := Lib.hid hB; have hbel : Below w.heap.size w w1 := Below.call belowBy hb; have htk : w1.there w.heap.size 0 20 := (fun j hj => (by have hO := (show Blk _ w.heap.size [.int .u64 0,.int .u64 0,.int .u64 0,.int .u64 0,.int .u64 0,.int .u64 0,.int .u64 0,.int .u64 0,.int .u64 0,.int .u64 0,.int .u64 0,.int .u64 0,.int .u64 0,.int .u64 0,.int .u64 0,.int .u64 0,.int .u64 0,.int .u64 0,.int .u64 0,.int .u64 0] 54 from (by repeat (first | (with_reducible refine Blk.drew ?_) | exact Blk.new' (by simp) | (with_reducible refine Blk.alloc ?_ _)))).below' hb; rw [Nat.zero_add, hO.cell, hO.frozen, List.getElem?_eq_getElem (by simp; omega)]; exact ⟨rfl, rfl⟩)); clear hb hB))
 have hD : Blk (w1.setCell ⟨w.heap.size + 1 + 1, 0, none⟩ (.int .u8 88)) (w.heap.size + 1 + 1) ((88 :: List.replicate 31 102).map bV ++ []) 5 := HB.out.set 0 (.int .u8 88)
 have hbel2 : Below w.heap.size w (w1.setCell ⟨w.heap.size + 1 + 1, 0, none⟩ (.int .u8 88)) := hbel.setCell (by simp; omega) _
 have htk2 : (w1.setCell ⟨w.heap.size + 1 + 1, 0, none⟩ (.int .u8 88)).there w.heap.size 0 20 := there_blk htk (set_other (by omega) _ _)
 clear hbel htk HB hN hC
 generalize w1.setCell ⟨w.heap.size + 1 + 1, 0, none⟩ (.int .u8 88) = W at *
 have hbel := hbel2
 have hbel0 := hbel
 have HD := Lib.hid hD
 clear hbel2 hD
 refine rgT [(2, 5), (0, 7), (4, 2), (0, 0), (0, 1), (0, 3), (0, 4)] [.oth (fun v => v = .slice (some ⟨w.heap.size + 1 + 1, 0, none⟩) 32 32), .oth (fun v => IsTV rP v [base] (.int .i64 0)), .oth (fun v => IsTV rP v [base] (.int .i64 0)), .val rP [base], .oth (fun v => v = .int .i64 0), .new 20, .st 5 rP [base], .oth (fun v => v = .int .i64 0)] ?_ ?_
 ·intro hs
  refine ⟨?_, ?_, ?_, ?_, ?_, ?_, ?_, ?_, trivial⟩
  ·exact mvK hs fun _ => rfl
  ·refine step_callO hs Wn rfl fun L u W hJ hG hL hdep K hK => ?_
   have x0 := (oE (.slice (some ⟨w.heap.size + 1 + 1, 0, none⟩) 32 32) hG hdep 0)
   have hRB0 := ((RdB.blk (n := 32) (cap := 32) [] HD.out (by rfl) (Nat.le_refl _) (by unfold maxLen; omega)).below (Below.refl _ _)).below (hJ.all rfl)
   go_simp
   go_at_call 41
   (with_reducible refine (cDecode dec_base.1 dec_base.2 hRB0).mono ?_); rintro e w1 ⟨r, rfl, hr, hb⟩
   have hk := hK.out _ _ ⟨r, rfl, hr⟩ hb
   simp only [x0] at hk
   exact hk
  ·exact step_pureO hs Wn rfl fun L u W hG hdep => ⟨_, run_move rfl, (show IsTV rP (u 1) [base] (.int .i64 0) from hG 1 (hdep 1 (by kernel_rfl)))⟩
  ·exact step_pure hs Wn rfl fun L u W hG hdep => run_extractV0 rfl (show IsTV rP (u 2) [base] (.int .i64 0) from hG 2 (hdep 2 (by kernel_rfl)))
  ·exact step_pureO hs Wn rfl fun L u W hG hdep => run_extractV1 rfl (show IsTV rP (u 2) [base] (.int .i64 0) from hG 2 (hdep 2 (by kernel_rfl)))
  ·exact step_alloc hs Wn rfl rfl (by omega) rfl allocP
  ·exact step_store 5 hs (by kernel_rfl) Wn rfl rfl rfl (by kernel_rfl) (by kernel_rfl) (by kernel_rfl) (by kernel_rfl) (fun _ => rfl) (gO 3) tyP rfl
  ·exact mvO 4 hs
 intro L3 u3 W3 hall hJ hG
 obtain ⟨q2, e2, hq2, _, ht2⟩ := oN 20 hG 5
 have hm2 := oS rP [base] hG 6 e2
 have HD2_wheapsize := Lib.hid (show w.heap.size ≠ q2 by have := there_lt htk2 (by omega); omega)
 have hq2 : w.heap.size ≤ q2 := by have := hbel0.size; omega
 have E2 := Lib.hid e2; clear e2
 have hb := hJ.all rfl
 have hbel := Below.call hbel hb
 have htk2 := there_later htk2 hb
 have HD := Lib.hid (HD.out.below' hb)
 have hbel0 := hbel
 clear hJ hG hall hb
 go_upto_region 4 with fail
 refine rgT [(13, 0)] [.val rP [base], .sto w.heap.size rP [base]] ?_ ?_
 ·intro hs
  refine ⟨?_, ?_, trivial⟩
  ·exact step_load q2 0 hs Wn rfl rfl tyP (fun _ => E2.out) hm2.lt hm2 (apN HD2_wheapsize.out)
  ·refine step_storeO w.heap.size 20 hs Wn rfl rfl (by kernel_rfl) (fun k hk => ?_) (fun _ => rfl) (there_lt htk2 (by omega)) htk2 (gO 0) tyP rfl
   rcases k with _ | _ | k
   all_goals first | (exact absurd rfl hk) | (intro e; cases e; done)
 intro L4 u4 W4 hall hJ hG
 have hb := hJ.beN hbel
 have hbel := hbel.trans hb
 have hm2 := kB hm2 hJ HD2_wheapsize.out
 have ht2 := tB ht2 hJ HD2_wheapsize.out
 obtain ⟨_, hs4_1t, hs4_1⟩ := (show _ ∧ W4.there w.heap.size 0 20 ∧ HasFs rP W4 w.heap.size 0 [base] from hG 1 (by simp))
 have hbel0 := hbel
 clear hJ hG hall hb
 go_wp2
 exact ret_cell1 (R := rP) Tryz.results22 (by exact rfl) hs4_1 tyP rfl (fun r hr => ⟨r, rfl, hr, hbel⟩)
end Go.Proofs.YtielgpefoameiaaGreat
namespace Go.Proofs.YtielgpefoameiaaGreat
open Go Go.RowKit
/-- A seed's number. -/
def edA (seed : List UInt8) : F := wS (clampB (sha512 seed))
/-- A seed's prefix. -/
def edP (seed : List UInt8) : List UInt8 := (sha512 seed).drop 32
/-- A seed's public key. -/
def edPub (seed : List UInt8) : List UInt8 := encP (Cp.mul (edA seed).val base)
/-- A signature's first half. -/
def edR (p l : List UInt8) : List UInt8 := encP (Cp.mul (wS (sha512 (p ++ l))).val base)
/-- A signature. -/
def edSign (s : F) (p q l : List UInt8) : List UInt8 := edR p l ++ leB 32 (dA (wS (sha512 (p ++ l))) (dM (wS (sha512 (edR p l ++ (q ++ l)))) s)).val
theorem edP_len (seed : List UInt8) : (edP seed).length = 32 := by unfold edP; rw [List.length_drop, sha512_len]
theorem edPub_len (seed : List UInt8) : (edPub seed).length = 32 := encP_len _
theorem NewB.mk' {w w' : World} {l : List UInt8} {e : Ending} (h : ∃ g n cap r, e = .returned (.slice (some ⟨g, 0, none⟩) n cap) ∧ w.heap.size ≤ g ∧ Blk w' g (l.map bV ++ r) 5 ∧ l.length = n ∧ n ≤ cap ∧ cap ≤ maxLen ∧ Below w.heap.size w w') : ∃ r, e = .returned r ∧ (IsB l).P r w' ∧ Below w.heap.size w w' := NewB.is h
theorem gSum512 {v : Value} {ls : List (List UInt8)} {l : List UInt8} {w : World} (h : (IsR ls).P v w) (hl : ls.flatten = l) (hs : l.length ≤ 1000000) :
  Calls Tryz.prog 19 #[v] w fun e w' => ∃ r, e = .returned r ∧ (IsB (sha512 l)).P r w' ∧ Below w.heap.size w w' := by
 obtain ⟨a, n, cap, rfl, hr⟩ := h
 exact (sum512_any hr hl hs).mono fun _ _ h => h.is
theorem gCat {v : Value} {ls : List (List UInt8)} {l : List UInt8} {w : World} (h : (IsR ls).P v w) (hl : ls.flatten = l) (hs : l.length ≤ 1000000) :
  Calls Tryz.prog 25 #[v] w fun e w' => ∃ r, e = .returned r ∧ (IsB l).P r w' ∧ Below w.heap.size w w' := by
 obtain ⟨a, n, cap, rfl, hr⟩ := h
 subst hl
 exact (cat_any w hr (by omega)).mono fun _ _ ⟨v, he, ho, hb⟩ => ⟨v, he, IsB.own ho, hb⟩
theorem gClamp {v : Value} {l : List UInt8} {w : World} (h : (IsB l).P v w) :
  Calls Tryz.prog 21 #[v] w fun e w' => ∃ r, e = .returned r ∧ (IsB (clampB l)).P r w' ∧ Below w.heap.size w w' := by
 obtain ⟨a, n, cap, rfl, hr⟩ := h
 exact (clamp_any w hr).mono fun _ _ ⟨he, hB, hb⟩ => ⟨_, he, IsB.mk (RdB.blk (n := 32) (cap := 32) [] (by rw [List.append_nil]; exact hB) (clampB_len _) (by omega) (by unfold maxLen; omega)), hb⟩
theorem gWide {v : Value} {l : List UInt8} {w : World} (h : (IsB l).P v w) :
  Calls Tryz.prog 20 #[v] w fun e w' => ∃ r, e = .returned r ∧ IsFs rS r [wS l] ∧ Below w.heap.size w w' := by
 obtain ⟨a, n, cap, rfl, hr⟩ := h
 exact cWide rfl hr
theorem gClone {v : Value} {l : List UInt8} {w : World} (h : (IsB l).P v w) (hm : l.length ≤ 1000000) :
  Calls Tryz.prog 30 #[v] w fun e w' => ∃ r, e = .returned r ∧ (IsB l).P r w' ∧ Below w.heap.size w w' := by
 obtain ⟨a, n, cap, rfl, hr⟩ := h
 exact (clone_own w hr (by rw [← hr.hlen]; omega)).mono fun _ _ ⟨v, he, ho, hb⟩ => ⟨v, he, IsB.own ho, hb⟩
theorem gEncode {v : Value} {P : EP} (h : IsFs rP v [P]) (w : World) :
  Calls Tryz.prog 24 #[v] w fun e w' => ∃ r, e = .returned r ∧ (IsB (encP P)).P r w' ∧ Below w.heap.size w w' := (cEncode h w).mono fun _ _ h => NewB.mk' h
theorem gScBytes {v : Value} {x : F} (h : IsFs rS v [x]) (w : World) :
  Calls Tryz.prog 29 #[v] w fun e w' => ∃ r, e = .returned r ∧ (IsB (leB 32 x.val)).P r w' ∧ Below w.heap.size w w' := (cScBytes h w).mono fun _ _ h => NewB.mk' h
theorem field_Signer1 (g : Nat) (w : World) : (Instr.fieldAt 58 (.pointer (some ⟨g, 0, none⟩)) 1).run Tryz.prog w = .ok (.pointer (some ⟨g, 4, none⟩)) w := by kernel_rfl
theorem field_Signer2 (g : Nat) (w : World) : (Instr.fieldAt 58 (.pointer (some ⟨g, 0, none⟩)) 2).run Tryz.prog w = .ok (.pointer (some ⟨g, 5, none⟩)) w := by kernel_rfl
theorem field_Signer0 (g : Nat) (w : World) : (Instr.fieldAt 58 (.pointer (some ⟨g, 0, none⟩)) 0).run Tryz.prog w = .ok (.pointer (some ⟨g, 0, none⟩)) w := by kernel_rfl
theorem buildSigner (a b c d : Int) (A B : Option Addr) (n m k j : Nat) (w : World) : (Instr.build 58 #[(0, .agg #[.int .u64 a, .int .u64 b, .int .u64 c, .int .u64 d]), (1, .slice A n k), (2, .slice B m j)]).run Tryz.prog w = .ok (.agg #[.int .u64 a, .int .u64 b, .int .u64 c, .int .u64 d, .slice A n k, .slice B m j]) w := by kernel_rfl
theorem run_buildSigner {ev : Operand → Value} {o : Oper} {x y z : Operand} {w : World} {s : F} {p q : List UInt8} (ho : o.op = .build 58 #[(0, x), (1, y), (2, z)]) (h0 : IsFs rS (ev x) [s]) (h1 : (IsB p).P (ev y) w) (h2 : (IsB q).P (ev z) w) :
  ∃ r w', (execOp ev o).run Tryz.prog w = .ok (.value r) w' ∧ Below w.heap.size w w' ∧ (StV [fNum rS [s], fB p, fB q]).P r w' := by
 have e2 := (of_isS h0).2
 obtain ⟨cs, e, hc⟩ := h0
 have h1' := h1
 have h2' := h2
 obtain ⟨A, n, k, e3, _⟩ := h1
 obtain ⟨B, m, j, e4, _⟩ := h2
 rw [e3] at h1'
 rw [e4] at h2'
 have ec : cs = [.int .u64 (lw s.val 0 : Nat), .int .u64 (lw s.val 1 : Nat), .int .u64 (lw s.val 2 : Nat), .int .u64 (lw s.val 3 : Nat)] := by
  rw [e2] at e; simpa using e.symm
 refine ⟨_, w, run_build3 ho (by rw [e2, e3, e4]; exact buildSigner _ _ _ _ A B n m k j w), Below.refl _ _, cs ++ ([.slice A n k] ++ ([.slice B m j] ++ [])), by rw [ec]; rfl, cs, [.slice A n k] ++ ([.slice B m j] ++ []), rfl, hc, _, _, rfl, ⟨_, rfl, h1'⟩, _, _, rfl, ⟨_, rfl, h2'⟩, rfl⟩
set_option maxRecDepth 100000 in
set_option maxHeartbeats 1000000 in
theorem gHash {w : World} {v : Value} {ls : List (List UInt8)} {l : List UInt8} (h : (IsR ls).P v w) (hl : ls.flatten = l) (hs : l.length ≤ 1000000) :
  Calls Tryz.prog 26 #[v] w fun e w' => ∃ r, e = .returned r ∧ IsFs rS r [wS (sha512 l)] ∧ Below w.heap.size w w' := by
 have HL := Lib.hid hl; have HS := Lib.hid hs
 clear hl hs
 go_enter Tryz.func26, Tryz.ntmps26
 have hbel : Below w.heap.size w w := Below.refl _ _
 have hbel0 := hbel
 go_upto_region 0 with fail
 refine rgT [(2, 0)] [.new 4] ?_ ?_
 ·intro hs
  refine ⟨?_, trivial⟩
  ·exact step_alloc hs Wn rfl rfl (by omega) rfl allocS
 intro L0 u0 W0 hall hJ hG
 obtain ⟨q2, e2, hq2, _, ht2⟩ := oN 4 hG 0
 have hq2 : w.heap.size ≤ q2 := by have := hbel0.size; omega
 have E2 := Lib.hid e2; clear e2
 have hb := hJ.all rfl
 have hbel := Below.call hbel hb
 have hbel0 := hbel
 clear hJ hG hall hb
 go_upto_region 1 with fail
 refine rgT [(3, 0), (0, 1), (0, 2)] [.wld (IsR ls) (some 1), .wld (IsB (sha512 l)) (some 2), .val rS [wS (sha512 l)], .sto q2 rS [wS (sha512 l)]] ?_ ?_
 ·intro hs
  refine ⟨?_, ?_, ?_, ?_, trivial⟩
  ·exact step_runP hs Wn rfl fun L u W hJ hG hL hdep => run_moveP (.inl rfl) ((IsR ls).st _ _ _ h (hbel.trans (hJ.below (by have := hbel.size; omega) (fun k b hf => by rcases k with _ | _ | _ | _ | k <;> first | (cases hf; done) | (cases hf; omega)))))
  ·refine step_callP hs Wn rfl fun L u W hJ hG hL hdep K hK => ?_
   go_simp
   go_at_call 19
   (with_reducible refine (gSum512 (l := l) (holds_wld (φ := IsR ls) (hG 0 (hdep 0 (by kernel_rfl))) rfl (till_some hL)) (HL.out) (HS.out)).mono ?_); rintro e w1 ⟨r, rfl, hr, hb⟩
   exact hK.out _ _ hr hb
  ·refine step_call hs Wn rfl fun L u W hJ hG hL hdep K hK => ?_
   go_simp
   go_at_call 20
   (with_reducible refine (gWide (holds_wld (φ := IsB (sha512 l)) (hG 1 (hdep 1 (by kernel_rfl))) rfl (till_some hL))).mono ?_); rintro e w1 ⟨r, rfl, hr, hb⟩
   exact hK.out _ _ hr hb
  ·refine step_storeO q2 4 hs Wn rfl rfl (by kernel_rfl) (fun k hk => ?_) (fun _ => E2.out) (there_lt ht2 (by omega)) ht2 (gO 2) tyS rfl
   rcases k with _ | _ | _ | _ | k
   all_goals first | (exact absurd rfl hk) | (intro e; cases e; done)
 intro L1 u1 W1 hall hJ hG
 have hb := hJ.beN hbel
 have hbel := hbel.trans hb
 obtain ⟨_, hs1_3t, hs1_3⟩ := oT 4 rS [wS (sha512 l)] hG 3
 have hbel0 := hbel
 clear hJ hG hall hb
 go_wp2
 exact ret_cell1 (R := rS) Tryz.results26 (by exact E2.out) hs1_3 tyS rfl (fun r hr => ⟨r, rfl, hr, hbel⟩)
set_option maxRecDepth 100000 in
set_option maxHeartbeats 1000000 in
theorem gNewSigner {w : World} {v : Value} {seed : List UInt8} (h : (IsB seed).P v w) (hl : seed.length = 32) :
  Calls Tryz.prog 9 #[v] w fun e w' => ∃ r, e = .returned (.tuple #[r, .int .i64 0]) ∧ (StP [fNum rS [edA seed], fB (edP seed), fB (edPub seed)]).P r w' ∧ Below w.heap.size w w' := by
 have HL := Lib.hid hl
 clear hl
 go_enter Tryz.func9, Tryz.ntmps9
 have hbel : Below w.heap.size w w := Below.refl _ _
 have hbel0 := hbel
 go_upto_region 0 with fail
 refine rgT [(2, 0), (0, 1)] [.oth (fun v => v = .pointer none), .oth (fun v => v = .int .i64 0)] ?_ ?_
 ·intro hs
  refine ⟨?_, ?_, trivial⟩
  ·exact mvK hs fun _ => rfl
  ·exact mvK hs fun _ => rfl
 intro L0 u0 W0 hall hJ hG
 have hb := hJ.all rfl
 have hbel := Below.call hbel hb
 have HC2 := oC (.pointer none) hG 0
 have HC3 := oC (.int .i64 0) hG 1
 have hbel0 := hbel
 clear hJ hG hall hb
 go_upto_region 1 with fail
 refine rgT [(6, 0), (0, 1), (0, 2)] [.wld (IsB seed) none, .oth (fun v => v = .int .i64 32), .oth (fun v => v = .bool false)] ?_ ?_
 ·intro hs
  refine ⟨?_, ?_, ?_, trivial⟩
  ·exact step_runP hs Wn rfl fun L u W hJ hG hL hdep => run_moveP (.inl rfl) ((IsB seed).st _ _ _ h (Below.call hbel (hJ.all rfl)))
  ·exact step_runO hs Wn rfl fun L u W hJ hG hL hdep => run_lenP rfl (hW (IsB seed) hG hdep 0) (by rw [HL.out]; rfl)
  ·refine step_pureO hs Wn rfl fun L u W hG hdep => ⟨_, ?_, rfl⟩
   have e0 := (oE (.int .i64 32) hG hdep 1)
   go_simp
   try simp [bne]
 intro L1 u1 W1 hall hJ hG
 have hb := hJ.all rfl
 have hbel := Below.call hbel hb
 have HC8 := oC (.bool false) hG 2
 have hbel0 := hbel
 clear hJ hG hall hb
 have hx : u1 2 = .bool false := HC8.out
 go_wp2_with fail
 rw [hx]
 clear hx
 go_upto_region 3 with fail
 refine rgT [(4, 3), (4, 0), (0, 1), (0, 2)] [.wld (IsB seed) none, .wld (IsR [seed]) none, .wld (IsB (sha512 seed)) none, .wld (IsB (sha512 seed)) none] ?_ ?_
 ·intro hs
  refine ⟨?_, ?_, ?_, ?_, trivial⟩
  ·exact step_runP hs Wn rfl fun L u W hJ hG hL hdep => run_moveP (.inl rfl) ((IsB seed).st _ _ _ h (Below.call hbel (hJ.all rfl)))
  ·exact step_runP hs Wn rfl fun L u W hJ hG hL hdep => run_rows1 rfl (hW (IsB seed) hG hdep 0)
  ·refine step_callP hs Wn rfl fun L u W hJ hG hL hdep K hK => ?_
   go_simp
   go_at_call 19
   (with_reducible refine (gSum512 (l := seed) (holds_wld (φ := IsR [seed]) (hG 1 (hdep 1 (by kernel_rfl))) rfl till_none) (by simp) (by rw [HL.out]; omega)).mono ?_); rintro e w1 ⟨r, rfl, hr, hb⟩
   exact hK.out _ _ hr hb
  ·exact step_runP hs Wn rfl fun L u W hJ hG hL hdep => run_moveP (.inr rfl) (hW (IsB (sha512 seed)) hG hdep 2)
 intro L3 u3 W3 hall hJ hG
 have hb := hJ.all rfl
 have hbel := Below.call hbel hb
 have hw4 := oW (IsB (sha512 seed)) hG 3
 have hbel0 := hbel
 clear hJ hG hall hb
 go_upto_region 4 with fail
 refine rgT [(5, 3), (6, 0), (0, 1), (0, 2)] [.wld (IsB (sha512 seed)) (some 1), .wld (IsB (clampB (sha512 seed))) (some 2), .val rS [wS (clampB (sha512 seed))], .new 4, .st 3 rS [wS (clampB (sha512 seed))]] ?_ ?_
 ·intro hs
  refine ⟨?_, ?_, ?_, ?_, ?_, trivial⟩
  ·exact step_runP hs Wn rfl fun L u W hJ hG hL hdep => run_moveP (.inl rfl) ((IsB (sha512 seed)).st _ _ _ hw4 (hJ.all rfl))
  ·refine step_callP hs Wn rfl fun L u W hJ hG hL hdep K hK => ?_
   go_simp
   go_at_call 21
   (with_reducible refine (gClamp (holds_wld (φ := IsB (sha512 seed)) (hG 0 (hdep 0 (by kernel_rfl))) rfl (till_some hL))).mono ?_); rintro e w1 ⟨r, rfl, hr, hb⟩
   exact hK.out _ _ hr hb
  ·refine step_call hs Wn rfl fun L u W hJ hG hL hdep K hK => ?_
   go_simp
   go_at_call 20
   (with_reducible refine (gWide (holds_wld (φ := IsB (clampB (sha512 seed))) (hG 1 (hdep 1 (by kernel_rfl))) rfl (till_some hL))).mono ?_); rintro e w1 ⟨r, rfl, hr, hb⟩
   exact hK.out _ _ hr hb
  ·exact step_alloc hs Wn rfl rfl (by omega) rfl allocS
  ·exact step_store 3 hs (by kernel_rfl) Wn rfl rfl rfl (by kernel_rfl) (by kernel_rfl) (by kernel_rfl) (by kernel_rfl) (fun _ => rfl) (gO 2) tyS rfl
 intro L4 u4 W4 hall hJ hG
 obtain ⟨q5, e5, hq5, _, ht5⟩ := oN 4 hG 3
 have hm5 := oS rS [wS (clampB (sha512 seed))] hG 4 e5
 have hq5 : w.heap.size ≤ q5 := by have := hbel0.size; omega
 have E5 := Lib.hid e5; clear e5
 have hb := hJ.all rfl
 have hbel := Below.call hbel hb
 have hw4 := (IsB (sha512 seed)).st _ _ _ hw4 hb
 have hbel0 := hbel
 clear hJ hG hall hb
 go_upto_region 5 with fail
 refine rgM [(2, 9), (0, 10), (11, 0), (0, 1), (0, 2), (0, 3), (0, 4), (0, 5), (0, 6), (0, 7), (0, 8)] [.val rS [wS (clampB (sha512 seed))], .wld (IsB (sha512 seed)) none, .wld (IsB ((sha512 seed).drop 32)) none, .val rP [base], .val rS [wS (clampB (sha512 seed))], .val rP [Cp.mul (wS (clampB (sha512 seed))).val base], .wld (IsB (encP (Cp.mul (wS (clampB (sha512 seed))).val base))) none, .wld (StV [fNum rS [wS (clampB (sha512 seed))], fB ((sha512 seed).drop 32), fB (encP (Cp.mul (wS (clampB (sha512 seed))).val base))]) none, .wld (StP [fNum rS [wS (clampB (sha512 seed))], fB ((sha512 seed).drop 32), fB (encP (Cp.mul (wS (clampB (sha512 seed))).val base))]) none, .wld (StP [fNum rS [wS (clampB (sha512 seed))], fB ((sha512 seed).drop 32), fB (encP (Cp.mul (wS (clampB (sha512 seed))).val base))]) none, .oth (fun v => v = .int .i64 0)] ?_ ?_
 ·intro hs
  refine ⟨?_, ?_, ?_, ?_, ?_, ?_, ?_, ?_, ?_, ?_, ?_, trivial⟩
  ·exact step_load q5 0 hs Wn rfl rfl tyS (fun _ => E5.out) hm5.lt hm5 Na
  ·exact step_runP hs Wn rfl fun L u W hJ hG hL hdep => run_moveP (.inl rfl) ((IsB (sha512 seed)).st _ _ _ hw4 (hJ.all rfl))
  ·exact step_runP hs Wn rfl fun L u W hJ hG hL hdep => run_fromP (k := 32) rfl rfl (hW (IsB (sha512 seed)) hG hdep 1) (by rw [sha512_len]; omega)
  ·refine step_call hs Wn rfl fun L u W hJ hG hL hdep K hK => ?_
   go_simp
   go_at_call 22
   (with_reducible refine (cBase _).mono ?_); rintro e w1 ⟨r, rfl, hr, hb⟩
   exact hK.out _ _ hr hb
  ·exact step_load q5 0 hs Wn rfl rfl tyS (fun _ => E5.out) hm5.lt hm5 Na
  ·refine step_call hs Wn rfl fun L u W hJ hG hL hdep K hK => ?_
   have a0 := (vE rP [base] hG hdep 3)
   have a1 := (vE rS [wS (clampB (sha512 seed))] hG hdep 4)
   go_simp
   go_at_call 23
   (with_reducible refine (cMult rfl a0 a1 _).mono ?_); rintro e w1 ⟨r, rfl, hr, hb⟩
   exact hK.out _ _ hr hb
  ·refine step_callP hs Wn rfl fun L u W hJ hG hL hdep K hK => ?_
   have a0 := (vE rP [Cp.mul (wS (clampB (sha512 seed))).val base] hG hdep 5)
   go_simp
   go_at_call 24
   (with_reducible refine (gEncode a0 _).mono ?_); rintro e w1 ⟨r, rfl, hr, hb⟩
   exact hK.out _ _ hr hb
  ·exact step_runP hs Wn rfl fun L u W hJ hG hL hdep => run_buildSigner rfl (vE rS [wS (clampB (sha512 seed))] hG hdep 0) (hW (IsB ((sha512 seed).drop 32)) hG hdep 2) (hW (IsB (encP (Cp.mul (wS (clampB (sha512 seed))).val base))) hG hdep 6)
  ·exact step_runP hs Wn rfl fun L u W hJ hG hL hdep => run_boxSt rfl (hW (StV [fNum rS [wS (clampB (sha512 seed))], fB ((sha512 seed).drop 32), fB (encP (Cp.mul (wS (clampB (sha512 seed))).val base))]) hG hdep 7)
  ·exact step_runP hs Wn rfl fun L u W hJ hG hL hdep => run_moveP (.inr rfl) (hW (StP [fNum rS [wS (clampB (sha512 seed))], fB ((sha512 seed).drop 32), fB (encP (Cp.mul (wS (clampB (sha512 seed))).val base))]) hG hdep 8)
  ·exact mvK hs fun _ => rfl
 intro L5 u5 W5 hall hJ hG
 have hb := hJ.all rfl
 have hbel := Below.call hbel hb
 have hw4 := (IsB (sha512 seed)).st _ _ _ hw4 hb
 have hw2 := oW (StP [fNum rS [wS (clampB (sha512 seed))], fB ((sha512 seed).drop 32), fB (encP (Cp.mul (wS (clampB (sha512 seed))).val base))]) hG 9
 have HC3 := oC (.int .i64 0) hG 10
 have hbel0 := hbel
 clear hJ hG hall hb
 go_wp2
 go_ret2
 exact ⟨_, by rw [HC3.out]; rfl, hw2, hbel⟩
set_option maxRecDepth 100000 in
set_option maxHeartbeats 400000 in
theorem newSigner_no {w : World} {v : Value} {seed : List UInt8} {N : Nat} (h : (IsB seed).P v w) (hl : seed.length = N) (hn : N ≠ 32) :
  Calls Tryz.prog 9 #[v] w fun e w' => e = .returned (.tuple #[.pointer none, .int .i64 1]) ∧ Below w.heap.size w w' := by
 have HL := Lib.hid hl
 have HN : Hid ((!((N : Int) == 32)) = true) := Lib.hid (by simp; omega)
 clear hl hn
 go_enter Tryz.func9, Tryz.ntmps9
 have hbel : Below w.heap.size w w := Below.refl _ _
 have hbel0 := hbel
 go_upto_region 0 with fail
 refine rgT [(2, 0), (0, 1)] [.oth (fun v => v = .pointer none), .oth (fun v => v = .int .i64 0)] ?_ ?_
 ·intro hs
  refine ⟨?_, ?_, trivial⟩
  ·exact mvK hs fun _ => rfl
  ·exact mvK hs fun _ => rfl
 intro L0 u0 W0 hall hJ hG
 have hb := hJ.all rfl
 have hbel := Below.call hbel hb
 have HC2 := oC (.pointer none) hG 0
 have HC3 := oC (.int .i64 0) hG 1
 have hbel0 := hbel
 clear hJ hG hall hb
 go_upto_region 1 with fail
 refine rgT [(6, 0), (0, 1), (0, 2)] [.wld (IsB seed) none, .oth (fun v => v = .int .i64 (N : Int)), .oth (fun v => v = .bool true)] ?_ ?_
 ·intro hs
  refine ⟨?_, ?_, ?_, trivial⟩
  ·exact step_runP hs Wn rfl fun L u W hJ hG hL hdep => run_moveP (.inl rfl) ((IsB seed).st _ _ _ h (Below.call hbel (hJ.all rfl)))
  ·exact step_runO hs Wn rfl fun L u W hJ hG hL hdep => run_lenP rfl (hW (IsB seed) hG hdep 0) (by rw [HL.out])
  ·refine step_pureO hs Wn rfl fun L u W hG hdep => ⟨_, ?_, rfl⟩
   have e0 := (oE (.int .i64 (N : Int)) hG hdep 1)
   have e9 := HN.out
   go_simp
   try exact e9
   try simpa using e9
 intro L1 u1 W1 hall hJ hG
 have hb := hJ.all rfl
 have hbel := Below.call hbel hb
 have HC8 := oC (.bool true) hG 2
 have hbel0 := hbel
 clear hJ hG hall hb
 have hx : u1 2 = .bool true := HC8.out
 go_wp2_with fail
 rw [hx]
 clear hx
 go_upto_region 2 with fail
 refine rgT [(2, 0), (0, 1)] [.oth (fun v => v = .pointer none), .oth (fun v => v = .int .i64 1)] ?_ ?_
 ·intro hs
  refine ⟨?_, ?_, trivial⟩
  ·exact mvK hs fun _ => rfl
  ·exact mvK hs fun _ => rfl
 intro L2 u2 W2 hall hJ hG
 have hb := hJ.all rfl
 have hbel := Below.call hbel hb
 have HC2 := oC (.pointer none) hG 0
 have HC3 := oC (.int .i64 1) hG 1
 have hbel0 := hbel
 clear hJ hG hall hb
 go_wp2
 go_ret2
 exact ⟨by rw [HC2.out, HC3.out]; rfl, hbel⟩
set_option maxRecDepth 100000 in
set_option maxHeartbeats 1000000 in
theorem gSPublic {w : World} {v : Value} {s : F} {p q : List UInt8} (h : (StP [fNum rS [s], fB p, fB q]).P v w) (hq : q.length ≤ 1000000) :
  Calls Tryz.prog 11 #[v] w fun e w' => ∃ r, e = .returned r ∧ (IsB q).P r w' ∧ Below w.heap.size w w' := by
 have HQ := Lib.hid hq
 clear hq
 go_enter Tryz.func11, Tryz.ntmps11
 have hbel : Below w.heap.size w w := Below.refl _ _
 have hbel0 := hbel
 go_upto_region 0 with fail
 refine rgT [(2, 0)] [.wld (IsB []) none] ?_ ?_
 ·intro hs
  refine ⟨?_, trivial⟩
  ·exact step_runP hs Wn rfl fun L u W hJ hG hL hdep => run_moveP (.inr rfl) (IsB.nil W)
 intro L0 u0 W0 hall hJ hG
 have hb := hJ.all rfl
 have hbel := Below.call hbel hb
 have hw2 := oW (IsB []) hG 0
 have hbel0 := hbel
 clear hJ hG hall hb
 go_upto_region 1 with fail
 refine rgT [(3, 0), (0, 1)] [.wld (StP [fNum rS [s], fB p, fB q]) none, .oth (fun v => v = .bool false)] ?_ ?_
 ·intro hs
  refine ⟨?_, ?_, trivial⟩
  ·exact step_runP hs Wn rfl fun L u W hJ hG hL hdep => run_moveP (.inl rfl) ((StP [fNum rS [s], fB p, fB q]).st _ _ _ h (Below.call hbel (hJ.all rfl)))
  ·exact step_runO hs Wn rfl fun L u W hJ hG hL hdep => run_eqlNil Tryz.underlying30 rfl rfl (hW (StP [fNum rS [s], fB p, fB q]) hG hdep 0)
 intro L1 u1 W1 hall hJ hG
 have hb := hJ.all rfl
 have hbel := Below.call hbel hb
 have hw2 := (IsB []).st _ _ _ hw2 hb
 have HC4 := oC (.bool false) hG 1
 have hbel0 := hbel
 clear hJ hG hall hb
 have hx : u1 1 = .bool false := HC4.out
 go_wp2_with fail
 rw [hx]
 clear hx
 go_upto_region 3 with fail
 refine rgT [(2, 5), (2, 0), (0, 1), (0, 2), (0, 3), (0, 4)] [.wld (StP [fNum rS [s], fB p, fB q]) none, .wld (StP [fNum rS [s], fB p, fB q]) none, .wld (StA [fNum rS [s], fB p, fB q] 5) none, .wld (IsB q) none, .wld (IsB q) none, .wld (IsB q) none] ?_ ?_
 ·intro hs
  refine ⟨?_, ?_, ?_, ?_, ?_, ?_, trivial⟩
  ·exact step_runP hs Wn rfl fun L u W hJ hG hL hdep => run_moveP (.inl rfl) ((StP [fNum rS [s], fB p, fB q]).st _ _ _ h (Below.call hbel (hJ.all rfl)))
  ·exact step_runP hs Wn rfl fun L u W hJ hG hL hdep => run_nilchk rfl (hW (StP [fNum rS [s], fB p, fB q]) hG hdep 0)
  ·exact step_runP hs Wn rfl fun L u W hJ hG hL hdep => run_fieldSt rfl (hW (StP [fNum rS [s], fB p, fB q]) hG hdep 1) field_Signer2
  ·exact step_runP hs Wn rfl fun L u W hJ hG hL hdep => run_loadWp 2 rfl (hW (StA [fNum rS [s], fB p, fB q] 5) hG hdep 2) rfl rfl load_bytes
  ·refine step_callP hs Wn rfl fun L u W hJ hG hL hdep K hK => ?_
   go_simp
   go_at_call 30
   (with_reducible refine (gClone (holds_wld (φ := IsB q) (hG 3 (hdep 3 (by kernel_rfl))) rfl till_none) (HQ.out)).mono ?_); rintro e w1 ⟨r, rfl, hr, hb⟩
   exact hK.out _ _ hr hb
  ·exact step_runP hs Wn rfl fun L u W hJ hG hL hdep => run_moveP (.inr rfl) (hW (IsB q) hG hdep 4)
 intro L3 u3 W3 hall hJ hG
 have hb := hJ.all rfl
 have hbel := Below.call hbel hb
 have hw2 := (IsB []).st _ _ _ hw2 hb
 have hw2 := oW (IsB q) hG 5
 have hbel0 := hbel
 clear hJ hG hall hb
 go_wp2
 go_ret
 exact ⟨_, rfl, hw2, hbel⟩
set_option maxRecDepth 100000 in
set_option maxHeartbeats 400000 in
theorem sPublic_nil (w : World) : Calls Tryz.prog 11 #[.pointer none] w fun e w' => e = .returned (.slice none 0 0) ∧ w = w' := by
 go_enter Tryz.func11, Tryz.ntmps11
 go_wp2
 go_ret
 exact ⟨rfl, rfl⟩
set_option maxRecDepth 100000 in
set_option maxHeartbeats 1000000 in
theorem gSSign {w : World} {v0 v1 : Value} {s : F} {p q l : List UInt8} {ls : List (List UInt8)} (h0 : (StP [fNum rS [s], fB p, fB q]).P v0 w) (h1 : (IsR ls).P v1 w) (hl : ls.flatten = l) (hs : l.length ≤ 100000) (hp : p.length = 32) (hq : q.length = 32) :
  Calls Tryz.prog 10 #[v0, v1] w fun e w' => ∃ r, e = .returned r ∧ (IsB (edSign s p q l)).P r w' ∧ Below w.heap.size w w' := by
 have HL := Lib.hid hl; have HS := Lib.hid hs; have HP := Lib.hid hp; have HQ := Lib.hid hq
 clear hl hs hp hq
 go_enter Tryz.func10, Tryz.ntmps10
 have hbel : Below w.heap.size w w := Below.refl _ _
 have hbel0 := hbel
 go_upto_region 0 with fail
 refine rgT [(4, 0)] [.wld (IsB []) none] ?_ ?_
 ·intro hs
  refine ⟨?_, trivial⟩
  ·exact step_runP hs Wn rfl fun L u W hJ hG hL hdep => run_moveP (.inr rfl) (IsB.nil W)
 intro L0 u0 W0 hall hJ hG
 have hb := hJ.all rfl
 have hbel := Below.call hbel hb
 have hw4 := oW (IsB []) hG 0
 have hbel0 := hbel
 clear hJ hG hall hb
 go_upto_region 1 with fail
 refine rgT [(8, 0), (0, 1), (0, 2), (0, 3), (0, 4), (0, 5), (0, 6), (0, 7), (0, 8), (0, 9)] [.wld (StP [fNum rS [s], fB p, fB q]) none, .oth (fun v => v = .bool false), .oth (fun v => v = .bool false), .wld (StP [fNum rS [s], fB p, fB q]) none, .wld (StP [fNum rS [s], fB p, fB q]) none, .wld (StA [fNum rS [s], fB p, fB q] 5) none, .wld (IsB q) none, .oth (fun v => v = .int .i64 32), .oth (fun v => v = .bool false), .oth (fun v => v = .bool false)] ?_ ?_
 ·intro hs
  refine ⟨?_, ?_, ?_, ?_, ?_, ?_, ?_, ?_, ?_, ?_, trivial⟩
  ·exact step_runP hs Wn rfl fun L u W hJ hG hL hdep => run_moveP (.inl rfl) ((StP [fNum rS [s], fB p, fB q]).st _ _ _ h0 (Below.call hbel (hJ.all rfl)))
  ·exact step_runO hs Wn rfl fun L u W hJ hG hL hdep => run_eqlNil Tryz.underlying30 rfl rfl (hW (StP [fNum rS [s], fB p, fB q]) hG hdep 0)
  ·exact mvO 1 hs
  ·exact step_runP hs (wants_on 2 rfl rfl (by kernel_rfl) (fun _ => rfl)) rfl fun L u W hJ hG hL hdep => run_moveP (.inl rfl) ((StP [fNum rS [s], fB p, fB q]).st _ _ _ h0 (Below.call hbel (hJ.all rfl)))
  ·exact step_runP hs (wants_on 2 rfl rfl (by kernel_rfl) (fun _ => rfl)) rfl fun L u W hJ hG hL hdep => run_nilchk rfl (hW (StP [fNum rS [s], fB p, fB q]) hG hdep 3)
  ·exact step_runP hs (wants_on 2 rfl rfl (by kernel_rfl) (fun _ => rfl)) rfl fun L u W hJ hG hL hdep => run_fieldSt rfl (hW (StP [fNum rS [s], fB p, fB q]) hG hdep 4) field_Signer2
  ·exact step_runP hs (wants_on 2 rfl rfl (by kernel_rfl) (fun _ => rfl)) rfl fun L u W hJ hG hL hdep => run_loadWp 2 rfl (hW (StA [fNum rS [s], fB p, fB q] 5) hG hdep 5) rfl rfl load_bytes
  ·exact step_runO hs (wants_on 2 rfl rfl (by kernel_rfl) (fun _ => rfl)) rfl fun L u W hJ hG hL hdep => run_lenP rfl (hW (IsB q) hG hdep 6) (by rw [HQ.out]; rfl)
  ·refine step_pureO hs (wants_on 2 rfl rfl (by kernel_rfl) (fun _ => rfl)) rfl fun L u W hG hdep => ⟨_, ?_, rfl⟩
   have e0 := (oE (.int .i64 32) hG hdep 7)
   go_simp
   try simp [bne]
  ·exact step_pick false hs Wn rfl rfl (fun L u W hG hdep => (oE (.bool false) hG hdep 2)) (fun L u W hG hdep => (oE (.bool false) hG hdep 8))
 intro L1 u1 W1 hall hJ hG
 have hb := hJ.all rfl
 have hbel := Below.call hbel hb
 have hw4 := (IsB []).st _ _ _ hw4 hb
 have HC9 := oC (.bool false) hG 1
 have HC10 := oC (.bool false) hG 2
 have HC16 := oC (.bool false) hG 8
 have HC17 := oC (.bool false) hG 9
 have hbel0 := hbel
 clear hJ hG hall hb
 have hx : u1 9 = .bool false := HC17.out
 go_wp2_with fail
 rw [hx]
 clear hx
 go_upto_region 3 with fail
 refine rgT [(5, 2), (12, 0), (0, 1)] [.wld (IsR ls) none, .wld (IsB l) none, .wld (IsB l) none] ?_ ?_
 ·intro hs
  refine ⟨?_, ?_, ?_, trivial⟩
  ·exact step_runP hs Wn rfl fun L u W hJ hG hL hdep => run_moveP (.inl rfl) ((IsR ls).st _ _ _ h1 (Below.call hbel (hJ.all rfl)))
  ·refine step_callP hs Wn rfl fun L u W hJ hG hL hdep K hK => ?_
   go_simp
   go_at_call 25
   (with_reducible refine (gCat (l := l) (holds_wld (φ := IsR ls) (hG 0 (hdep 0 (by kernel_rfl))) rfl till_none) (HL.out) (by have := HS.out; omega)).mono ?_); rintro e w1 ⟨r, rfl, hr, hb⟩
   exact hK.out _ _ hr hb
  ·exact step_runP hs Wn rfl fun L u W hJ hG hL hdep => run_moveP (.inr rfl) (hW (IsB l) hG hdep 1)
 intro L3 u3 W3 hall hJ hG
 have hb := hJ.all rfl
 have hbel := Below.call hbel hb
 have hw4 := (IsB []).st _ _ _ hw4 hb
 have hw5 := oW (IsB l) hG 2
 have hbel0 := hbel
 clear hJ hG hall hb
 go_upto_region 4 with fail
 refine rgT [(6, 7), (13, 0), (0, 1), (0, 2), (0, 3), (0, 4), (0, 5), (0, 6)] [.wld (StP [fNum rS [s], fB p, fB q]) (some 1), .wld (StP [fNum rS [s], fB p, fB q]) (some 2), .wld (StA [fNum rS [s], fB p, fB q] 4) (some 3), .wld (IsB p) (some 5), .wld (IsB l) (some 5), .wld (IsR [p, l]) (some 6), .val rS [wS (sha512 (p ++ l))], .new 4, .st 7 rS [wS (sha512 (p ++ l))]] ?_ ?_
 ·intro hs
  refine ⟨?_, ?_, ?_, ?_, ?_, ?_, ?_, ?_, ?_, trivial⟩
  ·exact step_runP hs Wn rfl fun L u W hJ hG hL hdep => run_moveP (.inl rfl) ((StP [fNum rS [s], fB p, fB q]).st _ _ _ h0 (Below.call hbel (hJ.all rfl)))
  ·exact step_runP hs Wn rfl fun L u W hJ hG hL hdep => run_nilchk rfl (hV (StP [fNum rS [s], fB p, fB q]) hG hdep hL 0)
  ·exact step_runP hs Wn rfl fun L u W hJ hG hL hdep => run_fieldSt rfl (hV (StP [fNum rS [s], fB p, fB q]) hG hdep hL 1) field_Signer1
  ·exact step_runP hs Wn rfl fun L u W hJ hG hL hdep => run_loadWp 1 rfl (hV (StA [fNum rS [s], fB p, fB q] 4) hG hdep hL 2) rfl rfl load_bytes
  ·exact step_runP hs Wn rfl fun L u W hJ hG hL hdep => run_moveP (.inl rfl) ((IsB l).st _ _ _ hw5 (hJ.all rfl))
  ·exact step_runP hs Wn rfl fun L u W hJ hG hL hdep => run_rows2 rfl (hV (IsB p) hG hdep hL 3) (hV (IsB l) hG hdep hL 4)
  ·refine step_call hs Wn rfl fun L u W hJ hG hL hdep K hK => ?_
   go_simp
   go_at_call 26
   (with_reducible refine (gHash (l := (p ++ l)) (holds_wld (φ := IsR [p, l]) (hG 5 (hdep 5 (by kernel_rfl))) rfl (till_some hL)) (by simp) (by have := HS.out; (repeat rw [List.length_append]); (try rw [encP_len]); (try rw [leB_len]); (try rw [HP.out]); (try rw [HQ.out]); omega)).mono ?_); rintro e w1 ⟨r, rfl, hr, hb⟩
   exact hK.out _ _ hr hb
  ·exact step_alloc hs Wn rfl rfl (by omega) rfl allocS
  ·exact step_store 7 hs (by kernel_rfl) Wn rfl rfl rfl (by kernel_rfl) (by kernel_rfl) (by kernel_rfl) (by kernel_rfl) (fun _ => rfl) (gO 6) tyS rfl
 intro L4 u4 W4 hall hJ hG
 obtain ⟨q6, e6, hq6, _, ht6⟩ := oN 4 hG 7
 have hm6 := oS rS [wS (sha512 (p ++ l))] hG 8 e6
 have hq6 : w.heap.size ≤ q6 := by have := hbel0.size; omega
 have E6 := Lib.hid e6; clear e6
 have hb := hJ.all rfl
 have hbel := Below.call hbel hb
 have hw4 := (IsB []).st _ _ _ hw4 hb
 have hw5 := (IsB l).st _ _ _ hw5 hb
 have hbel0 := hbel
 clear hJ hG hall hb
 go_upto_region 5 with fail
 refine rgM [(7, 4), (19, 0), (0, 1), (0, 2), (0, 3)] [.val rP [base], .val rS [wS (sha512 (p ++ l))], .val rP [Cp.mul (wS (sha512 (p ++ l))).val base], .wld (IsB (encP (Cp.mul (wS (sha512 (p ++ l))).val base))) none, .wld (IsB (encP (Cp.mul (wS (sha512 (p ++ l))).val base))) none] ?_ ?_
 ·intro hs
  refine ⟨?_, ?_, ?_, ?_, ?_, trivial⟩
  ·refine step_call hs Wn rfl fun L u W hJ hG hL hdep K hK => ?_
   go_simp
   go_at_call 22
   (with_reducible refine (cBase _).mono ?_); rintro e w1 ⟨r, rfl, hr, hb⟩
   exact hK.out _ _ hr hb
  ·exact step_load q6 0 hs Wn rfl rfl tyS (fun _ => E6.out) hm6.lt hm6 Na
  ·refine step_call hs Wn rfl fun L u W hJ hG hL hdep K hK => ?_
   have a0 := (vE rP [base] hG hdep 0)
   have a1 := (vE rS [wS (sha512 (p ++ l))] hG hdep 1)
   go_simp
   go_at_call 23
   (with_reducible refine (cMult rfl a0 a1 _).mono ?_); rintro e w1 ⟨r, rfl, hr, hb⟩
   exact hK.out _ _ hr hb
  ·refine step_callP hs Wn rfl fun L u W hJ hG hL hdep K hK => ?_
   have a0 := (vE rP [Cp.mul (wS (sha512 (p ++ l))).val base] hG hdep 2)
   go_simp
   go_at_call 24
   (with_reducible refine (gEncode a0 _).mono ?_); rintro e w1 ⟨r, rfl, hr, hb⟩
   exact hK.out _ _ hr hb
  ·exact step_runP hs Wn rfl fun L u W hJ hG hL hdep => run_moveP (.inr rfl) (hW (IsB (encP (Cp.mul (wS (sha512 (p ++ l))).val base))) hG hdep 3)
 intro L5 u5 W5 hall hJ hG
 have hb := hJ.all rfl
 have hbel := Below.call hbel hb
 have hm6 := hm6.later hb
 have hw4 := (IsB []).st _ _ _ hw4 hb
 have hw5 := (IsB l).st _ _ _ hw5 hb
 have hw7 := oW (IsB (encP (Cp.mul (wS (sha512 (p ++ l))).val base))) hG 4
 have hbel0 := hbel
 clear hJ hG hall hb
 go_upto_region 6 with fail
 refine rgM [(4, 19), (26, 0), (0, 1), (0, 2), (0, 3), (0, 4), (0, 5), (0, 6), (0, 7), (0, 8), (0, 9), (0, 10), (0, 11), (0, 12), (0, 13), (0, 14), (0, 15), (0, 16), (0, 17), (0, 18)] [.wld (IsB (encP (Cp.mul (wS (sha512 (p ++ l))).val base))) none, .val rS [wS (sha512 (p ++ l))], .wld (IsB (encP (Cp.mul (wS (sha512 (p ++ l))).val base))) none, .wld (StP [fNum rS [s], fB p, fB q]) none, .wld (StP [fNum rS [s], fB p, fB q]) none, .wld (StA [fNum rS [s], fB p, fB q] 5) none, .wld (IsB q) none, .wld (IsB l) none, .wld (IsR [encP (Cp.mul (wS (sha512 (p ++ l))).val base), q, l]) none, .val rS [wS (sha512 ((encP (Cp.mul (wS (sha512 (p ++ l))).val base)) ++ (q ++ l)))], .wld (StP [fNum rS [s], fB p, fB q]) none, .wld (StP [fNum rS [s], fB p, fB q]) none, .wld (StA [fNum rS [s], fB p, fB q] 0) none, .val rS [s], .val rS [dM (wS (sha512 ((encP (Cp.mul (wS (sha512 (p ++ l))).val base)) ++ (q ++ l)))) s], .val rS [dA (wS (sha512 (p ++ l))) (dM (wS (sha512 ((encP (Cp.mul (wS (sha512 (p ++ l))).val base)) ++ (q ++ l)))) s)], .wld (IsB (leB 32 (dA (wS (sha512 (p ++ l))) (dM (wS (sha512 ((encP (Cp.mul (wS (sha512 (p ++ l))).val base)) ++ (q ++ l)))) s)).val)) none, .wld (IsR [encP (Cp.mul (wS (sha512 (p ++ l))).val base), leB 32 (dA (wS (sha512 (p ++ l))) (dM (wS (sha512 ((encP (Cp.mul (wS (sha512 (p ++ l))).val base)) ++ (q ++ l)))) s)).val]) none, .wld (IsB ((encP (Cp.mul (wS (sha512 (p ++ l))).val base)) ++ (leB 32 (dA (wS (sha512 (p ++ l))) (dM (wS (sha512 ((encP (Cp.mul (wS (sha512 (p ++ l))).val base)) ++ (q ++ l)))) s)).val))) none, .wld (IsB ((encP (Cp.mul (wS (sha512 (p ++ l))).val base)) ++ (leB 32 (dA (wS (sha512 (p ++ l))) (dM (wS (sha512 ((encP (Cp.mul (wS (sha512 (p ++ l))).val base)) ++ (q ++ l)))) s)).val))) none] ?_ ?_
 ·intro hs
  refine ⟨?_, ?_, ?_, ?_, ?_, ?_, ?_, ?_, ?_, ?_, ?_, ?_, ?_, ?_, ?_, ?_, ?_, ?_, ?_, ?_, trivial⟩
  ·exact step_runP hs Wn rfl fun L u W hJ hG hL hdep => run_moveP (.inl rfl) ((IsB (encP (Cp.mul (wS (sha512 (p ++ l))).val base))).st _ _ _ hw7 (hJ.all rfl))
  ·exact step_load q6 0 hs Wn rfl rfl tyS (fun _ => E6.out) hm6.lt hm6 Na
  ·exact step_runP hs Wn rfl fun L u W hJ hG hL hdep => run_moveP (.inl rfl) ((IsB (encP (Cp.mul (wS (sha512 (p ++ l))).val base))).st _ _ _ hw7 (hJ.all rfl))
  ·exact step_runP hs Wn rfl fun L u W hJ hG hL hdep => run_moveP (.inl rfl) ((StP [fNum rS [s], fB p, fB q]).st _ _ _ h0 (Below.call hbel (hJ.all rfl)))
  ·exact step_runP hs Wn rfl fun L u W hJ hG hL hdep => run_nilchk rfl (hW (StP [fNum rS [s], fB p, fB q]) hG hdep 3)
  ·exact step_runP hs Wn rfl fun L u W hJ hG hL hdep => run_fieldSt rfl (hW (StP [fNum rS [s], fB p, fB q]) hG hdep 4) field_Signer2
  ·exact step_runP hs Wn rfl fun L u W hJ hG hL hdep => run_loadWp 2 rfl (hW (StA [fNum rS [s], fB p, fB q] 5) hG hdep 5) rfl rfl load_bytes
  ·exact step_runP hs Wn rfl fun L u W hJ hG hL hdep => run_moveP (.inl rfl) ((IsB l).st _ _ _ hw5 (hJ.all rfl))
  ·exact step_runP hs Wn rfl fun L u W hJ hG hL hdep => run_rows3 rfl (hW (IsB (encP (Cp.mul (wS (sha512 (p ++ l))).val base))) hG hdep 2) (hW (IsB q) hG hdep 6) (hW (IsB l) hG hdep 7)
  ·refine step_call hs Wn rfl fun L u W hJ hG hL hdep K hK => ?_
   go_simp
   go_at_call 26
   (with_reducible refine (gHash (l := ((encP (Cp.mul (wS (sha512 (p ++ l))).val base)) ++ (q ++ l))) (holds_wld (φ := IsR [encP (Cp.mul (wS (sha512 (p ++ l))).val base), q, l]) (hG 8 (hdep 8 (by kernel_rfl))) rfl till_none) (by simp) (by have := HS.out; (repeat rw [List.length_append]); (try rw [encP_len]); (try rw [leB_len]); (try rw [HP.out]); (try rw [HQ.out]); omega)).mono ?_); rintro e w1 ⟨r, rfl, hr, hb⟩
   exact hK.out _ _ hr hb
  ·exact step_runP hs Wn rfl fun L u W hJ hG hL hdep => run_moveP (.inl rfl) ((StP [fNum rS [s], fB p, fB q]).st _ _ _ h0 (Below.call hbel (hJ.all rfl)))
  ·exact step_runP hs Wn rfl fun L u W hJ hG hL hdep => run_nilchk rfl (hW (StP [fNum rS [s], fB p, fB q]) hG hdep 10)
  ·exact step_runP hs Wn rfl fun L u W hJ hG hL hdep => run_fieldSt rfl (hW (StP [fNum rS [s], fB p, fB q]) hG hdep 11) field_Signer0
  ·exact step_pure hs Wn rfl fun L u W hG hdep => run_loadNum 0 rfl (hW (StA [fNum rS [s], fB p, fB q] 0) hG hdep 12) rfl rfl tyS
  ·refine step_call hs Wn rfl fun L u W hJ hG hL hdep K hK => ?_
   have a0 := (vE rS [wS (sha512 ((encP (Cp.mul (wS (sha512 (p ++ l))).val base)) ++ (q ++ l)))] hG hdep 9)
   have a1 := (vE rS [s] hG hdep 13)
   go_simp
   go_at_call 28
   (with_reducible refine (cScMul a0 a1 _).mono ?_); rintro e w1 ⟨r, rfl, hr, hb⟩
   exact hK.out _ _ hr hb
  ·refine step_call hs Wn rfl fun L u W hJ hG hL hdep K hK => ?_
   have a0 := (vE rS [wS (sha512 (p ++ l))] hG hdep 1)
   have a1 := (vE rS [dM (wS (sha512 ((encP (Cp.mul (wS (sha512 (p ++ l))).val base)) ++ (q ++ l)))) s] hG hdep 14)
   go_simp
   go_at_call 27
   (with_reducible refine (cScAdd a0 a1 _).mono ?_); rintro e w1 ⟨r, rfl, hr, hb⟩
   exact hK.out _ _ hr hb
  ·refine step_callP hs Wn rfl fun L u W hJ hG hL hdep K hK => ?_
   have a0 := (vE rS [dA (wS (sha512 (p ++ l))) (dM (wS (sha512 ((encP (Cp.mul (wS (sha512 (p ++ l))).val base)) ++ (q ++ l)))) s)] hG hdep 15)
   go_simp
   go_at_call 29
   (with_reducible refine (gScBytes a0 _).mono ?_); rintro e w1 ⟨r, rfl, hr, hb⟩
   exact hK.out _ _ hr hb
  ·exact step_runP hs Wn rfl fun L u W hJ hG hL hdep => run_rows2 rfl (hW (IsB (encP (Cp.mul (wS (sha512 (p ++ l))).val base))) hG hdep 0) (hW (IsB (leB 32 (dA (wS (sha512 (p ++ l))) (dM (wS (sha512 ((encP (Cp.mul (wS (sha512 (p ++ l))).val base)) ++ (q ++ l)))) s)).val)) hG hdep 16)
  ·refine step_callP hs Wn rfl fun L u W hJ hG hL hdep K hK => ?_
   go_simp
   go_at_call 25
   (with_reducible refine (gCat (l := ((encP (Cp.mul (wS (sha512 (p ++ l))).val base)) ++ (leB 32 (dA (wS (sha512 (p ++ l))) (dM (wS (sha512 ((encP (Cp.mul (wS (sha512 (p ++ l))).val base)) ++ (q ++ l)))) s)).val))) (holds_wld (φ := IsR [encP (Cp.mul (wS (sha512 (p ++ l))).val base), leB 32 (dA (wS (sha512 (p ++ l))) (dM (wS (sha512 ((encP (Cp.mul (wS (sha512 (p ++ l))).val base)) ++ (q ++ l)))) s)).val]) (hG 17 (hdep 17 (by kernel_rfl))) rfl till_none) (by simp) (by have := HS.out; (repeat rw [List.length_append]); (try rw [encP_len]); (try rw [leB_len]); (try rw [HP.out]); (try rw [HQ.out]); omega)).mono ?_); rintro e w1 ⟨r, rfl, hr, hb⟩
   exact hK.out _ _ hr hb
  ·exact step_runP hs Wn rfl fun L u W hJ hG hL hdep => run_moveP (.inr rfl) (hW (IsB ((encP (Cp.mul (wS (sha512 (p ++ l))).val base)) ++ (leB 32 (dA (wS (sha512 (p ++ l))) (dM (wS (sha512 ((encP (Cp.mul (wS (sha512 (p ++ l))).val base)) ++ (q ++ l)))) s)).val))) hG hdep 18)
 intro L6 u6 W6 hall hJ hG
 have hb := hJ.all rfl
 have hbel := Below.call hbel hb
 have hw4 := (IsB []).st _ _ _ hw4 hb
 have hw5 := (IsB l).st _ _ _ hw5 hb
 have hw7 := (IsB (encP (Cp.mul (wS (sha512 (p ++ l))).val base))).st _ _ _ hw7 hb
 have hw4 := oW (IsB ((encP (Cp.mul (wS (sha512 (p ++ l))).val base)) ++ (leB 32 (dA (wS (sha512 (p ++ l))) (dM (wS (sha512 ((encP (Cp.mul (wS (sha512 (p ++ l))).val base)) ++ (q ++ l)))) s)).val))) hG 19
 have hbel0 := hbel
 clear hJ hG hall hb
 go_wp2
 go_ret
 exact ⟨_, rfl, hw4, hbel⟩
set_option maxRecDepth 100000 in
set_option maxHeartbeats 400000 in
theorem sSign_nil {v : Value} (w : World) : Calls Tryz.prog 10 #[.pointer none, v] w fun e w' => e = .returned (.slice none 0 0) ∧ Below w.heap.size w w' := by
 go_enter Tryz.func10, Tryz.ntmps10
 go_wp2
 go_ret
 exact ⟨rfl, belowBy⟩
theorem gNewSigner' {v : Value} {seed : List UInt8} {w : World} (h : (IsB seed).P v w) (hl : seed.length = 32) :
  Calls Tryz.prog 9 #[v] w fun e w' => ∃ r, e = .returned r ∧ (TwV (StP [fNum rS [edA seed], fB (edP seed), fB (edPub seed)]) (.int .i64 0)).P r w' ∧ Below w.heap.size w w' :=
 (gNewSigner h hl).mono fun _ _ ⟨r, he, hr, hb⟩ => ⟨_, he, ⟨r, rfl, hr⟩, hb⟩
theorem sPublic_nilB (w : World) : Calls Tryz.prog 11 #[.pointer none] w fun e w' => e = .returned (.slice none 0 0) ∧ Below w.heap.size w w' := (sPublic_nil w).mono fun _ _ ⟨he, hw⟩ => ⟨he, by rw [← hw]; exact Below.refl _ _⟩
set_option maxRecDepth 100000 in
set_option maxHeartbeats 1000000 in
theorem gPublic {w : World} {v : Value} {seed : List UInt8} (h : (IsB seed).P v w) (hl : seed.length = 32) :
  Calls Tryz.prog 7 #[v] w fun e w' => ∃ r, e = .returned (.tuple #[r, .int .i64 0]) ∧ (IsB (edPub seed)).P r w' ∧ Below w.heap.size w w' := by
 have HL := Lib.hid hl
 clear hl
 go_enter Tryz.func7, Tryz.ntmps7
 have hbel : Below w.heap.size w w := Below.refl _ _
 have hbel0 := hbel
 go_upto_region 0 with fail
 refine rgT [(2, 0), (0, 1)] [.wld (IsB []) none, .oth (fun v => v = .int .i64 0)] ?_ ?_
 ·intro hs
  refine ⟨?_, ?_, trivial⟩
  ·exact step_runP hs Wn rfl fun L u W hJ hG hL hdep => run_moveP (.inr rfl) (IsB.nil W)
  ·exact mvK hs fun _ => rfl
 intro L0 u0 W0 hall hJ hG
 have hb := hJ.all rfl
 have hbel := Below.call hbel hb
 have hw2 := oW (IsB []) hG 0
 have HC3 := oC (.int .i64 0) hG 1
 have hbel0 := hbel
 clear hJ hG hall hb
 go_upto_region 1 with fail
 refine rgT [(4, 5), (0, 6), (0, 2), (0, 0), (0, 1), (0, 3), (0, 4)] [.wld (IsB seed) none, .wld (TwV (StP [fNum rS [edA seed], fB (edP seed), fB (edPub seed)]) (.int .i64 0)) none, .wld (TwV (StP [fNum rS [edA seed], fB (edP seed), fB (edPub seed)]) (.int .i64 0)) none, .wld (StP [fNum rS [edA seed], fB (edP seed), fB (edPub seed)]) none, .oth (fun v => v = .int .i64 0), .wld (StP [fNum rS [edA seed], fB (edP seed), fB (edPub seed)]) none, .oth (fun v => v = .int .i64 0)] ?_ ?_
 ·intro hs
  refine ⟨?_, ?_, ?_, ?_, ?_, ?_, ?_, trivial⟩
  ·exact step_runP hs Wn rfl fun L u W hJ hG hL hdep => run_moveP (.inl rfl) ((IsB seed).st _ _ _ h (Below.call hbel (hJ.all rfl)))
  ·refine step_callP hs Wn rfl fun L u W hJ hG hL hdep K hK => ?_
   go_simp
   go_at_call 9
   (with_reducible refine (gNewSigner' (holds_wld (φ := IsB seed) (hG 0 (hdep 0 (by kernel_rfl))) rfl till_none) HL.out).mono ?_); rintro e w1 ⟨r, rfl, hr, hb⟩
   exact hK.out _ _ hr hb
  ·exact step_runP hs Wn rfl fun L u W hJ hG hL hdep => run_moveP (.inl rfl) (hW (TwV (StP [fNum rS [edA seed], fB (edP seed), fB (edPub seed)]) (.int .i64 0)) hG hdep 1)
  ·exact step_runP hs Wn rfl fun L u W hJ hG hL hdep => run_tw0 rfl (hW (TwV (StP [fNum rS [edA seed], fB (edP seed), fB (edPub seed)]) (.int .i64 0)) hG hdep 2)
  ·exact step_runO hs Wn rfl fun L u W hJ hG hL hdep => run_tw1 rfl (hW (TwV (StP [fNum rS [edA seed], fB (edP seed), fB (edPub seed)]) (.int .i64 0)) hG hdep 2)
  ·exact step_runP hs Wn rfl fun L u W hJ hG hL hdep => run_moveP (.inr rfl) (hW (StP [fNum rS [edA seed], fB (edP seed), fB (edPub seed)]) hG hdep 3)
  ·exact mvO 4 hs
 intro L1 u1 W1 hall hJ hG
 have hb := hJ.all rfl
 have hbel := Below.call hbel hb
 have hw2 := (IsB []).st _ _ _ hw2 hb
 have hw4 := oW (StP [fNum rS [edA seed], fB (edP seed), fB (edPub seed)]) hG 5
 have HC5 := oC (.int .i64 0) hG 6
 have hbel0 := hbel
 clear hJ hG hall hb
 go_upto_region 2 with fail
 refine rgT [(2, 3), (0, 4), (7, 0), (0, 1), (0, 2)] [.wld (StP [fNum rS [edA seed], fB (edP seed), fB (edPub seed)]) none, .wld (IsB (edPub seed)) none, .oth (fun v => v = .int .i64 0), .wld (IsB (edPub seed)) none, .oth (fun v => v = .int .i64 0)] ?_ ?_
 ·intro hs
  refine ⟨?_, ?_, ?_, ?_, ?_, trivial⟩
  ·exact step_runP hs Wn rfl fun L u W hJ hG hL hdep => run_moveP (.inl rfl) ((StP [fNum rS [edA seed], fB (edP seed), fB (edPub seed)]).st _ _ _ hw4 (hJ.all rfl))
  ·refine step_callP hs Wn rfl fun L u W hJ hG hL hdep K hK => ?_
   go_simp
   go_at_call 11
   (with_reducible refine (gSPublic (s := edA seed) (p := edP seed) (q := edPub seed) (holds_wld (φ := StP [fNum rS [edA seed], fB (edP seed), fB (edPub seed)]) (hG 0 (hdep 0 (by kernel_rfl))) rfl till_none) (by rw [edPub_len]; omega)).mono ?_); rintro e w1 ⟨r, rfl, hr, hb⟩
   exact hK.out _ _ hr hb
  ·exact mvK hs fun _ => HC5.out
  ·exact step_runP hs Wn rfl fun L u W hJ hG hL hdep => run_moveP (.inr rfl) (hW (IsB (edPub seed)) hG hdep 1)
  ·exact mvO 2 hs
 intro L2 u2 W2 hall hJ hG
 have hb := hJ.all rfl
 have hbel := Below.call hbel hb
 have hw2 := (IsB []).st _ _ _ hw2 hb
 have hw4 := (StP [fNum rS [edA seed], fB (edP seed), fB (edPub seed)]).st _ _ _ hw4 hb
 have hw2 := oW (IsB (edPub seed)) hG 3
 have HC3 := oC (.int .i64 0) hG 4
 have hbel0 := hbel
 clear hJ hG hall hb
 go_wp2
 go_ret2
 exact ⟨_, by rw [HC3.out]; rfl, hw2, hbel⟩
set_option maxRecDepth 100000 in
set_option maxHeartbeats 1000000 in
theorem gSign {w : World} {v v1 : Value} {ls : List (List UInt8)} {l : List UInt8} {seed : List UInt8} (h : (IsB seed).P v w) (h1 : (IsR ls).P v1 w) (hls : ls.flatten = l) (hs : l.length ≤ 100000) (hl : seed.length = 32) :
  Calls Tryz.prog 8 #[v, v1] w fun e w' => ∃ r, e = .returned (.tuple #[r, .int .i64 0]) ∧ (IsB (edSign (edA seed) (edP seed) (edPub seed) l)).P r w' ∧ Below w.heap.size w w' := by
 have HL := Lib.hid hl
 have HLS := Lib.hid hls; have HS := Lib.hid hs
 clear hls hs
 clear hl
 go_enter Tryz.func8, Tryz.ntmps8
 have hbel : Below w.heap.size w w := Below.refl _ _
 have hbel0 := hbel
 go_upto_region 0 with fail
 refine rgT [(4, 0), (0, 1)] [.wld (IsB []) none, .oth (fun v => v = .int .i64 0)] ?_ ?_
 ·intro hs
  refine ⟨?_, ?_, trivial⟩
  ·exact step_runP hs Wn rfl fun L u W hJ hG hL hdep => run_moveP (.inr rfl) (IsB.nil W)
  ·exact mvK hs fun _ => rfl
 intro L0 u0 W0 hall hJ hG
 have hb := hJ.all rfl
 have hbel := Below.call hbel hb
 have hw4 := oW (IsB []) hG 0
 have HC5 := oC (.int .i64 0) hG 1
 have hbel0 := hbel
 clear hJ hG hall hb
 go_upto_region 1 with fail
 refine rgT [(6, 5), (0, 6), (0, 2), (0, 0), (0, 1), (0, 3), (0, 4)] [.wld (IsB seed) none, .wld (TwV (StP [fNum rS [edA seed], fB (edP seed), fB (edPub seed)]) (.int .i64 0)) none, .wld (TwV (StP [fNum rS [edA seed], fB (edP seed), fB (edPub seed)]) (.int .i64 0)) none, .wld (StP [fNum rS [edA seed], fB (edP seed), fB (edPub seed)]) none, .oth (fun v => v = .int .i64 0), .wld (StP [fNum rS [edA seed], fB (edP seed), fB (edPub seed)]) none, .oth (fun v => v = .int .i64 0)] ?_ ?_
 ·intro hs
  refine ⟨?_, ?_, ?_, ?_, ?_, ?_, ?_, trivial⟩
  ·exact step_runP hs Wn rfl fun L u W hJ hG hL hdep => run_moveP (.inl rfl) ((IsB seed).st _ _ _ h (Below.call hbel (hJ.all rfl)))
  ·refine step_callP hs Wn rfl fun L u W hJ hG hL hdep K hK => ?_
   go_simp
   go_at_call 9
   (with_reducible refine (gNewSigner' (holds_wld (φ := IsB seed) (hG 0 (hdep 0 (by kernel_rfl))) rfl till_none) HL.out).mono ?_); rintro e w1 ⟨r, rfl, hr, hb⟩
   exact hK.out _ _ hr hb
  ·exact step_runP hs Wn rfl fun L u W hJ hG hL hdep => run_moveP (.inl rfl) (hW (TwV (StP [fNum rS [edA seed], fB (edP seed), fB (edPub seed)]) (.int .i64 0)) hG hdep 1)
  ·exact step_runP hs Wn rfl fun L u W hJ hG hL hdep => run_tw0 rfl (hW (TwV (StP [fNum rS [edA seed], fB (edP seed), fB (edPub seed)]) (.int .i64 0)) hG hdep 2)
  ·exact step_runO hs Wn rfl fun L u W hJ hG hL hdep => run_tw1 rfl (hW (TwV (StP [fNum rS [edA seed], fB (edP seed), fB (edPub seed)]) (.int .i64 0)) hG hdep 2)
  ·exact step_runP hs Wn rfl fun L u W hJ hG hL hdep => run_moveP (.inr rfl) (hW (StP [fNum rS [edA seed], fB (edP seed), fB (edPub seed)]) hG hdep 3)
  ·exact mvO 4 hs
 intro L1 u1 W1 hall hJ hG
 have hb := hJ.all rfl
 have hbel := Below.call hbel hb
 have hw4 := (IsB []).st _ _ _ hw4 hb
 have hw6 := oW (StP [fNum rS [edA seed], fB (edP seed), fB (edPub seed)]) hG 5
 have HC7 := oC (.int .i64 0) hG 6
 have hbel0 := hbel
 clear hJ hG hall hb
 go_upto_region 2 with fail
 refine rgT [(4, 4), (0, 5), (7, 0), (0, 1), (0, 2), (0, 3)] [.wld (StP [fNum rS [edA seed], fB (edP seed), fB (edPub seed)]) none, .wld (IsR ls) none, .wld (IsB (edSign (edA seed) (edP seed) (edPub seed) l)) none, .oth (fun v => v = .int .i64 0), .wld (IsB (edSign (edA seed) (edP seed) (edPub seed) l)) none, .oth (fun v => v = .int .i64 0)] ?_ ?_
 ·intro hs
  refine ⟨?_, ?_, ?_, ?_, ?_, ?_, trivial⟩
  ·exact step_runP hs Wn rfl fun L u W hJ hG hL hdep => run_moveP (.inl rfl) ((StP [fNum rS [edA seed], fB (edP seed), fB (edPub seed)]).st _ _ _ hw6 (hJ.all rfl))
  ·exact step_runP hs Wn rfl fun L u W hJ hG hL hdep => run_moveP (.inl rfl) ((IsR ls).st _ _ _ h1 (Below.call hbel (hJ.all rfl)))
  ·refine step_callP hs Wn rfl fun L u W hJ hG hL hdep K hK => ?_
   go_simp
   go_at_call 10
   (with_reducible refine (gSSign (s := edA seed) (p := edP seed) (q := edPub seed) (l := l) (holds_wld (φ := StP [fNum rS [edA seed], fB (edP seed), fB (edPub seed)]) (hG 0 (hdep 0 (by kernel_rfl))) rfl till_none) (holds_wld (φ := IsR ls) (hG 1 (hdep 1 (by kernel_rfl))) rfl till_none) HLS.out HS.out (edP_len _) (edPub_len _)).mono ?_); rintro e w1 ⟨r, rfl, hr, hb⟩
   exact hK.out _ _ hr hb
  ·exact mvK hs fun _ => HC7.out
  ·exact step_runP hs Wn rfl fun L u W hJ hG hL hdep => run_moveP (.inr rfl) (hW (IsB (edSign (edA seed) (edP seed) (edPub seed) l)) hG hdep 2)
  ·exact mvO 3 hs
 intro L2 u2 W2 hall hJ hG
 have hb := hJ.all rfl
 have hbel := Below.call hbel hb
 have hw4 := (IsB []).st _ _ _ hw4 hb
 have hw6 := (StP [fNum rS [edA seed], fB (edP seed), fB (edPub seed)]).st _ _ _ hw6 hb
 have hw4 := oW (IsB (edSign (edA seed) (edP seed) (edPub seed) l)) hG 4
 have HC5 := oC (.int .i64 0) hG 5
 have hbel0 := hbel
 clear hJ hG hall hb
 go_wp2
 go_ret2
 exact ⟨_, by rw [HC5.out]; rfl, hw4, hbel⟩
set_option maxRecDepth 100000 in
set_option maxHeartbeats 1000000 in
theorem gPublic_no {w : World} {v : Value} {seed : List UInt8} {N : Nat} (h : (IsB seed).P v w) (hl : seed.length = N) (hn : N ≠ 32) :
  Calls Tryz.prog 7 #[v] w fun e w' => e = .returned (.tuple #[.slice none 0 0, .int .i64 1]) ∧ Below w.heap.size w w' := by
 have HL := Lib.hid hl
 have HN := Lib.hid hn
 clear hn
 clear hl
 go_enter Tryz.func7, Tryz.ntmps7
 have hbel : Below w.heap.size w w := Below.refl _ _
 have hbel0 := hbel
 go_upto_region 0 with fail
 refine rgT [(2, 0), (0, 1)] [.wld (IsB []) none, .oth (fun v => v = .int .i64 0)] ?_ ?_
 ·intro hs
  refine ⟨?_, ?_, trivial⟩
  ·exact step_runP hs Wn rfl fun L u W hJ hG hL hdep => run_moveP (.inr rfl) (IsB.nil W)
  ·exact mvK hs fun _ => rfl
 intro L0 u0 W0 hall hJ hG
 have hb := hJ.all rfl
 have hbel := Below.call hbel hb
 have hw2 := oW (IsB []) hG 0
 have HC3 := oC (.int .i64 0) hG 1
 have hbel0 := hbel
 clear hJ hG hall hb
 go_upto_region 1 with fail
 refine rgT [(4, 5), (0, 6), (0, 2), (0, 0), (0, 1), (0, 3), (0, 4)] [.wld (IsB seed) none, .oth (fun v => v = .tuple #[.pointer none, .int .i64 1]), .oth (fun v => v = .tuple #[.pointer none, .int .i64 1]), .oth (fun v => v = .pointer none), .oth (fun v => v = .int .i64 1), .oth (fun v => v = .pointer none), .oth (fun v => v = .int .i64 1)] ?_ ?_
 ·intro hs
  refine ⟨?_, ?_, ?_, ?_, ?_, ?_, ?_, trivial⟩
  ·exact step_runP hs Wn rfl fun L u W hJ hG hL hdep => run_moveP (.inl rfl) ((IsB seed).st _ _ _ h (Below.call hbel (hJ.all rfl)))
  ·refine step_callO hs Wn rfl fun L u W hJ hG hL hdep K hK => ?_
   go_simp
   go_at_call 9
   (with_reducible refine (newSigner_no (holds_wld (φ := IsB seed) (hG 0 (hdep 0 (by kernel_rfl))) rfl till_none) HL.out HN.out).mono ?_); rintro e w1 ⟨rfl, hb⟩
   exact hK.out _ _ rfl hb
  ·exact mvO 1 hs
  ·refine step_pureO hs Wn rfl fun L u W hG hdep => ⟨_, ?_, rfl⟩
   have e0 := (oE (.tuple #[.pointer none, .int .i64 1]) hG hdep 2)
   unfold execOp
   go_simp
  ·refine step_pureO hs Wn rfl fun L u W hG hdep => ⟨_, ?_, rfl⟩
   have e0 := (oE (.tuple #[.pointer none, .int .i64 1]) hG hdep 2)
   unfold execOp
   go_simp
  ·exact mvO 3 hs
  ·exact mvO 4 hs
 intro L1 u1 W1 hall hJ hG
 have hb := hJ.all rfl
 have hbel := Below.call hbel hb
 have hw2 := (IsB []).st _ _ _ hw2 hb
 have HC4 := oC (.pointer none) hG 5
 have HC5 := oC (.int .i64 1) hG 6
 have hbel0 := hbel
 clear hJ hG hall hb
 go_upto_region 2 with fail
 refine rgT [(2, 3), (0, 4), (7, 0), (0, 1), (0, 2)] [.oth (fun v => v = .pointer none), .oth (fun v => v = .slice none 0 0), .oth (fun v => v = .int .i64 1), .oth (fun v => v = .slice none 0 0), .oth (fun v => v = .int .i64 1)] ?_ ?_
 ·intro hs
  refine ⟨?_, ?_, ?_, ?_, ?_, trivial⟩
  ·exact mvK hs fun _ => HC4.out
  ·refine step_callO hs Wn rfl fun L u W hJ hG hL hdep K hK => ?_
   have x0 := (oE (.pointer none) hG hdep 0)
   go_simp
   go_at_call 11
   (with_reducible refine (sPublic_nilB _).mono ?_); rintro e w1 ⟨rfl, hb⟩
   have hk := hK.out _ _ rfl hb
   simp only [x0] at hk
   exact hk
  ·exact mvK hs fun _ => HC5.out
  ·exact mvO 1 hs
  ·exact mvO 2 hs
 intro L2 u2 W2 hall hJ hG
 have hb := hJ.all rfl
 have hbel := Below.call hbel hb
 have hw2 := (IsB []).st _ _ _ hw2 hb
 have HC2 := oC (.slice none 0 0) hG 3
 have HC3 := oC (.int .i64 1) hG 4
 have hbel0 := hbel
 clear hJ hG hall hb
 go_wp2
 go_ret2
 exact ⟨by rw [HC2.out, HC3.out]; rfl, hbel⟩
set_option maxRecDepth 100000 in
set_option maxHeartbeats 1000000 in
theorem gSign_no {w : World} {v v1 : Value} {ls : List (List UInt8)} {l : List UInt8} {seed : List UInt8} {N : Nat} (h : (IsB seed).P v w) (h1 : (IsR ls).P v1 w) (hls : ls.flatten = l) (hs : l.length ≤ 100000) (hl : seed.length = N) (hn : N ≠ 32) :
  Calls Tryz.prog 8 #[v, v1] w fun e w' => e = .returned (.tuple #[.slice none 0 0, .int .i64 1]) ∧ Below w.heap.size w w' := by
 have HL := Lib.hid hl
 have HN := Lib.hid hn
 clear hn
 have HLS := Lib.hid hls; have HS := Lib.hid hs
 clear hls hs
 clear hl
 go_enter Tryz.func8, Tryz.ntmps8
 have hbel : Below w.heap.size w w := Below.refl _ _
 have hbel0 := hbel
 go_upto_region 0 with fail
 refine rgT [(4, 0), (0, 1)] [.wld (IsB []) none, .oth (fun v => v = .int .i64 0)] ?_ ?_
 ·intro hs
  refine ⟨?_, ?_, trivial⟩
  ·exact step_runP hs Wn rfl fun L u W hJ hG hL hdep => run_moveP (.inr rfl) (IsB.nil W)
  ·exact mvK hs fun _ => rfl
 intro L0 u0 W0 hall hJ hG
 have hb := hJ.all rfl
 have hbel := Below.call hbel hb
 have hw4 := oW (IsB []) hG 0
 have HC5 := oC (.int .i64 0) hG 1
 have hbel0 := hbel
 clear hJ hG hall hb
 go_upto_region 1 with fail
 refine rgT [(6, 5), (0, 6), (0, 2), (0, 0), (0, 1), (0, 3), (0, 4)] [.wld (IsB seed) none, .oth (fun v => v = .tuple #[.pointer none, .int .i64 1]), .oth (fun v => v = .tuple #[.pointer none, .int .i64 1]), .oth (fun v => v = .pointer none), .oth (fun v => v = .int .i64 1), .oth (fun v => v = .pointer none), .oth (fun v => v = .int .i64 1)] ?_ ?_
 ·intro hs
  refine ⟨?_, ?_, ?_, ?_, ?_, ?_, ?_, trivial⟩
  ·exact step_runP hs Wn rfl fun L u W hJ hG hL hdep => run_moveP (.inl rfl) ((IsB seed).st _ _ _ h (Below.call hbel (hJ.all rfl)))
  ·refine step_callO hs Wn rfl fun L u W hJ hG hL hdep K hK => ?_
   go_simp
   go_at_call 9
   (with_reducible refine (newSigner_no (holds_wld (φ := IsB seed) (hG 0 (hdep 0 (by kernel_rfl))) rfl till_none) HL.out HN.out).mono ?_); rintro e w1 ⟨rfl, hb⟩
   exact hK.out _ _ rfl hb
  ·exact mvO 1 hs
  ·refine step_pureO hs Wn rfl fun L u W hG hdep => ⟨_, ?_, rfl⟩
   have e0 := (oE (.tuple #[.pointer none, .int .i64 1]) hG hdep 2)
   unfold execOp
   go_simp
  ·refine step_pureO hs Wn rfl fun L u W hG hdep => ⟨_, ?_, rfl⟩
   have e0 := (oE (.tuple #[.pointer none, .int .i64 1]) hG hdep 2)
   unfold execOp
   go_simp
  ·exact mvO 3 hs
  ·exact mvO 4 hs
 intro L1 u1 W1 hall hJ hG
 have hb := hJ.all rfl
 have hbel := Below.call hbel hb
 have hw4 := (IsB []).st _ _ _ hw4 hb
 have HC6 := oC (.pointer none) hG 5
 have HC7 := oC (.int .i64 1) hG 6
 have hbel0 := hbel
 clear hJ hG hall hb
 go_upto_region 2 with fail
 refine rgT [(4, 4), (0, 5), (7, 0), (0, 1), (0, 2), (0, 3)] [.oth (fun v => v = .pointer none), .wld (IsR ls) none, .oth (fun v => v = .slice none 0 0), .oth (fun v => v = .int .i64 1), .oth (fun v => v = .slice none 0 0), .oth (fun v => v = .int .i64 1)] ?_ ?_
 ·intro hs
  refine ⟨?_, ?_, ?_, ?_, ?_, ?_, trivial⟩
  ·exact mvK hs fun _ => HC6.out
  ·exact step_runP hs Wn rfl fun L u W hJ hG hL hdep => run_moveP (.inl rfl) ((IsR ls).st _ _ _ h1 (Below.call hbel (hJ.all rfl)))
  ·refine step_callO hs Wn rfl fun L u W hJ hG hL hdep K hK => ?_
   have x0 := (oE (.pointer none) hG hdep 0)
   go_simp
   go_at_call 10
   (with_reducible refine (sSign_nil _).mono ?_); rintro e w1 ⟨rfl, hb⟩
   have hk := hK.out _ _ rfl hb
   simp only [x0] at hk
   exact hk
  ·exact mvK hs fun _ => HC7.out
  ·exact mvO 2 hs
  ·exact mvO 3 hs
 intro L2 u2 W2 hall hJ hG
 have hb := hJ.all rfl
 have hbel := Below.call hbel hb
 have hw4 := (IsB []).st _ _ _ hw4 hb
 have HC4 := oC (.slice none 0 0) hG 4
 have HC5 := oC (.int .i64 1) hG 5
 have hbel0 := hbel
 clear hJ hG hall hb
 go_wp2
 go_ret2
 exact ⟨by rw [HC4.out, HC5.out]; rfl, hbel⟩
end Go.Proofs.YtielgpefoameiaaGreat
namespace Go.Proofs.YtielgpefoameiaaGreat
open Go Go.RowKit
end Go.Proofs.YtielgpefoameiaaGreat
namespace Go.Proofs.YtielgpefoameiaaGreat
open Go.RowKit
end Go.Proofs.YtielgpefoameiaaGreat
namespace Go.Proofs.YtielgpefoameiaaGreat
open Go Go.RowKit
end Go.Proofs.YtielgpefoameiaaGreat
namespace Go.Proofs.YtielgpefoameiaaGreat
open Go Go.RowKit
theorem sc_256 {x : F} (h : x.val < Lq) : x.val / 2 ^ 256 = 0 := Nat.div_eq_of_lt (Nat.lt_trans h (by decide +kernel))
set_option maxRecDepth 100000 in
set_option maxHeartbeats 4000000 in
theorem kZero  (w : World) :
  Calls Tryz.prog 82 #[] w fun e w' => ∃ r, e = .returned r ∧ IsFs rQ r [Cp.zero] ∧ Below w.heap.size w w' := by
 go_enter Tryz.func82, Tryz.ntmps82
 have hbel : Below w.heap.size w w := Below.refl _ _
 have hbel0 := hbel
 go_upto_region 0 with fail
 refine rgT [(0, 0)] [.new 48] ?_ ?_
 ·intro hs
  refine ⟨?_, trivial⟩
  ·exact step_alloc hs Wn rfl rfl (by omega) rfl allocPt
 intro L0 u0 W0 hall hJ hG
 obtain ⟨q0, e0, hq0, _, ht0⟩ := oN 48 hG 0
 have hq0 : w.heap.size ≤ q0 := by have := hbel0.size; omega
 have E0 := Lib.hid e0; clear e0
 have hb := hJ.all rfl
 have hbel := Below.call hbel hb
 have hbel0 := hbel
 clear hJ hG hall hb
 go_upto_region 1 with fail
 refine rgT [(1, 0), (0, 1), (0, 2)] [.val rR [fn 1], .val rR [fn 1], .val rR [0, fn 1, fn 1], .sto q0 rR [0, fn 1, fn 1]] ?_ ?_
 ·intro hs
  refine ⟨?_, ?_, ?_, ?_, trivial⟩
  ·refine step_call hs Wn rfl fun L u W hJ hG hL hdep K hK => ?_
   go_simp
   go_at_call 77
   (with_reducible refine (kSmallI (n := 1) (z := 1) rfl (by omega) _).mono ?_); rintro e w1 ⟨r, rfl, hr, hb⟩
   exact hK.out _ _ hr hb
  ·refine step_call hs Wn rfl fun L u W hJ hG hL hdep K hK => ?_
   go_simp
   go_at_call 77
   (with_reducible refine (kSmallI (n := 1) (z := 1) rfl (by omega) _).mono ?_); rintro e w1 ⟨r, rfl, hr, hb⟩
   exact hK.out _ _ hr hb
  ·refine step_pure hs Wn rfl fun L u W hG hdep => ?_
   have a0 := (vE rR [fn 1] hG hdep 0)
   have a1 := (vE rR [fn 1] hG hdep 1)
   obtain ⟨r, hr, hx⟩ := build_Pt12 a0 a1 W
   exact ⟨r, run_build12 rfl hr, hx⟩
  ·refine step_storeO q0 48 hs Wn rfl rfl (by kernel_rfl) (fun k hk => ?_) (fun _ => E0.out) (there_lt ht0 (by omega)) ht0 (gO 2) tyPt3 rfl
   rcases k with _ | _ | _ | _ | k
   all_goals first | (exact absurd rfl hk) | (intro e; cases e; done)
 intro L1 u1 W1 hall hJ hG
 have hb := hJ.beN hbel
 have hbel := hbel.trans hb
 obtain ⟨_, hs1_3t, hs1_3⟩ := oT 48 rR [0, fn 1, fn 1] hG 3
 have hbel0 := hbel
 clear hJ hG hall hb
 go_wp2
 exact ret_cell1 (R := rR) Tryz.results82 (by exact E0.out) hs1_3 tyPt3 rfl (fun r hr => ⟨r, rfl, isQ hr Prep.zero, hbel⟩)
set_option maxRecDepth 100000 in
set_option maxHeartbeats 4000000 in
theorem q_d_any  (w : World) :
  Calls Tryz.prog 81 #[] w fun e w' => ∃ r, e = .returned r ∧ IsFs rR r [-fn 121665 * finv (fn 121666)] ∧ Below w.heap.size w w' := by
 go_enter Tryz.func81, Tryz.ntmps81
 have hbel : Below w.heap.size w w := Below.refl _ _
 have hbel0 := hbel
 go_upto_region 0 with fail
 refine rgT [(0, 0)] [.new 16] ?_ ?_
 ·intro hs
  refine ⟨?_, trivial⟩
  ·exact step_alloc hs Wn rfl rfl (by omega) rfl allocFe
 intro L0 u0 W0 hall hJ hG
 obtain ⟨q0, e0, hq0, _, ht0⟩ := oN 16 hG 0
 have hq0 : w.heap.size ≤ q0 := by have := hbel0.size; omega
 have E0 := Lib.hid e0; clear e0
 have hb := hJ.all rfl
 have hbel := Below.call hbel hb
 have hbel0 := hbel
 clear hJ hG hall hb
 go_upto_region 1 with fail
 refine rgT [(1, 0), (0, 1), (0, 2), (0, 3), (0, 4)] [.val rR [fn 121665], .val rR [-(fn 121665)], .val rR [fn 121666], .val rR [finv (fn 121666)], .val rR [(-(fn 121665)) * (finv (fn 121666))], .sto q0 rR [(-(fn 121665)) * (finv (fn 121666))]] ?_ ?_
 ·intro hs
  refine ⟨?_, ?_, ?_, ?_, ?_, ?_, trivial⟩
  ·refine step_call hs Wn rfl fun L u W hJ hG hL hdep K hK => ?_
   go_simp
   go_at_call 77
   (with_reducible refine (kSmallI (n := 121665) (z := 121665) rfl (by omega) _).mono ?_); rintro e w1 ⟨r, rfl, hr, hb⟩
   exact hK.out _ _ hr hb
  ·refine step_call hs Wn rfl fun L u W hJ hG hL hdep K hK => ?_
   have a0 := (vE rR [fn 121665] hG hdep 0)
   go_simp
   go_at_call 104
   (with_reducible refine (kNeg a0 _).mono ?_); rintro e w1 ⟨r, rfl, hr, hb⟩
   exact hK.out _ _ hr hb
  ·refine step_call hs Wn rfl fun L u W hJ hG hL hdep K hK => ?_
   go_simp
   go_at_call 77
   (with_reducible refine (kSmallI (n := 121666) (z := 121666) rfl (by omega) _).mono ?_); rintro e w1 ⟨r, rfl, hr, hb⟩
   exact hK.out _ _ hr hb
  ·refine step_call hs Wn rfl fun L u W hJ hG hL hdep K hK => ?_
   have a0 := (vE rR [fn 121666] hG hdep 2)
   go_simp
   go_at_call 79
   (with_reducible refine (kInv a0 _).mono ?_); rintro e w1 ⟨r, rfl, hr, hb⟩
   exact hK.out _ _ hr hb
  ·refine step_call hs Wn rfl fun L u W hJ hG hL hdep K hK => ?_
   have a0 := (vE rR [-(fn 121665)] hG hdep 1)
   have a1 := (vE rR [finv (fn 121666)] hG hdep 3)
   go_simp
   go_at_call 78
   (with_reducible refine (kMul a0 a1 _).mono ?_); rintro e w1 ⟨r, rfl, hr, hb⟩
   exact hK.out _ _ hr hb
  ·refine step_storeO q0 16 hs Wn rfl rfl (by kernel_rfl) (fun k hk => ?_) (fun _ => E0.out) (there_lt ht0 (by omega)) ht0 (gO 4) tyFe rfl
   rcases k with _ | _ | _ | _ | _ | _ | k
   all_goals first | (exact absurd rfl hk) | (intro e; cases e; done)
 intro L1 u1 W1 hall hJ hG
 have hb := hJ.beN hbel
 have hbel := hbel.trans hb
 obtain ⟨_, hs1_5t, hs1_5⟩ := oT 16 rR [(-(fn 121665)) * (finv (fn 121666))] hG 5
 have hbel0 := hbel
 clear hJ hG hall hb
 go_wp2
 exact ret_cell1 (R := rR) Tryz.results81 (by exact E0.out) hs1_5 tyFe rfl (fun r hr => ⟨r, rfl, hr, hbel⟩)
theorem kCurve (w : World) : Calls Tryz.prog 81 #[] w fun e w' => ∃ r, e = .returned r ∧ IsFs rR r [dE] ∧ Below w.heap.size w w' := by
 have h := q_d_any w
 rw [d_is] at h
 exact h
set_option maxRecDepth 100000 in
set_option maxHeartbeats 4000000 in
theorem q_add_any {v0 v1 v2 : Value} {X Y Z X' Y' Z' D : F} (h0 : IsFs rR v0 [X, Y, Z]) (h1 : IsFs rR v1 [X', Y', Z']) (h2 : IsFs rR v2 [D]) (w : World) :
  Calls Tryz.prog 83 #[v0, v1, v2] w fun e w' => ∃ r, e = .returned r ∧ IsFs rR r [((Z * Z') * (((Z * Z') * (Z * Z')) - (D * ((X * X') * (Y * Y'))))) * ((X * Y') + (X' * Y)), ((Z * Z') * (((Z * Z') * (Z * Z')) + (D * ((X * X') * (Y * Y'))))) * ((Y * Y') + (X * X')), (((Z * Z') * (Z * Z')) - (D * ((X * X') * (Y * Y')))) * (((Z * Z') * (Z * Z')) + (D * ((X * X') * (Y * Y'))))] ∧ Below w.heap.size w w' := by
 go_enter Tryz.func83, Tryz.ntmps83
 have hbel : Below w.heap.size w w := Below.refl _ _
 have hbel0 := hbel
 go_upto_region 0 with fail
 refine rgT [(3, 0), (0, 1), (0, 2), (0, 3)] [.box rR [X, Y, Z], .box rR [X', Y', Z'], .box rR [D], .new 48] ?_ ?_
 ·intro hs
  refine ⟨?_, ?_, ?_, ?_, trivial⟩
  ·exact step_box hs Wn rfl rfl (gives_c h0 (fun _ => rfl))
  ·exact step_box hs Wn rfl rfl (gives_c h1 (fun _ => rfl))
  ·exact step_box hs Wn rfl rfl (gives_c h2 (fun _ => rfl))
  ·exact step_alloc hs Wn rfl rfl (by omega) rfl allocPt
 intro L0 u0 W0 hall hJ hG
 obtain ⟨q3, e3, ⟨hq3, _⟩, ht3, hm3⟩ := oB 48 rR [X, Y, Z] hG 0
 have hq3 : w.heap.size ≤ q3 := by have := hbel0.size; omega
 have E3 := Lib.hid e3; clear e3
 obtain ⟨q4, e4, ⟨hq4, _⟩, ht4, hm4⟩ := oB 48 rR [X', Y', Z'] hG 1
 have hq4 : w.heap.size ≤ q4 := by have := hbel0.size; omega
 have E4 := Lib.hid e4; clear e4
 obtain ⟨q5, e5, ⟨hq5, _⟩, ht5, hm5⟩ := oB 16 rR [D] hG 2
 have hq5 : w.heap.size ≤ q5 := by have := hbel0.size; omega
 have E5 := Lib.hid e5; clear e5
 obtain ⟨q6, e6, hq6, _, ht6⟩ := oN 48 hG 3
 have hq6 : w.heap.size ≤ q6 := by have := hbel0.size; omega
 have E6 := Lib.hid e6; clear e6
 have hb := hJ.all rfl
 have hbel := Below.call hbel hb
 have HN3_6 := Lib.hid (show q3 ≠ q6 from fun e => hJ.apart 0 3 _ (by omega) (hall _ (by simp)) (hall _ (by simp)) rfl rfl (E3.out.trans (by rw [e])) E6.out)
 have HN4_6 := Lib.hid (show q4 ≠ q6 from fun e => hJ.apart 1 3 _ (by omega) (hall _ (by simp)) (hall _ (by simp)) rfl rfl (E4.out.trans (by rw [e])) E6.out)
 have HN5_6 := Lib.hid (show q5 ≠ q6 from fun e => hJ.apart 2 3 _ (by omega) (hall _ (by simp)) (hall _ (by simp)) rfl rfl (E5.out.trans (by rw [e])) E6.out)
 have hbel0 := hbel
 clear hJ hG hall hb
 go_upto_region 1 with fail
 refine rgT [(7, 5), (7, 0), (0, 1), (0, 2), (0, 3), (0, 4)] [.ptr q3 32, .val rR [Z], .ptr q4 32, .val rR [Z'], .val rR [Z * Z'], .new 16, .st 5 rR [Z * Z']] ?_ ?_
 ·intro hs
  refine ⟨?_, ?_, ?_, ?_, ?_, ?_, ?_, trivial⟩
  ·exact step_field hs Wn rfl rfl (fun _ => E3.out) (field_Pt2 _)
  ·exact step_loadF 0 q3 32 hs Wn rfl rfl tyFe (fun _ => rfl) rfl (by kernel_rfl) hm3.lt (hm3.fld 2 1) Na
  ·exact step_field hs Wn rfl rfl (fun _ => E4.out) (field_Pt2 _)
  ·exact step_loadF 2 q4 32 hs Wn rfl rfl tyFe (fun _ => rfl) rfl (by kernel_rfl) hm4.lt (hm4.fld 2 1) Na
  ·refine step_call hs Wn rfl fun L u W hJ hG hL hdep K hK => ?_
   have a0 := (vE rR [Z] hG hdep 1)
   have a1 := (vE rR [Z'] hG hdep 3)
   go_simp
   go_at_call 78
   (with_reducible refine (kMul a0 a1 _).mono ?_); rintro e w1 ⟨r, rfl, hr, hb⟩
   exact hK.out _ _ hr hb
  ·exact step_alloc hs Wn rfl rfl (by omega) rfl allocFe
  ·exact step_store 5 hs (by kernel_rfl) Wn rfl rfl rfl (by kernel_rfl) (by kernel_rfl) (by kernel_rfl) (by kernel_rfl) (fun _ => rfl) (gO 4) tyFe rfl
 intro L1 u1 W1 hall hJ hG
 obtain ⟨q7, e7, hq7, _, ht7⟩ := oN 16 hG 5
 have hm7 := oS rR [Z * Z'] hG 6 e7
 have HD7_q3 := Lib.hid (show q3 ≠ q7 by have := there_lt ht3 (by omega); omega)
 have HD7_q4 := Lib.hid (show q4 ≠ q7 by have := there_lt ht4 (by omega); omega)
 have HD7_q5 := Lib.hid (show q5 ≠ q7 by have := there_lt ht5 (by omega); omega)
 have HD7_q6 := Lib.hid (show q6 ≠ q7 by have := there_lt ht6 (by omega); omega)
 have hq7 : w.heap.size ≤ q7 := by have := hbel0.size; omega
 have E7 := Lib.hid e7; clear e7
 have hb := hJ.all rfl
 have hbel := Below.call hbel hb
 have hm3 := hm3.later hb
 have hm4 := hm4.later hb
 have hm5 := hm5.later hb
 have ht3 := there_later ht3 hb
 have ht4 := there_later ht4 hb
 have ht5 := there_later ht5 hb
 have ht6 := there_later ht6 hb
 have hbel0 := hbel
 clear hJ hG hall hb
 go_upto_region 2 with fail
 refine rgT [(8, 3), (11, 0), (0, 1), (0, 2)] [.val rR [Z * Z'], .val rR [Z * Z'], .val rR [(Z * Z') * (Z * Z')], .new 16, .st 3 rR [(Z * Z') * (Z * Z')]] ?_ ?_
 ·intro hs
  refine ⟨?_, ?_, ?_, ?_, ?_, trivial⟩
  ·exact step_load q7 0 hs Wn rfl rfl tyFe (fun _ => E7.out) hm7.lt hm7 Na
  ·exact step_load q7 0 hs Wn rfl rfl tyFe (fun _ => E7.out) hm7.lt hm7 Na
  ·refine step_call hs Wn rfl fun L u W hJ hG hL hdep K hK => ?_
   have a0 := (vE rR [Z * Z'] hG hdep 0)
   have a1 := (vE rR [Z * Z'] hG hdep 1)
   go_simp
   go_at_call 78
   (with_reducible refine (kMul a0 a1 _).mono ?_); rintro e w1 ⟨r, rfl, hr, hb⟩
   exact hK.out _ _ hr hb
  ·exact step_alloc hs Wn rfl rfl (by omega) rfl allocFe
  ·exact step_store 3 hs (by kernel_rfl) Wn rfl rfl rfl (by kernel_rfl) (by kernel_rfl) (by kernel_rfl) (by kernel_rfl) (fun _ => rfl) (gO 2) tyFe rfl
 intro L2 u2 W2 hall hJ hG
 obtain ⟨q8, e8, hq8, _, ht8⟩ := oN 16 hG 3
 have hm8 := oS rR [(Z * Z') * (Z * Z')] hG 4 e8
 have HD8_q3 := Lib.hid (show q3 ≠ q8 by have := there_lt ht3 (by omega); omega)
 have HD8_q4 := Lib.hid (show q4 ≠ q8 by have := there_lt ht4 (by omega); omega)
 have HD8_q5 := Lib.hid (show q5 ≠ q8 by have := there_lt ht5 (by omega); omega)
 have HD8_q6 := Lib.hid (show q6 ≠ q8 by have := there_lt ht6 (by omega); omega)
 have HD8_q7 := Lib.hid (show q7 ≠ q8 by have := there_lt ht7 (by omega); omega)
 have hq8 : w.heap.size ≤ q8 := by have := hbel0.size; omega
 have E8 := Lib.hid e8; clear e8
 have hb := hJ.all rfl
 have hbel := Below.call hbel hb
 have hm3 := hm3.later hb
 have hm4 := hm4.later hb
 have hm5 := hm5.later hb
 have hm7 := hm7.later hb
 have ht3 := there_later ht3 hb
 have ht4 := there_later ht4 hb
 have ht5 := there_later ht5 hb
 have ht6 := there_later ht6 hb
 have ht7 := there_later ht7 hb
 have hbel0 := hbel
 clear hJ hG hall hb
 go_upto_region 3 with fail
 refine rgT [(9, 5), (13, 0), (0, 1), (0, 2), (0, 3), (0, 4)] [.ptr q3 0, .val rR [X], .ptr q4 0, .val rR [X'], .val rR [X * X'], .new 16, .st 5 rR [X * X']] ?_ ?_
 ·intro hs
  refine ⟨?_, ?_, ?_, ?_, ?_, ?_, ?_, trivial⟩
  ·exact step_field hs Wn rfl rfl (fun _ => E3.out) (field_Pt0 _)
  ·exact step_loadF 0 q3 0 hs Wn rfl rfl tyFe (fun _ => rfl) rfl (by kernel_rfl) hm3.lt (hm3.fld 0 1) Na
  ·exact step_field hs Wn rfl rfl (fun _ => E4.out) (field_Pt0 _)
  ·exact step_loadF 2 q4 0 hs Wn rfl rfl tyFe (fun _ => rfl) rfl (by kernel_rfl) hm4.lt (hm4.fld 0 1) Na
  ·refine step_call hs Wn rfl fun L u W hJ hG hL hdep K hK => ?_
   have a0 := (vE rR [X] hG hdep 1)
   have a1 := (vE rR [X'] hG hdep 3)
   go_simp
   go_at_call 78
   (with_reducible refine (kMul a0 a1 _).mono ?_); rintro e w1 ⟨r, rfl, hr, hb⟩
   exact hK.out _ _ hr hb
  ·exact step_alloc hs Wn rfl rfl (by omega) rfl allocFe
  ·exact step_store 5 hs (by kernel_rfl) Wn rfl rfl rfl (by kernel_rfl) (by kernel_rfl) (by kernel_rfl) (by kernel_rfl) (fun _ => rfl) (gO 4) tyFe rfl
 intro L3 u3 W3 hall hJ hG
 obtain ⟨q9, e9, hq9, _, ht9⟩ := oN 16 hG 5
 have hm9 := oS rR [X * X'] hG 6 e9
 have HD9_q3 := Lib.hid (show q3 ≠ q9 by have := there_lt ht3 (by omega); omega)
 have HD9_q4 := Lib.hid (show q4 ≠ q9 by have := there_lt ht4 (by omega); omega)
 have HD9_q5 := Lib.hid (show q5 ≠ q9 by have := there_lt ht5 (by omega); omega)
 have HD9_q6 := Lib.hid (show q6 ≠ q9 by have := there_lt ht6 (by omega); omega)
 have HD9_q7 := Lib.hid (show q7 ≠ q9 by have := there_lt ht7 (by omega); omega)
 have HD9_q8 := Lib.hid (show q8 ≠ q9 by have := there_lt ht8 (by omega); omega)
 have hq9 : w.heap.size ≤ q9 := by have := hbel0.size; omega
 have E9 := Lib.hid e9; clear e9
 have hb := hJ.all rfl
 have hbel := Below.call hbel hb
 have hm3 := hm3.later hb
 have hm4 := hm4.later hb
 have hm5 := hm5.later hb
 have hm7 := hm7.later hb
 have hm8 := hm8.later hb
 have ht3 := there_later ht3 hb
 have ht4 := there_later ht4 hb
 have ht5 := there_later ht5 hb
 have ht6 := there_later ht6 hb
 have ht7 := there_later ht7 hb
 have ht8 := there_later ht8 hb
 have hbel0 := hbel
 clear hJ hG hall hb
 go_upto_region 4 with fail
 refine rgT [(10, 5), (17, 0), (0, 1), (0, 2), (0, 3), (0, 4)] [.ptr q3 16, .val rR [Y], .ptr q4 16, .val rR [Y'], .val rR [Y * Y'], .new 16, .st 5 rR [Y * Y']] ?_ ?_
 ·intro hs
  refine ⟨?_, ?_, ?_, ?_, ?_, ?_, ?_, trivial⟩
  ·exact step_field hs Wn rfl rfl (fun _ => E3.out) (field_Pt1 _)
  ·exact step_loadF 0 q3 16 hs Wn rfl rfl tyFe (fun _ => rfl) rfl (by kernel_rfl) hm3.lt (hm3.fld 1 1) Na
  ·exact step_field hs Wn rfl rfl (fun _ => E4.out) (field_Pt1 _)
  ·exact step_loadF 2 q4 16 hs Wn rfl rfl tyFe (fun _ => rfl) rfl (by kernel_rfl) hm4.lt (hm4.fld 1 1) Na
  ·refine step_call hs Wn rfl fun L u W hJ hG hL hdep K hK => ?_
   have a0 := (vE rR [Y] hG hdep 1)
   have a1 := (vE rR [Y'] hG hdep 3)
   go_simp
   go_at_call 78
   (with_reducible refine (kMul a0 a1 _).mono ?_); rintro e w1 ⟨r, rfl, hr, hb⟩
   exact hK.out _ _ hr hb
  ·exact step_alloc hs Wn rfl rfl (by omega) rfl allocFe
  ·exact step_store 5 hs (by kernel_rfl) Wn rfl rfl rfl (by kernel_rfl) (by kernel_rfl) (by kernel_rfl) (by kernel_rfl) (fun _ => rfl) (gO 4) tyFe rfl
 intro L4 u4 W4 hall hJ hG
 obtain ⟨q10, e10, hq10, _, ht10⟩ := oN 16 hG 5
 have hm10 := oS rR [Y * Y'] hG 6 e10
 have HD10_q3 := Lib.hid (show q3 ≠ q10 by have := there_lt ht3 (by omega); omega)
 have HD10_q4 := Lib.hid (show q4 ≠ q10 by have := there_lt ht4 (by omega); omega)
 have HD10_q5 := Lib.hid (show q5 ≠ q10 by have := there_lt ht5 (by omega); omega)
 have HD10_q6 := Lib.hid (show q6 ≠ q10 by have := there_lt ht6 (by omega); omega)
 have HD10_q7 := Lib.hid (show q7 ≠ q10 by have := there_lt ht7 (by omega); omega)
 have HD10_q8 := Lib.hid (show q8 ≠ q10 by have := there_lt ht8 (by omega); omega)
 have HD10_q9 := Lib.hid (show q9 ≠ q10 by have := there_lt ht9 (by omega); omega)
 have hq10 : w.heap.size ≤ q10 := by have := hbel0.size; omega
 have E10 := Lib.hid e10; clear e10
 have hb := hJ.all rfl
 have hbel := Below.call hbel hb
 have hm3 := hm3.later hb
 have hm4 := hm4.later hb
 have hm5 := hm5.later hb
 have hm7 := hm7.later hb
 have hm8 := hm8.later hb
 have hm9 := hm9.later hb
 have ht3 := there_later ht3 hb
 have ht4 := there_later ht4 hb
 have ht5 := there_later ht5 hb
 have ht6 := there_later ht6 hb
 have ht7 := there_later ht7 hb
 have ht8 := there_later ht8 hb
 have ht9 := there_later ht9 hb
 have hbel0 := hbel
 clear hJ hG hall hb
 go_upto_region 5 with fail
 refine rgM [(11, 5), (21, 0), (0, 1), (0, 2), (0, 3), (0, 4)] [.val rR [D], .val rR [X * X'], .val rR [Y * Y'], .val rR [(X * X') * (Y * Y')], .val rR [D * ((X * X') * (Y * Y'))], .new 16, .st 5 rR [D * ((X * X') * (Y * Y'))]] ?_ ?_
 ·intro hs
  refine ⟨?_, ?_, ?_, ?_, ?_, ?_, ?_, trivial⟩
  ·exact step_load q5 0 hs Wn rfl rfl tyFe (fun _ => E5.out) hm5.lt hm5 Na
  ·exact step_load q9 0 hs Wn rfl rfl tyFe (fun _ => E9.out) hm9.lt hm9 Na
  ·exact step_load q10 0 hs Wn rfl rfl tyFe (fun _ => E10.out) hm10.lt hm10 Na
  ·refine step_call hs Wn rfl fun L u W hJ hG hL hdep K hK => ?_
   have a0 := (vE rR [X * X'] hG hdep 1)
   have a1 := (vE rR [Y * Y'] hG hdep 2)
   go_simp
   go_at_call 78
   (with_reducible refine (kMul a0 a1 _).mono ?_); rintro e w1 ⟨r, rfl, hr, hb⟩
   exact hK.out _ _ hr hb
  ·refine step_call hs Wn rfl fun L u W hJ hG hL hdep K hK => ?_
   have a0 := (vE rR [D] hG hdep 0)
   have a1 := (vE rR [(X * X') * (Y * Y')] hG hdep 3)
   go_simp
   go_at_call 78
   (with_reducible refine (kMul a0 a1 _).mono ?_); rintro e w1 ⟨r, rfl, hr, hb⟩
   exact hK.out _ _ hr hb
  ·exact step_alloc hs Wn rfl rfl (by omega) rfl allocFe
  ·exact step_store 5 hs (by kernel_rfl) Wn rfl rfl rfl (by kernel_rfl) (by kernel_rfl) (by kernel_rfl) (by kernel_rfl) (fun _ => rfl) (gO 4) tyFe rfl
 intro L5 u5 W5 hall hJ hG
 obtain ⟨q11, e11, hq11, _, ht11⟩ := oN 16 hG 5
 have hm11 := oS rR [D * ((X * X') * (Y * Y'))] hG 6 e11
 have HD11_q3 := Lib.hid (show q3 ≠ q11 by have := there_lt ht3 (by omega); omega)
 have HD11_q4 := Lib.hid (show q4 ≠ q11 by have := there_lt ht4 (by omega); omega)
 have HD11_q5 := Lib.hid (show q5 ≠ q11 by have := there_lt ht5 (by omega); omega)
 have HD11_q6 := Lib.hid (show q6 ≠ q11 by have := there_lt ht6 (by omega); omega)
 have HD11_q7 := Lib.hid (show q7 ≠ q11 by have := there_lt ht7 (by omega); omega)
 have HD11_q8 := Lib.hid (show q8 ≠ q11 by have := there_lt ht8 (by omega); omega)
 have HD11_q9 := Lib.hid (show q9 ≠ q11 by have := there_lt ht9 (by omega); omega)
 have HD11_q10 := Lib.hid (show q10 ≠ q11 by have := there_lt ht10 (by omega); omega)
 have hq11 : w.heap.size ≤ q11 := by have := hbel0.size; omega
 have E11 := Lib.hid e11; clear e11
 have hb := hJ.all rfl
 have hbel := Below.call hbel hb
 have hm3 := hm3.later hb
 have hm4 := hm4.later hb
 have hm5 := hm5.later hb
 have hm7 := hm7.later hb
 have hm8 := hm8.later hb
 have hm9 := hm9.later hb
 have hm10 := hm10.later hb
 have ht3 := there_later ht3 hb
 have ht4 := there_later ht4 hb
 have ht5 := there_later ht5 hb
 have ht6 := there_later ht6 hb
 have ht7 := there_later ht7 hb
 have ht8 := there_later ht8 hb
 have ht9 := there_later ht9 hb
 have ht10 := there_later ht10 hb
 have hbel0 := hbel
 clear hJ hG hall hb
 go_upto_region 6 with fail
 refine rgT [(12, 3), (25, 0), (0, 1), (0, 2)] [.val rR [(Z * Z') * (Z * Z')], .val rR [D * ((X * X') * (Y * Y'))], .val rR [((Z * Z') * (Z * Z')) - (D * ((X * X') * (Y * Y')))], .new 16, .st 3 rR [((Z * Z') * (Z * Z')) - (D * ((X * X') * (Y * Y')))]] ?_ ?_
 ·intro hs
  refine ⟨?_, ?_, ?_, ?_, ?_, trivial⟩
  ·exact step_load q8 0 hs Wn rfl rfl tyFe (fun _ => E8.out) hm8.lt hm8 Na
  ·exact step_load q11 0 hs Wn rfl rfl tyFe (fun _ => E11.out) hm11.lt hm11 Na
  ·refine step_call hs Wn rfl fun L u W hJ hG hL hdep K hK => ?_
   have a0 := (vE rR [(Z * Z') * (Z * Z')] hG hdep 0)
   have a1 := (vE rR [D * ((X * X') * (Y * Y'))] hG hdep 1)
   go_simp
   go_at_call 101
   (with_reducible refine (kSub a0 a1 _).mono ?_); rintro e w1 ⟨r, rfl, hr, hb⟩
   exact hK.out _ _ hr hb
  ·exact step_alloc hs Wn rfl rfl (by omega) rfl allocFe
  ·exact step_store 3 hs (by kernel_rfl) Wn rfl rfl rfl (by kernel_rfl) (by kernel_rfl) (by kernel_rfl) (by kernel_rfl) (fun _ => rfl) (gO 2) tyFe rfl
 intro L6 u6 W6 hall hJ hG
 obtain ⟨q12, e12, hq12, _, ht12⟩ := oN 16 hG 3
 have hm12 := oS rR [((Z * Z') * (Z * Z')) - (D * ((X * X') * (Y * Y')))] hG 4 e12
 have HD12_q3 := Lib.hid (show q3 ≠ q12 by have := there_lt ht3 (by omega); omega)
 have HD12_q4 := Lib.hid (show q4 ≠ q12 by have := there_lt ht4 (by omega); omega)
 have HD12_q5 := Lib.hid (show q5 ≠ q12 by have := there_lt ht5 (by omega); omega)
 have HD12_q6 := Lib.hid (show q6 ≠ q12 by have := there_lt ht6 (by omega); omega)
 have HD12_q7 := Lib.hid (show q7 ≠ q12 by have := there_lt ht7 (by omega); omega)
 have HD12_q8 := Lib.hid (show q8 ≠ q12 by have := there_lt ht8 (by omega); omega)
 have HD12_q9 := Lib.hid (show q9 ≠ q12 by have := there_lt ht9 (by omega); omega)
 have HD12_q10 := Lib.hid (show q10 ≠ q12 by have := there_lt ht10 (by omega); omega)
 have HD12_q11 := Lib.hid (show q11 ≠ q12 by have := there_lt ht11 (by omega); omega)
 have hq12 : w.heap.size ≤ q12 := by have := hbel0.size; omega
 have E12 := Lib.hid e12; clear e12
 have hb := hJ.all rfl
 have hbel := Below.call hbel hb
 have hm3 := hm3.later hb
 have hm4 := hm4.later hb
 have hm5 := hm5.later hb
 have hm7 := hm7.later hb
 have hm8 := hm8.later hb
 have hm9 := hm9.later hb
 have hm10 := hm10.later hb
 have hm11 := hm11.later hb
 have ht3 := there_later ht3 hb
 have ht4 := there_later ht4 hb
 have ht5 := there_later ht5 hb
 have ht6 := there_later ht6 hb
 have ht7 := there_later ht7 hb
 have ht8 := there_later ht8 hb
 have ht9 := there_later ht9 hb
 have ht10 := there_later ht10 hb
 have ht11 := there_later ht11 hb
 have hbel0 := hbel
 clear hJ hG hall hb
 go_upto_region 7 with fail
 refine rgT [(13, 3), (27, 0), (0, 1), (0, 2)] [.val rR [(Z * Z') * (Z * Z')], .val rR [D * ((X * X') * (Y * Y'))], .val rR [((Z * Z') * (Z * Z')) + (D * ((X * X') * (Y * Y')))], .new 16, .st 3 rR [((Z * Z') * (Z * Z')) + (D * ((X * X') * (Y * Y')))]] ?_ ?_
 ·intro hs
  refine ⟨?_, ?_, ?_, ?_, ?_, trivial⟩
  ·exact step_load q8 0 hs Wn rfl rfl tyFe (fun _ => E8.out) hm8.lt hm8 Na
  ·exact step_load q11 0 hs Wn rfl rfl tyFe (fun _ => E11.out) hm11.lt hm11 Na
  ·refine step_call hs Wn rfl fun L u W hJ hG hL hdep K hK => ?_
   have a0 := (vE rR [(Z * Z') * (Z * Z')] hG hdep 0)
   have a1 := (vE rR [D * ((X * X') * (Y * Y'))] hG hdep 1)
   go_simp
   go_at_call 102
   (with_reducible refine (kAdd a0 a1 _).mono ?_); rintro e w1 ⟨r, rfl, hr, hb⟩
   exact hK.out _ _ hr hb
  ·exact step_alloc hs Wn rfl rfl (by omega) rfl allocFe
  ·exact step_store 3 hs (by kernel_rfl) Wn rfl rfl rfl (by kernel_rfl) (by kernel_rfl) (by kernel_rfl) (by kernel_rfl) (fun _ => rfl) (gO 2) tyFe rfl
 intro L7 u7 W7 hall hJ hG
 obtain ⟨q13, e13, hq13, _, ht13⟩ := oN 16 hG 3
 have hm13 := oS rR [((Z * Z') * (Z * Z')) + (D * ((X * X') * (Y * Y')))] hG 4 e13
 have HD13_q3 := Lib.hid (show q3 ≠ q13 by have := there_lt ht3 (by omega); omega)
 have HD13_q4 := Lib.hid (show q4 ≠ q13 by have := there_lt ht4 (by omega); omega)
 have HD13_q5 := Lib.hid (show q5 ≠ q13 by have := there_lt ht5 (by omega); omega)
 have HD13_q6 := Lib.hid (show q6 ≠ q13 by have := there_lt ht6 (by omega); omega)
 have HD13_q7 := Lib.hid (show q7 ≠ q13 by have := there_lt ht7 (by omega); omega)
 have HD13_q8 := Lib.hid (show q8 ≠ q13 by have := there_lt ht8 (by omega); omega)
 have HD13_q9 := Lib.hid (show q9 ≠ q13 by have := there_lt ht9 (by omega); omega)
 have HD13_q10 := Lib.hid (show q10 ≠ q13 by have := there_lt ht10 (by omega); omega)
 have HD13_q11 := Lib.hid (show q11 ≠ q13 by have := there_lt ht11 (by omega); omega)
 have HD13_q12 := Lib.hid (show q12 ≠ q13 by have := there_lt ht12 (by omega); omega)
 have hq13 : w.heap.size ≤ q13 := by have := hbel0.size; omega
 have E13 := Lib.hid e13; clear e13
 have hb := hJ.all rfl
 have hbel := Below.call hbel hb
 have hm3 := hm3.later hb
 have hm4 := hm4.later hb
 have hm5 := hm5.later hb
 have hm7 := hm7.later hb
 have hm8 := hm8.later hb
 have hm9 := hm9.later hb
 have hm10 := hm10.later hb
 have hm11 := hm11.later hb
 have hm12 := hm12.later hb
 have ht3 := there_later ht3 hb
 have ht4 := there_later ht4 hb
 have ht5 := there_later ht5 hb
 have ht6 := there_later ht6 hb
 have ht7 := there_later ht7 hb
 have ht8 := there_later ht8 hb
 have ht9 := there_later ht9 hb
 have ht10 := there_later ht10 hb
 have ht11 := there_later ht11 hb
 have ht12 := there_later ht12 hb
 have hbel0 := hbel
 clear hJ hG hall hb
 go_upto_region 8 with fail
 refine rgM [(14, 11), (29, 0), (0, 1), (0, 2), (0, 3), (0, 4), (0, 5), (0, 6), (0, 7), (0, 8), (0, 9), (0, 10)] [.ptr q3 0, .val rR [X], .ptr q4 16, .val rR [Y'], .val rR [X * Y'], .ptr q4 0, .val rR [X'], .ptr q3 16, .val rR [Y], .val rR [X' * Y], .val rR [(X * Y') + (X' * Y)], .new 16, .st 11 rR [(X * Y') + (X' * Y)]] ?_ ?_
 ·intro hs
  refine ⟨?_, ?_, ?_, ?_, ?_, ?_, ?_, ?_, ?_, ?_, ?_, ?_, ?_, trivial⟩
  ·exact step_field hs Wn rfl rfl (fun _ => E3.out) (field_Pt0 _)
  ·exact step_loadF 0 q3 0 hs Wn rfl rfl tyFe (fun _ => rfl) rfl (by kernel_rfl) hm3.lt (hm3.fld 0 1) Na
  ·exact step_field hs Wn rfl rfl (fun _ => E4.out) (field_Pt1 _)
  ·exact step_loadF 2 q4 16 hs Wn rfl rfl tyFe (fun _ => rfl) rfl (by kernel_rfl) hm4.lt (hm4.fld 1 1) Na
  ·refine step_call hs Wn rfl fun L u W hJ hG hL hdep K hK => ?_
   have a0 := (vE rR [X] hG hdep 1)
   have a1 := (vE rR [Y'] hG hdep 3)
   go_simp
   go_at_call 78
   (with_reducible refine (kMul a0 a1 _).mono ?_); rintro e w1 ⟨r, rfl, hr, hb⟩
   exact hK.out _ _ hr hb
  ·exact step_field hs Wn rfl rfl (fun _ => E4.out) (field_Pt0 _)
  ·exact step_loadF 5 q4 0 hs Wn rfl rfl tyFe (fun _ => rfl) rfl (by kernel_rfl) hm4.lt (hm4.fld 0 1) Na
  ·exact step_field hs Wn rfl rfl (fun _ => E3.out) (field_Pt1 _)
  ·exact step_loadF 7 q3 16 hs Wn rfl rfl tyFe (fun _ => rfl) rfl (by kernel_rfl) hm3.lt (hm3.fld 1 1) Na
  ·refine step_call hs Wn rfl fun L u W hJ hG hL hdep K hK => ?_
   have a0 := (vE rR [X'] hG hdep 6)
   have a1 := (vE rR [Y] hG hdep 8)
   go_simp
   go_at_call 78
   (with_reducible refine (kMul a0 a1 _).mono ?_); rintro e w1 ⟨r, rfl, hr, hb⟩
   exact hK.out _ _ hr hb
  ·refine step_call hs Wn rfl fun L u W hJ hG hL hdep K hK => ?_
   have a0 := (vE rR [X * Y'] hG hdep 4)
   have a1 := (vE rR [X' * Y] hG hdep 9)
   go_simp
   go_at_call 102
   (with_reducible refine (kAdd a0 a1 _).mono ?_); rintro e w1 ⟨r, rfl, hr, hb⟩
   exact hK.out _ _ hr hb
  ·exact step_alloc hs Wn rfl rfl (by omega) rfl allocFe
  ·exact step_store 11 hs (by kernel_rfl) Wn rfl rfl rfl (by kernel_rfl) (by kernel_rfl) (by kernel_rfl) (by kernel_rfl) (fun _ => rfl) (gO 10) tyFe rfl
 intro L8 u8 W8 hall hJ hG
 obtain ⟨q14, e14, hq14, _, ht14⟩ := oN 16 hG 11
 have hm14 := oS rR [(X * Y') + (X' * Y)] hG 12 e14
 have HD14_q3 := Lib.hid (show q3 ≠ q14 by have := there_lt ht3 (by omega); omega)
 have HD14_q4 := Lib.hid (show q4 ≠ q14 by have := there_lt ht4 (by omega); omega)
 have HD14_q5 := Lib.hid (show q5 ≠ q14 by have := there_lt ht5 (by omega); omega)
 have HD14_q6 := Lib.hid (show q6 ≠ q14 by have := there_lt ht6 (by omega); omega)
 have HD14_q7 := Lib.hid (show q7 ≠ q14 by have := there_lt ht7 (by omega); omega)
 have HD14_q8 := Lib.hid (show q8 ≠ q14 by have := there_lt ht8 (by omega); omega)
 have HD14_q9 := Lib.hid (show q9 ≠ q14 by have := there_lt ht9 (by omega); omega)
 have HD14_q10 := Lib.hid (show q10 ≠ q14 by have := there_lt ht10 (by omega); omega)
 have HD14_q11 := Lib.hid (show q11 ≠ q14 by have := there_lt ht11 (by omega); omega)
 have HD14_q12 := Lib.hid (show q12 ≠ q14 by have := there_lt ht12 (by omega); omega)
 have HD14_q13 := Lib.hid (show q13 ≠ q14 by have := there_lt ht13 (by omega); omega)
 have hq14 : w.heap.size ≤ q14 := by have := hbel0.size; omega
 have E14 := Lib.hid e14; clear e14
 have hb := hJ.all rfl
 have hbel := Below.call hbel hb
 have hm3 := hm3.later hb
 have hm4 := hm4.later hb
 have hm5 := hm5.later hb
 have hm7 := hm7.later hb
 have hm8 := hm8.later hb
 have hm9 := hm9.later hb
 have hm10 := hm10.later hb
 have hm11 := hm11.later hb
 have hm12 := hm12.later hb
 have hm13 := hm13.later hb
 have ht3 := there_later ht3 hb
 have ht4 := there_later ht4 hb
 have ht5 := there_later ht5 hb
 have ht6 := there_later ht6 hb
 have ht7 := there_later ht7 hb
 have ht8 := there_later ht8 hb
 have ht9 := there_later ht9 hb
 have ht10 := there_later ht10 hb
 have ht11 := there_later ht11 hb
 have ht12 := there_later ht12 hb
 have ht13 := there_later ht13 hb
 have hbel0 := hbel
 clear hJ hG hall hb
 go_upto_region 9 with fail
 refine rgM [(55, 0), (0, 1), (0, 2), (0, 3), (0, 4), (0, 5), (0, 6), (0, 7), (0, 8), (0, 9), (0, 10), (0, 11), (0, 12), (0, 13), (0, 14), (0, 15)] [.val rR [Z * Z'], .val rR [((Z * Z') * (Z * Z')) - (D * ((X * X') * (Y * Y')))], .val rR [(Z * Z') * (((Z * Z') * (Z * Z')) - (D * ((X * X') * (Y * Y'))))], .val rR [(X * Y') + (X' * Y)], .val rR [((Z * Z') * (((Z * Z') * (Z * Z')) - (D * ((X * X') * (Y * Y'))))) * ((X * Y') + (X' * Y))], .val rR [Z * Z'], .val rR [((Z * Z') * (Z * Z')) + (D * ((X * X') * (Y * Y')))], .val rR [(Z * Z') * (((Z * Z') * (Z * Z')) + (D * ((X * X') * (Y * Y'))))], .val rR [Y * Y'], .val rR [X * X'], .val rR [(Y * Y') + (X * X')], .val rR [((Z * Z') * (((Z * Z') * (Z * Z')) + (D * ((X * X') * (Y * Y'))))) * ((Y * Y') + (X * X'))], .val rR [((Z * Z') * (Z * Z')) - (D * ((X * X') * (Y * Y')))], .val rR [((Z * Z') * (Z * Z')) + (D * ((X * X') * (Y * Y')))], .val rR [(((Z * Z') * (Z * Z')) - (D * ((X * X') * (Y * Y')))) * (((Z * Z') * (Z * Z')) + (D * ((X * X') * (Y * Y'))))], .val rR [((Z * Z') * (((Z * Z') * (Z * Z')) - (D * ((X * X') * (Y * Y'))))) * ((X * Y') + (X' * Y)), ((Z * Z') * (((Z * Z') * (Z * Z')) + (D * ((X * X') * (Y * Y'))))) * ((Y * Y') + (X * X')), (((Z * Z') * (Z * Z')) - (D * ((X * X') * (Y * Y')))) * (((Z * Z') * (Z * Z')) + (D * ((X * X') * (Y * Y'))))], .sto q6 rR [((Z * Z') * (((Z * Z') * (Z * Z')) - (D * ((X * X') * (Y * Y'))))) * ((X * Y') + (X' * Y)), ((Z * Z') * (((Z * Z') * (Z * Z')) + (D * ((X * X') * (Y * Y'))))) * ((Y * Y') + (X * X')), (((Z * Z') * (Z * Z')) - (D * ((X * X') * (Y * Y')))) * (((Z * Z') * (Z * Z')) + (D * ((X * X') * (Y * Y'))))]] ?_ ?_
 ·intro hs
  refine ⟨?_, ?_, ?_, ?_, ?_, ?_, ?_, ?_, ?_, ?_, ?_, ?_, ?_, ?_, ?_, ?_, ?_, trivial⟩
  ·exact step_load q7 0 hs Wn rfl rfl tyFe (fun _ => E7.out) hm7.lt hm7 (apN HD7_q6.out)
  ·exact step_load q12 0 hs Wn rfl rfl tyFe (fun _ => E12.out) hm12.lt hm12 (apN HD12_q6.out)
  ·refine step_call hs Wn rfl fun L u W hJ hG hL hdep K hK => ?_
   have a0 := (vE rR [Z * Z'] hG hdep 0)
   have a1 := (vE rR [((Z * Z') * (Z * Z')) - (D * ((X * X') * (Y * Y')))] hG hdep 1)
   go_simp
   go_at_call 78
   (with_reducible refine (kMul a0 a1 _).mono ?_); rintro e w1 ⟨r, rfl, hr, hb⟩
   exact hK.out _ _ hr hb
  ·exact step_load q14 0 hs Wn rfl rfl tyFe (fun _ => E14.out) hm14.lt hm14 (apN HD14_q6.out)
  ·refine step_call hs Wn rfl fun L u W hJ hG hL hdep K hK => ?_
   have a0 := (vE rR [(Z * Z') * (((Z * Z') * (Z * Z')) - (D * ((X * X') * (Y * Y'))))] hG hdep 2)
   have a1 := (vE rR [(X * Y') + (X' * Y)] hG hdep 3)
   go_simp
   go_at_call 78
   (with_reducible refine (kMul a0 a1 _).mono ?_); rintro e w1 ⟨r, rfl, hr, hb⟩
   exact hK.out _ _ hr hb
  ·exact step_load q7 0 hs Wn rfl rfl tyFe (fun _ => E7.out) hm7.lt hm7 (apN HD7_q6.out)
  ·exact step_load q13 0 hs Wn rfl rfl tyFe (fun _ => E13.out) hm13.lt hm13 (apN HD13_q6.out)
  ·refine step_call hs Wn rfl fun L u W hJ hG hL hdep K hK => ?_
   have a0 := (vE rR [Z * Z'] hG hdep 5)
   have a1 := (vE rR [((Z * Z') * (Z * Z')) + (D * ((X * X') * (Y * Y')))] hG hdep 6)
   go_simp
   go_at_call 78
   (with_reducible refine (kMul a0 a1 _).mono ?_); rintro e w1 ⟨r, rfl, hr, hb⟩
   exact hK.out _ _ hr hb
  ·exact step_load q10 0 hs Wn rfl rfl tyFe (fun _ => E10.out) hm10.lt hm10 (apN HD10_q6.out)
  ·exact step_load q9 0 hs Wn rfl rfl tyFe (fun _ => E9.out) hm9.lt hm9 (apN HD9_q6.out)
  ·refine step_call hs Wn rfl fun L u W hJ hG hL hdep K hK => ?_
   have a0 := (vE rR [Y * Y'] hG hdep 8)
   have a1 := (vE rR [X * X'] hG hdep 9)
   go_simp
   go_at_call 102
   (with_reducible refine (kAdd a0 a1 _).mono ?_); rintro e w1 ⟨r, rfl, hr, hb⟩
   exact hK.out _ _ hr hb
  ·refine step_call hs Wn rfl fun L u W hJ hG hL hdep K hK => ?_
   have a0 := (vE rR [(Z * Z') * (((Z * Z') * (Z * Z')) + (D * ((X * X') * (Y * Y'))))] hG hdep 7)
   have a1 := (vE rR [(Y * Y') + (X * X')] hG hdep 10)
   go_simp
   go_at_call 78
   (with_reducible refine (kMul a0 a1 _).mono ?_); rintro e w1 ⟨r, rfl, hr, hb⟩
   exact hK.out _ _ hr hb
  ·exact step_load q12 0 hs Wn rfl rfl tyFe (fun _ => E12.out) hm12.lt hm12 (apN HD12_q6.out)
  ·exact step_load q13 0 hs Wn rfl rfl tyFe (fun _ => E13.out) hm13.lt hm13 (apN HD13_q6.out)
  ·refine step_call hs Wn rfl fun L u W hJ hG hL hdep K hK => ?_
   have a0 := (vE rR [((Z * Z') * (Z * Z')) - (D * ((X * X') * (Y * Y')))] hG hdep 12)
   have a1 := (vE rR [((Z * Z') * (Z * Z')) + (D * ((X * X') * (Y * Y')))] hG hdep 13)
   go_simp
   go_at_call 78
   (with_reducible refine (kMul a0 a1 _).mono ?_); rintro e w1 ⟨r, rfl, hr, hb⟩
   exact hK.out _ _ hr hb
  ·refine step_pure hs Wn rfl fun L u W hG hdep => ?_
   have a0 := (vE rR [((Z * Z') * (((Z * Z') * (Z * Z')) - (D * ((X * X') * (Y * Y'))))) * ((X * Y') + (X' * Y))] hG hdep 4)
   have a1 := (vE rR [((Z * Z') * (((Z * Z') * (Z * Z')) + (D * ((X * X') * (Y * Y'))))) * ((Y * Y') + (X * X'))] hG hdep 11)
   have a2 := (vE rR [(((Z * Z') * (Z * Z')) - (D * ((X * X') * (Y * Y')))) * (((Z * Z') * (Z * Z')) + (D * ((X * X') * (Y * Y'))))] hG hdep 14)
   obtain ⟨r, hr, hx⟩ := build_Pt a0 a1 a2 W
   exact ⟨r, run_build3 rfl hr, hx⟩
  ·refine step_storeO q6 48 hs Wn rfl rfl (by kernel_rfl) (fun k hk => ?_) (fun _ => E6.out) (there_lt ht6 (by omega)) ht6 (gO 15) tyPt3 rfl
   rcases k with _ | _ | _ | _ | _ | _ | _ | _ | _ | _ | _ | _ | _ | _ | _ | _ | _ | k
   all_goals first | (exact absurd rfl hk) | (intro e; cases e; done)
 intro L9 u9 W9 hall hJ hG
 have hb := hJ.beN hbel
 have hbel := hbel.trans hb
 have hm3 := kC hm3 hJ HN3_6.out
 have hm4 := kC hm4 hJ HN4_6.out
 have hm5 := kC hm5 hJ HN5_6.out
 have hm7 := kB hm7 hJ HD7_q6.out
 have hm8 := kB hm8 hJ HD8_q6.out
 have hm9 := kB hm9 hJ HD9_q6.out
 have hm10 := kB hm10 hJ HD10_q6.out
 have hm11 := kB hm11 hJ HD11_q6.out
 have hm12 := kB hm12 hJ HD12_q6.out
 have hm13 := kB hm13 hJ HD13_q6.out
 have hm14 := kB hm14 hJ HD14_q6.out
 have ht3 := tC ht3 hJ HN3_6.out
 have ht4 := tC ht4 hJ HN4_6.out
 have ht5 := tC ht5 hJ HN5_6.out
 have ht7 := tB ht7 hJ HD7_q6.out
 have ht8 := tB ht8 hJ HD8_q6.out
 have ht9 := tB ht9 hJ HD9_q6.out
 have ht10 := tB ht10 hJ HD10_q6.out
 have ht11 := tB ht11 hJ HD11_q6.out
 have ht12 := tB ht12 hJ HD12_q6.out
 have ht13 := tB ht13 hJ HD13_q6.out
 have ht14 := tB ht14 hJ HD14_q6.out
 obtain ⟨_, hs9_16t, hs9_16⟩ := oT 48 rR [((Z * Z') * (((Z * Z') * (Z * Z')) - (D * ((X * X') * (Y * Y'))))) * ((X * Y') + (X' * Y)), ((Z * Z') * (((Z * Z') * (Z * Z')) + (D * ((X * X') * (Y * Y'))))) * ((Y * Y') + (X * X')), (((Z * Z') * (Z * Z')) - (D * ((X * X') * (Y * Y')))) * (((Z * Z') * (Z * Z')) + (D * ((X * X') * (Y * Y'))))] hG 16
 have hbel0 := hbel
 clear hJ hG hall hb
 go_wp2
 exact ret_cell1 (R := rR) Tryz.results83 (by exact E6.out) hs9_16 tyPt3 rfl (fun r hr => ⟨r, rfl, hr, hbel⟩)
theorem kAddD {v0 v1 v2 : Value} {P Q : EP} (h0 : IsFs rQ v0 [P]) (h1 : IsFs rQ v1 [Q]) (h2 : IsFs rR v2 [dE]) (w : World) :
  Calls Tryz.prog 83 #[v0, v1, v2] w fun e w' => ∃ r, e = .returned r ∧ IsFs rQ r [Cp.add P Q] ∧ Below w.heap.size w w' := by
 obtain ⟨x, y, z, i0, hp⟩ := of_isQ h0
 obtain ⟨x', y', z', i1, hq⟩ := of_isQ h1
 exact (q_add_any i0 i1 h2 w).mono fun _ _ ⟨r, he, hr, hb⟩ => ⟨r, he, isQ hr (Prep.add (c := cuE) hp hq), hb⟩
set_option maxRecDepth 100000 in
set_option maxHeartbeats 4000000 in
theorem kMult {v0 v1 : Value} {P Q : EP} {s : F} (hq : Cp.mul s.val P = Q) (h0 : IsFs rQ v0 [P]) (h1 : IsFs rC v1 [s]) (w : World) :
  Calls Tryz.prog 33 #[v0, v1] w fun e w' => ∃ r, e = .returned r ∧ IsFs rQ r [Q] ∧ Below w.heap.size w w' := by
 have HL := Lib.hid (of_isC h1).1
 subst hq
 go_enter Tryz.func33, Tryz.ntmps33
 have hbel : Below w.heap.size w w := Below.refl _ _
 have hbel0 := hbel
 go_upto_region 0 with fail
 refine rgT [(2, 0), (0, 1), (0, 2)] [.box rQ [P], .box rC [s], .new 48] ?_ ?_
 ·intro hs
  refine ⟨?_, ?_, ?_, trivial⟩
  ·exact step_box hs Wn rfl rfl (gives_c h0 (fun _ => rfl))
  ·exact step_box hs Wn rfl rfl (gives_c h1 (fun _ => rfl))
  ·exact step_alloc hs Wn rfl rfl (by omega) rfl allocPt
 intro L0 u0 W0 hall hJ hG
 obtain ⟨q2, e2, ⟨hq2, _⟩, ht2, hm2⟩ := oB 48 rQ [P] hG 0
 have hq2 : w.heap.size ≤ q2 := by have := hbel0.size; omega
 have E2 := Lib.hid e2; clear e2
 obtain ⟨q3, e3, ⟨hq3, _⟩, ht3, hm3⟩ := oB 32 rC [s] hG 1
 have hq3 : w.heap.size ≤ q3 := by have := hbel0.size; omega
 have E3 := Lib.hid e3; clear e3
 obtain ⟨q4, e4, hq4, _, ht4⟩ := oN 48 hG 2
 have hq4 : w.heap.size ≤ q4 := by have := hbel0.size; omega
 have E4 := Lib.hid e4; clear e4
 have hb := hJ.all rfl
 have hbel := Below.call hbel hb
 have HN2_4 := Lib.hid (show q2 ≠ q4 from fun e => hJ.apart 0 2 _ (by omega) (hall _ (by simp)) (hall _ (by simp)) rfl rfl (E2.out.trans (by rw [e])) E4.out)
 have HN3_4 := Lib.hid (show q3 ≠ q4 from fun e => hJ.apart 1 2 _ (by omega) (hall _ (by simp)) (hall _ (by simp)) rfl rfl (E3.out.trans (by rw [e])) E4.out)
 have hbel0 := hbel
 clear hJ hG hall hb
 go_upto_region 1 with fail
 refine rgT [(5, 1), (2, 0)] [.val rR [dE], .new 16, .st 1 rR [dE]] ?_ ?_
 ·intro hs
  refine ⟨?_, ?_, ?_, trivial⟩
  ·refine step_call hs Wn rfl fun L u W hJ hG hL hdep K hK => ?_
   go_simp
   go_at_call 81
   (with_reducible refine (kCurve _).mono ?_); rintro e w1 ⟨r, rfl, hr, hb⟩
   exact hK.out _ _ hr hb
  ·exact step_alloc hs Wn rfl rfl (by omega) rfl allocFe
  ·exact step_store 1 hs (by kernel_rfl) Wn rfl rfl rfl (by kernel_rfl) (by kernel_rfl) (by kernel_rfl) (by kernel_rfl) (fun _ => rfl) (gO 0) tyFe rfl
 intro L1 u1 W1 hall hJ hG
 obtain ⟨q5, e5, hq5, _, ht5⟩ := oN 16 hG 1
 have hm5 := oS rR [dE] hG 2 e5
 have HD5_q2 := Lib.hid (show q2 ≠ q5 by have := there_lt ht2 (by omega); omega)
 have HD5_q3 := Lib.hid (show q3 ≠ q5 by have := there_lt ht3 (by omega); omega)
 have HD5_q4 := Lib.hid (show q4 ≠ q5 by have := there_lt ht4 (by omega); omega)
 have hq5 : w.heap.size ≤ q5 := by have := hbel0.size; omega
 have E5 := Lib.hid e5; clear e5
 have hb := hJ.all rfl
 have hbel := Below.call hbel hb
 have hm2 := hm2.later hb
 have hm3 := hm3.later hb
 have ht2 := there_later ht2 hb
 have ht3 := there_later ht3 hb
 have ht4 := there_later ht4 hb
 have hbel0 := hbel
 clear hJ hG hall hb
 go_upto_region 2 with fail
 refine rgT [(6, 1), (2, 0)] [.val rQ [Cp.zero], .new 48, .st 1 rQ [Cp.zero]] ?_ ?_
 ·intro hs
  refine ⟨?_, ?_, ?_, trivial⟩
  ·refine step_call hs Wn rfl fun L u W hJ hG hL hdep K hK => ?_
   go_simp
   go_at_call 82
   (with_reducible refine (kZero _).mono ?_); rintro e w1 ⟨r, rfl, hr, hb⟩
   exact hK.out _ _ hr hb
  ·exact step_alloc hs Wn rfl rfl (by omega) rfl allocPt
  ·exact step_store 1 hs (by kernel_rfl) Wn rfl rfl rfl (by kernel_rfl) (by kernel_rfl) (by kernel_rfl) (by kernel_rfl) (fun _ => rfl) (gO 0) tyPt rfl
 intro L2 u2 W2 hall hJ hG
 obtain ⟨q6, e6, hq6, _, ht6⟩ := oN 48 hG 1
 have hm6 := oS rQ [Cp.zero] hG 2 e6
 have HD6_q2 := Lib.hid (show q2 ≠ q6 by have := there_lt ht2 (by omega); omega)
 have HD6_q3 := Lib.hid (show q3 ≠ q6 by have := there_lt ht3 (by omega); omega)
 have HD6_q4 := Lib.hid (show q4 ≠ q6 by have := there_lt ht4 (by omega); omega)
 have HD6_q5 := Lib.hid (show q5 ≠ q6 by have := there_lt ht5 (by omega); omega)
 have hq6 : w.heap.size ≤ q6 := by have := hbel0.size; omega
 have E6 := Lib.hid e6; clear e6
 have hb := hJ.all rfl
 have hbel := Below.call hbel hb
 have hm2 := hm2.later hb
 have hm3 := hm3.later hb
 have hm5 := hm5.later hb
 have ht2 := there_later ht2 hb
 have ht3 := there_later ht3 hb
 have ht4 := there_later ht4 hb
 have ht5 := there_later ht5 hb
 have hbel0 := hbel
 clear hJ hG hall hb
 go_wp2_with fail
 go_loopw [7] (fun sk wr => ∃ j : Nat, j ≤ 256 ∧ sk = .int .i64 ((j : Int) - 1) ∧ HasFs rQ wr q2 0 [P] ∧ HasFs rC wr q3 0 [s] ∧ HasFs rR wr q5 0 [dE] ∧ HasFs rQ wr q6 0 [Cp.mul (s.val / 2 ^ j) P] ∧ wr.there q2 0 48 ∧ wr.there q3 0 32 ∧ wr.there q5 0 16 ∧ wr.there q6 0 48 ∧ wr.there q4 0 48 ∧ Below w.heap.size w wr) (fun t _ => (intOf t + 1).toNat)
 case atStart => exact ⟨256, by omega, by simp, hm2, hm3, hm5, (by rw [sc_256 HL.out]; exact hm6), ht2, ht3, ht5, ht6, ht4, hbel⟩
 case round =>
  obtain ⟨j, hj, rfl, hmP, hmS, hmD, hmO, ht2', ht3', ht5', ht6', ht4', hbel'⟩ := hrel
  clear hm2 hm3 hm5 hm6 ht2 ht3 ht4 ht5 ht6 hbel hbel0 h0 h1
  have hbel := hbel'
  have hbel0 := hbel'
  by_cases h0 : 0 < j
  ·obtain ⟨i, rfl⟩ : ∃ i, j = i + 1 := ⟨j - 1, by omega⟩
   have hz : (((i + 1 : Nat) : Int) - 1) = (i : Int) := by omega
   simp only [hz]
   have h1 : (0 : Int) ≤ (i : Int) := by omega
   have h2 : (i : Int) < 256 := by omega
   have HI : Hid (i + 1 ≤ 256) := Lib.hid (by omega)
   clear hz h0 hj
   go_upto_region 6 with fail
   refine rgT [(14, 0), (0, 1), (0, 2), (0, 3)] [.val rQ [Cp.mul (s.val / 2 ^ (i + 1)) P], .val rQ [Cp.mul (s.val / 2 ^ (i + 1)) P], .val rR [dE], .val rQ [Cp.add (Cp.mul (s.val / 2 ^ (i + 1)) P) (Cp.mul (s.val / 2 ^ (i + 1)) P)], .sto q6 rQ [Cp.add (Cp.mul (s.val / 2 ^ (i + 1)) P) (Cp.mul (s.val / 2 ^ (i + 1)) P)]] ?_ ?_
   ·intro hs
    refine ⟨?_, ?_, ?_, ?_, ?_, trivial⟩
    ·exact step_load q6 0 hs Wn rfl rfl tyPt (fun _ => E6.out) hmO.lt hmO Na
    ·exact step_load q6 0 hs Wn rfl rfl tyPt (fun _ => E6.out) hmO.lt hmO Na
    ·exact step_load q5 0 hs Wn rfl rfl tyFe (fun _ => E5.out) hmD.lt hmD (apN (Ne.symm HD6_q5.out))
    ·refine step_call hs Wn rfl fun L u W hJ hG hL hdep K hK => ?_
     have a0 := (vE rQ [Cp.mul (s.val / 2 ^ (i + 1)) P] hG hdep 0)
     have a1 := (vE rQ [Cp.mul (s.val / 2 ^ (i + 1)) P] hG hdep 1)
     have a2 := (vE rR [dE] hG hdep 2)
     go_simp
     go_at_call 83
     (with_reducible refine (kAddD a0 a1 a2 _).mono ?_); rintro e w1 ⟨r, rfl, hr, hb⟩
     exact hK.out _ _ hr hb
    ·refine step_storeO q6 48 hs Wn rfl rfl (by kernel_rfl) (fun k hk => ?_) (fun _ => E6.out) (there_lt ht6' (by omega)) ht6' (gO 3) tyPt rfl
     rcases k with _ | _ | _ | _ | _ | k
     all_goals first | (exact absurd rfl hk) | (intro e; cases e; done)
   intro L6 u6 W6 hall hJ hG
   have hb := hJ.beN hbel
   have hbel := hbel.trans hb
   have hmP := kC hmP hJ HD6_q2.out
   have hmS := kC hmS hJ HD6_q3.out
   have hmD := kC hmD hJ HD6_q5.out
   have ht2' := tC ht2' hJ HD6_q2.out
   have ht3' := tC ht3' hJ HD6_q3.out
   have ht5' := tC ht5' hJ HD6_q5.out
   have ht4' := tC ht4' hJ HD6_q4.out
   obtain ⟨_, hs6_4t, hs6_4⟩ := oT 48 rQ [Cp.add (Cp.mul (s.val / 2 ^ (i + 1)) P) (Cp.mul (s.val / 2 ^ (i + 1)) P)] hG 4
   have hbel0 := hbel
   clear hJ hG hall hb
   by_cases hb1 : s.val / 2 ^ i % 2 = 1
   ·have HB := Lib.hid hb1; clear hb1
    go_upto_region 7 with fail
    refine rgT [(18, 0), (0, 1), (0, 2), (0, 3)] [.val rC [s], .oth (fun v => v = .int .i64 (i : Int)), .oth (fun v => v = .int .i64 1), .oth (fun v => v = .bool true)] ?_ ?_
    ·intro hs
     refine ⟨?_, ?_, ?_, ?_, trivial⟩
     ·exact step_load q3 0 hs Wn rfl rfl tySc (fun _ => E3.out) hmS.lt hmS Na
     ·exact mvK hs fun _ => rfl
     ·refine step_callO hs Wn rfl fun L u W hJ hG hL hdep K hK => ?_
      have a0 := (vE rC [s] hG hdep 0)
      have x0 := (oE (.int .i64 (i : Int)) hG hdep 1)
      go_simp
      go_at_call 84
      (with_reducible refine (kScBit (z := 1) (bit_1 (by have := HI.out; omega) HB.out) a0 _).mono ?_); rintro e w1 ⟨rfl, hb⟩
      have hk := hK.out _ _ rfl hb
      simp only [x0] at hk
      exact hk
     ·refine step_pureO hs Wn rfl fun L u W hG hdep => ⟨_, ?_, rfl⟩
      have e0 := (oE (.int .i64 1) hG hdep 2)
      go_simp
      try simp [bne]
    intro L7 u7y W7y hall hJ hG
    have hb := hJ.all rfl
    have hbel := Below.call hbel hb
    have hmP := hmP.later hb
    have hmS := hmS.later hb
    have hmD := hmD.later hb
    have hs6_4 := hs6_4.later hb
    have ht2' := there_later ht2' hb
    have ht3' := there_later ht3' hb
    have ht5' := there_later ht5' hb
    have hs6_4t := there_later hs6_4t hb
    have ht4' := there_later ht4' hb
    have HC21 := oC (.bool true) hG 3
    have hbel0 := hbel
    clear hJ hG hall hb
    have hx : u7y 3 = .bool true := HC21.out
    go_wp2_with fail
    rw [hx]
    clear hx
    go_upto_region 8 with fail
    refine rgT [(22, 0), (0, 1), (0, 2), (0, 3)] [.val rQ [Cp.add (Cp.mul (s.val / 2 ^ (i + 1)) P) (Cp.mul (s.val / 2 ^ (i + 1)) P)], .val rQ [P], .val rR [dE], .val rQ [Cp.add (Cp.add (Cp.mul (s.val / 2 ^ (i + 1)) P) (Cp.mul (s.val / 2 ^ (i + 1)) P)) P], .sto q6 rQ [Cp.add (Cp.add (Cp.mul (s.val / 2 ^ (i + 1)) P) (Cp.mul (s.val / 2 ^ (i + 1)) P)) P]] ?_ ?_
    ·intro hs
     refine ⟨?_, ?_, ?_, ?_, ?_, trivial⟩
     ·exact step_load q6 0 hs Wn rfl rfl tyPt (fun _ => E6.out) hs6_4.lt hs6_4 Na
     ·exact step_load q2 0 hs Wn rfl rfl tyPt (fun _ => E2.out) hmP.lt hmP (apN (Ne.symm HD6_q2.out))
     ·exact step_load q5 0 hs Wn rfl rfl tyFe (fun _ => E5.out) hmD.lt hmD (apN (Ne.symm HD6_q5.out))
     ·refine step_call hs Wn rfl fun L u W hJ hG hL hdep K hK => ?_
      have a0 := (vE rQ [Cp.add (Cp.mul (s.val / 2 ^ (i + 1)) P) (Cp.mul (s.val / 2 ^ (i + 1)) P)] hG hdep 0)
      have a1 := (vE rQ [P] hG hdep 1)
      have a2 := (vE rR [dE] hG hdep 2)
      go_simp
      go_at_call 83
      (with_reducible refine (kAddD a0 a1 a2 _).mono ?_); rintro e w1 ⟨r, rfl, hr, hb⟩
      exact hK.out _ _ hr hb
     ·refine step_storeO q6 48 hs Wn rfl rfl (by kernel_rfl) (fun k hk => ?_) (fun _ => E6.out) (there_lt hs6_4t (by omega)) hs6_4t (gO 3) tyPt rfl
      rcases k with _ | _ | _ | _ | _ | k
      all_goals first | (exact absurd rfl hk) | (intro e; cases e; done)
    intro L8 u8y W8y hall hJ hG
    have hb := hJ.beN hbel
    have hbel := hbel.trans hb
    have hmP := kC hmP hJ HD6_q2.out
    have hmS := kC hmS hJ HD6_q3.out
    have hmD := kC hmD hJ HD6_q5.out
    have ht2' := tC ht2' hJ HD6_q2.out
    have ht3' := tC ht3' hJ HD6_q3.out
    have ht5' := tC ht5' hJ HD6_q5.out
    have ht4' := tC ht4' hJ HD6_q4.out
    obtain ⟨_, hs8_4t, hs8_4⟩ := oT 48 rQ [Cp.add (Cp.add (Cp.mul (s.val / 2 ^ (i + 1)) P) (Cp.mul (s.val / 2 ^ (i + 1)) P)) P] hG 4
    have hbel0 := hbel
    clear hJ hG hall hb
    go_wp2_with fail
    go_roundw
    case rel => exact ⟨i, by have := HI.out; omega, by go_num, hmP, hmS, hmD, (by rw [← mul_dig1 HB.out]; exact hs8_4), ht2', ht3', ht5', hs8_4t, ht4', hbel⟩
    case measure => simp [intOf]
   ·have HB := Lib.hid hb1; clear hb1
    go_upto_region 7 with fail
    refine rgT [(18, 0), (0, 1), (0, 2), (0, 3)] [.val rC [s], .oth (fun v => v = .int .i64 (i : Int)), .oth (fun v => v = .int .i64 0), .oth (fun v => v = .bool false)] ?_ ?_
    ·intro hs
     refine ⟨?_, ?_, ?_, ?_, trivial⟩
     ·exact step_load q3 0 hs Wn rfl rfl tySc (fun _ => E3.out) hmS.lt hmS Na
     ·exact mvK hs fun _ => rfl
     ·refine step_callO hs Wn rfl fun L u W hJ hG hL hdep K hK => ?_
      have a0 := (vE rC [s] hG hdep 0)
      have x0 := (oE (.int .i64 (i : Int)) hG hdep 1)
      go_simp
      go_at_call 84
      (with_reducible refine (kScBit (z := 0) (bit_0 (by have := HI.out; omega) HB.out) a0 _).mono ?_); rintro e w1 ⟨rfl, hb⟩
      have hk := hK.out _ _ rfl hb
      simp only [x0] at hk
      exact hk
     ·refine step_pureO hs Wn rfl fun L u W hG hdep => ⟨_, ?_, rfl⟩
      have e0 := (oE (.int .i64 0) hG hdep 2)
      go_simp
      try simp [bne]
    intro L7 u7n W7n hall hJ hG
    have hb := hJ.all rfl
    have hbel := Below.call hbel hb
    have hmP := hmP.later hb
    have hmS := hmS.later hb
    have hmD := hmD.later hb
    have hs6_4 := hs6_4.later hb
    have ht2' := there_later ht2' hb
    have ht3' := there_later ht3' hb
    have ht5' := there_later ht5' hb
    have hs6_4t := there_later hs6_4t hb
    have ht4' := there_later ht4' hb
    have HC21 := oC (.bool false) hG 3
    have hbel0 := hbel
    clear hJ hG hall hb
    have hx : u7n 3 = .bool false := HC21.out
    go_wp2_with fail
    rw [hx]
    clear hx
    go_wp2_with fail
    go_roundw
    case rel => exact ⟨i, by have := HI.out; omega, by go_num, hmP, hmS, hmD, (by rw [← mul_dig0 HB.out]; exact hs6_4), ht2', ht3', ht5', hs6_4t, ht4', hbel⟩
    case measure => simp [intOf]
  ·obtain rfl : j = 0 := by omega
   have hz : (((0 : Nat) : Int) - 1) = -1 := by omega
   simp only [hz]
   clear hz h0 hj
   go_upto_region 9 with fail
   refine rgT [(26, 0)] [.val rQ [Cp.mul (s.val / 2 ^ 0) P], .sto q4 rQ [Cp.mul (s.val / 2 ^ 0) P]] ?_ ?_
   ·intro hs
    refine ⟨?_, ?_, trivial⟩
    ·exact step_load q6 0 hs Wn rfl rfl tyPt (fun _ => E6.out) hmO.lt hmO (apN HD6_q4.out)
    ·refine step_storeO q4 48 hs Wn rfl rfl (by kernel_rfl) (fun k hk => ?_) (fun _ => E4.out) (there_lt ht4' (by omega)) ht4' (gO 0) tyPt rfl
     rcases k with _ | _ | k
     all_goals first | (exact absurd rfl hk) | (intro e; cases e; done)
   intro L9 u9 W9 hall hJ hG
   have hb := hJ.beN hbel
   have hbel := hbel.trans hb
   have hmP := kC hmP hJ HN2_4.out
   have hmS := kC hmS hJ HN3_4.out
   have hmD := kB hmD hJ HD5_q4.out
   have hmO := kB hmO hJ HD6_q4.out
   have ht2' := tC ht2' hJ HN2_4.out
   have ht3' := tC ht3' hJ HN3_4.out
   have ht5' := tB ht5' hJ HD5_q4.out
   have ht6' := tB ht6' hJ HD6_q4.out
   obtain ⟨_, hs9_1t, hs9_1⟩ := oT 48 rQ [Cp.mul (s.val / 2 ^ 0) P] hG 1
   have hbel0 := hbel
   clear hJ hG hall hb
   go_wp2
   exact ret_cell1 (R := rQ) Tryz.results33 (by exact E4.out) hs9_1 tyPt rfl (fun r hr => ⟨r, rfl, by rw [Nat.pow_zero, Nat.div_one] at hr; exact hr, hbel⟩)
end Go.Proofs.YtielgpefoameiaaGreat
