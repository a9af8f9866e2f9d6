/- What EV rests on, part 2 of 6: my own texts, put together (merge.py). -/
import Derived.Deep.RegionHeld3
import Derived.WalkKit
import Derived.ProofKit
import Derived.Lib.Hide
import Derived.OpenShut
import Derived.Deep.MidRow
import Derived.Test.YtielgpefoameiaaGreatRows
import Derived.WalkSpells
import Derived.StillTactics
import Derived.Laws.Pointers
import Derived.Laws.CopyOwn
import Derived.Laws.AppendOwnNone
import Derived.RowKit3
import Derived.BigQuiet
import Derived.Deep.QuietTactic
import Derived.Deep.LoopGhost
import Derived.Deep.DeepFit
import Derived.WalkLawsBesides
import Derived.Shelf.Spec.BitsCarry
import Derived.Laws.IdiomStrings
import Derived.Deep.WholeRow
import Derived.Laws.Rows
import Derived.Deep.DeepCutAuto
import Derived.Lib.AppendZerosOnto
import Derived.Lib.SliceRun
import Derived.Deep.Matrix
import Derived.Deep.AppendLies
import Derived.ShutString
import Derived.ChangeOld
import Derived.Test.YtielgpefoameiaaGreatZEVA
set_option maxRecDepth 100000
namespace Go.Proofs.YtielgpefoameiaaGreat
open Go.RowKit
theorem row8 (f : Nat → Value) : row 8 f = [f 0, f 1, f 2, f 3, f 4, f 5, f 6, f 7] := rfl
theorem row8_zero : row 8 (wV 0) = [.int .u64 0, .int .u64 0, .int .u64 0, .int .u64 0, .int .u64 0, .int .u64 0, .int .u64 0, .int .u64 0] := by
 simp only [row8, wV0]
set_option maxHeartbeats 1000000 in
theorem wide_any {a : Option Addr} {n cap : Nat} {l : List UInt8} (w : World) (h : RdB w a n cap l) :
  Calls Tryz.prog 20 #[.slice a n cap] w fun e w' => e = .returned (.agg #[.int .u64 (lw (leN (first l 64) % Lq) 0 : Nat), .int .u64 (lw (leN (first l 64) % Lq) 1 : Nat), .int .u64 (lw (leN (first l 64) % Lq) 2 : Nat), .int .u64 (lw (leN (first l 64) % Lq) 3 : Nat)]) ∧ Below w.heap.size w w' := by
 have hlen := first_len l 64
 generalize hfl : first l 64 = fl at *
 have HF := Lib.hid hfl; have HL := Lib.hid hlen
 clear hfl hlen
 go_enter Tryz.func20, Tryz.ntmps20
 go_wp2_with (go_at_call 55; go_must (refine (first_any 64 (by omega) _ (h.below belowBy)).mono ?_; rintro e w1 ⟨rfl, hB, hb⟩))
 have hbel : Below w.heap.size w w1 := Below.call belowBy hb
 have hO : Blk w1 w.heap.size (row 4 (wV 0)) 48 := by
  simp only [row4, wV0]
  exact ((Blk.new w _ _).alloc _).below' hb
 have hA : Blk w1 (w.heap.size + 1) (row 8 (wV (leN (fl.take 0)))) 84 := by
  rw [List.take_zero, show leN [] = 0 from rfl, row8_zero]
  exact (Blk.new' (by simp)).below' hb
 rw [HF.out] at hB
 clear hb h
 have hB : Blk w1 (w.heap.size + 1 + 1) (fl.map bV) 5 := by simpa using hB
 go_loopw [9] (fun i wr => ∃ k : Nat, k ≤ 64 ∧ i = .int .i64 k ∧ Blk wr (w.heap.size + 1) (row 8 (wV (leN (fl.take k)))) 84 ∧ Blk wr w.heap.size (row 4 (wV 0)) 48 ∧ Blk wr (w.heap.size + 1 + 1) (fl.map bV) 5 ∧ Below w.heap.size w wr) (fun i _ => 64 - (intOf i).toNat)
 case atStart => exact ⟨0, by omega, rfl, hA, hO, hB, hbel⟩
 case round =>
  clear hA hO hB hbel
  obtain ⟨k, hk, rfl, hA, hO, hB, hbel⟩ := hrel
  by_cases hlt : k < 64
  ·have hkl : k < fl.length := by rw [HL.out]; exact hlt
   have hcb : wr.cell? ⟨w.heap.size + 1 + 1, k, none⟩ = some (.int .u8 (fl[k].toNat : Int)) := by rw [hB.cell]; simp [hkl, bV]
   have HT := Lib.hid (leN_take fl k hkl)
   have hn := leN_take_lt fl k
   have HC := Lib.hid (fl[k].toNat_lt)
   generalize leN (fl.take k) = x at *
   generalize fl[k].toNat = c at *
   obtain ⟨ci, hci⟩ : ∃ ci : Int, ci = (c : Int) := ⟨_, rfl⟩
   have HI := Lib.hid hci
   rw [← hci] at hcb
   have hc0 : 0 ≤ ci := by omega
   have hc1 : ci < 256 := by have := HC.out; omega
   clear hci
   have hq : k / 8 < 8 := by omega
   have ca : wr.cell? ⟨w.heap.size + 1, k / 8, none⟩ = some (.int .u64 (lw x (k / 8) : Nat)) := hA.at hq
   have cf := hA.frozen (k / 8)
   have HN := Lib.hid hn
   have HS := Lib.hid (or_byteI x k c ci HI.out HN.out HC.out)
   have HO := Lib.hid hO; have HB := Lib.hid hB; have HA := Lib.hid hA
   clear hn hO hB hA
   go_wp2
   go_region
   rw [HS.out]
   have hA2 := HA.out.set (k / 8) (wV (x + c * 256 ^ k) (k / 8))
   rw [row_set (g := wV (x + c * 256 ^ k)) _ _ rfl (fun i _ hi => by unfold wV; rw [or_other x k c i HN.out HC.out hi])] at hA2
   have hO2 := HO.out.other ⟨w.heap.size + 1, k / 8, none⟩ (by simp) (wV (x + c * 256 ^ k) (k / 8))
   have hB2 := HB.out.other ⟨w.heap.size + 1, k / 8, none⟩ (by simp) (wV (x + c * 256 ^ k) (k / 8))
   have HA2 := Lib.hid hA2; have HO2 := Lib.hid hO2; have HB2 := Lib.hid hB2
   clear hA2 hO2 hB2 ca cf hcb
   go_wp2
   go_roundw
   case rel => exact ⟨k + 1, by omega, by go_num, by rw [HT.out]; exact HA2.out.drew, HO2.out.drew, HB2.out.drew, belowBy⟩
   case measure => simp [intOf] <;> omega
  ·obtain rfl : k = 64 := by omega
   rw [List.take_of_length_le (by rw [HL.out]; omega)] at hA
   have hN : leN fl < 2 ^ (8 * 64) := by have := leN_lt fl; rw [HL.out, p256] at this; exact this
   have HN := Lib.hid hN
   clear hN hB hlt hk
   generalize hx : leN fl = x at *
   have HX := Lib.hid hx
   clear hx
   have g0 : wr.cell? ⟨w.heap.size + 1, 0, none⟩ = some (.int .u64 (lw x 0 : Nat)) := hA.at (by omega); have g1 : wr.cell? ⟨w.heap.size + 1, 1, none⟩ = some (.int .u64 (lw x 1 : Nat)) := hA.at (by omega); have g2 : wr.cell? ⟨w.heap.size + 1, 2, none⟩ = some (.int .u64 (lw x 2 : Nat)) := hA.at (by omega); have g3 : wr.cell? ⟨w.heap.size + 1, 3, none⟩ = some (.int .u64 (lw x 3 : Nat)) := hA.at (by omega); have g4 : wr.cell? ⟨w.heap.size + 1, 4, none⟩ = some (.int .u64 (lw x 4 : Nat)) := hA.at (by omega); have g5 : wr.cell? ⟨w.heap.size + 1, 5, none⟩ = some (.int .u64 (lw x 5 : Nat)) := hA.at (by omega); have g6 : wr.cell? ⟨w.heap.size + 1, 6, none⟩ = some (.int .u64 (lw x 6 : Nat)) := hA.at (by omega); have g7 : wr.cell? ⟨w.heap.size + 1, 7, none⟩ = some (.int .u64 (lw x 7 : Nat)) := hA.at (by omega)
   go_wp2_with (go_at_call 56; go_must (refine (reduced_any x (8 * 64) (by omega) (by omega) HN.out _).mono ?_; rintro e w2 ⟨rfl, hb⟩; have hO1 := hO.below' hb; have hbel1 := Below.call hbel hb; have gf := hO1.frozen; have o0 : w2.cell? ⟨w.heap.size, 0, none⟩ = some (.int .u64 (lw 0 0 : Nat)) := hO1.at (by omega); have o1 : w2.cell? ⟨w.heap.size, 1, none⟩ = some (.int .u64 (lw 0 1 : Nat)) := hO1.at (by omega); have o2 : w2.cell? ⟨w.heap.size, 2, none⟩ = some (.int .u64 (lw 0 2 : Nat)) := hO1.at (by omega); have o3 : w2.cell? ⟨w.heap.size, 3, none⟩ = some (.int .u64 (lw 0 3 : Nat)) := hO1.at (by omega); clear hb hO hA))
   exact bodyPost_ret (v := .agg #[.int .u64 (lw (x % Lq) 0 : Nat), .int .u64 (lw (x % Lq) 1 : Nat), .int .u64 (lw (x % Lq) 2 : Nat), .int .u64 (lw (x % Lq) 3 : Nat)]) (by simp [results, Tryz.results20, go_sem, o0, o1, o2, o3]) rfl ⟨by rw [HX.out], belowBy⟩
set_option maxHeartbeats 1000000 in
theorem bytes_blk (n : Nat) (w : World) :
  Calls Tryz.prog 29 #[.agg #[.int .u64 (lw n 0 : Nat), .int .u64 (lw n 1 : Nat), .int .u64 (lw n 2 : Nat), .int .u64 (lw n 3 : Nat)]] w fun e w' => ∃ g cap r, e = .returned (.slice (some ⟨g, 0, none⟩) 32 cap) ∧ w.heap.size ≤ g ∧ Blk w' g ((leB 32 n).map bV ++ r) 5 ∧ 32 ≤ cap ∧ cap ≤ maxLen ∧ Below w.heap.size w w' := by
 obtain ⟨i0, hi, hz0, hz1, hz2⟩ := info_parts infoU8
 go_enter Tryz.func29, Tryz.ntmps29
 go_wp2
 go_loopw [2, 7] (fun v i wr => ∃ k : Nat, k ≤ 4 ∧ i = .int .i64 k ∧ wr.ownsRow w.heap.size 5 1 v (8 * k) ((leB (8 * k) n).map bV) ∧ Below w.heap.size w wr) (fun _ i _ => 4 - (intOf i).toNat)
 case atStart => exact ⟨0, by omega, rfl, ⟨rfl, .inl ⟨rfl, rfl⟩⟩, belowBy⟩
 case round =>
  obtain ⟨k, hk, rfl, hown, hbel⟩ := hrel
  by_cases hlt : k < 4
  ·have hx := ix4 n k hlt
   have hw := lw_lt n k
   have HW := Lib.hid (leB_words n k)
   have HI := Lib.hid hi; have HZ0 := Lib.hid hz0; have HZ1 := Lib.hid hz1; have HZ2 := Lib.hid hz2
   clear hi hz0 hz1 hz2
   go_wp2_with (first | (go_at_call 71; go_must (refine (little_any hw _).mono ?_; rintro e w1 ⟨rfl, hB, hb⟩; have hown1 := own_below hown hb; have hbel1 := Below.call hbel hb; have HB := Lib.hid hB; clear hown hbel hB hb)) | (at_builtin; go_must (refine wpList_append_own _ rfl (.tmp 10) (.tmp 12) 22 rfl w.heap.size 5 i0 (.int .u8 0) 1 1 Tryz.underlying22 HI.out HZ0.out HZ1.out HZ2.out rfl (by decide) _ (8 * k) _ rfl hown1 ⟨wr.heap.size, 0, none⟩ 8 8 ((leB 8 (lw n k)).map bV) rfl ?c1 ?c2 (bV_one _) ?c3 ?c4 hbel1.size ?c5)))
   case c1 => simp [leB_len]
   case c2 =>
    intro j u hu
    have := HB.out.cell j
    rw [addr_add, Nat.zero_add, this]; exact hu
   case c3 => unfold maxLen; omega
   case c4 => omega
   case c5 =>
    intro v' w2 hown2 hgr _
    rw [← List.map_append, ← HW.out, show 8 * k + 8 = 8 * (k + 1) from rfl] at hown2
    have hbel2 : Below w.heap.size w w2 := hbel1.grown hgr hbel1.size (fun q hq => by
     rcases hown1.2 with ⟨h, _⟩ | ⟨g, cap, cur, hv, hg, _⟩
     ·rw [h] at hq; simp [Value.ownBlock] at hq
     ·rw [hv] at hq; simp [Value.ownBlock] at hq; omega)
    clear hown1 hbel1 hgr HB HW HI HZ0 HZ1 HZ2 hw hx
    go_wp2
    go_roundw
    case rel => exact ⟨k + 1, by omega, by go_num, hown2, hbel2⟩
    case measure => simp [intOf] <;> omega
  ·obtain rfl : k = 4 := by omega
   obtain ⟨g, cap, r, rfl, hg, hB, hl, hc, hm⟩ := own_rdb hown (by omega)
   have HR := Lib.hid hB
   clear hown hB hl hi hz0 hz1 hz2
   go_wp2
   go_ret
   exact ⟨g, cap, r, rfl, hg, HR.out, hc, hm, hbel⟩
theorem bytes_any (n : Nat) (w : World) :
  Calls Tryz.prog 29 #[.agg #[.int .u64 (lw n 0 : Nat), .int .u64 (lw n 1 : Nat), .int .u64 (lw n 2 : Nat), .int .u64 (lw n 3 : Nat)]] w fun e w' => ∃ g cap, e = .returned (.slice (some ⟨g, 0, none⟩) 32 cap) ∧ w.heap.size ≤ g ∧ RdB w' (some ⟨g, 0, none⟩) 32 cap (leB 32 n) ∧ Below w.heap.size w w' :=
 (bytes_blk n w).mono fun _ _ ⟨g, cap, r, he, hg, hB, hc, hm, hb⟩ => ⟨g, cap, he, hg, RdB.blk r hB (leB_len _ _) hc hm, hb⟩
set_option maxHeartbeats 1000000 in
theorem scbit_any (n k : Nat) (hk : k < 256) (w : World) :
  Calls Tryz.prog 61 #[.agg #[.int .u64 (lw n 0 : Nat), .int .u64 (lw n 1 : Nat), .int .u64 (lw n 2 : Nat), .int .u64 (lw n 3 : Nat)], .int .i64 k] w fun e w' => e = .returned (.int .i64 (n / 2 ^ k % 2 : Nat)) ∧ Below w.heap.size w w' := by
 have hx : [Value.int IntKind.u64 (lw n 0 : Nat), Value.int IntKind.u64 (lw n 1 : Nat), Value.int IntKind.u64 (lw n 2 : Nat), Value.int IntKind.u64 (lw n 3 : Nat)][k / 64]? = some (.int .u64 (lw n (k / 64) : Nat)) := by
  have h : k / 64 = 0 ∨ k / 64 = 1 ∨ k / 64 = 2 ∨ k / 64 = 3 := by omega
  rcases h with h | h | h | h <;> rw [h] <;> rfl
 have HB : Hid (bits BinOp.and IntKind.u64 (((lw n (k / 64) : Nat) : Int) / 2 ^ (k % 64)) 1 = (n / 2 ^ k % 2 : Nat)) := by
  refine Lib.hid ?_
  have hq : lw n (k / 64) / 2 ^ (k % 64) < 18446744073709551616 := Nat.lt_of_le_of_lt (Nat.div_le_self _ _) (lw_lt _ _)
  have e : ((lw n (k / 64) : Nat) : Int) / 2 ^ (k % 64) = ((lw n (k / 64) / 2 ^ (k % 64) : Nat) : Int) := by simp
  rw [e, show (1 : Int) = ((1 : Nat) : Int) from rfl, u64_and_nat _ 1 hq (by omega), Nat.and_one_is_mod, lw_bit]
 have hl := lw_lt n (k / 64)
 generalize lw n (k / 64) = x at *
 obtain ⟨xi, hxi⟩ : ∃ xi : Int, xi = (x : Int) := ⟨_, rfl⟩
 rw [← hxi] at hx HB
 have hx0 : 0 ≤ xi := by omega
 have hx1 : xi < 18446744073709551616 := by omega
 clear hxi hl
 go_enter Tryz.func61, Tryz.ntmps61
 go_wp2
 go_ret
 refine ⟨ret_int (b := (n / 2 ^ k % 2 : Nat)) ?_, belowBy⟩
 rw [HB.out, IntWalk.wrap64_in]; omega
theorem scbit_no (n : Nat) {k : Int} (hk : ¬ (0 ≤ k ∧ k ≤ 255)) (w : World) : Calls Tryz.prog 61 #[.agg #[.int .u64 (lw n 0 : Nat), .int .u64 (lw n 1 : Nat), .int .u64 (lw n 2 : Nat), .int .u64 (lw n 3 : Nat)], .int .i64 k] w fun e w' => e = .returned (.int .i64 0) ∧ Below w.heap.size w w' := by
 by_cases h0 : k < 0
 ·have d1 : decide (k < 0) = true := decide_eq_true h0
  clear hk h0
  go_enter Tryz.func61, Tryz.ntmps61
  go_wp2
  go_ret
  exact ⟨rfl, belowBy⟩
 ·have d1 : decide (k < 0) = false := decide_eq_false h0
  have d2 : decide (256 ≤ k) = true := decide_eq_true (by omega)
  clear hk h0
  go_enter Tryz.func61, Tryz.ntmps61
  go_wp2
  go_ret
  exact ⟨rfl, belowBy⟩
def scOk (l : List UInt8) : Bool := decide (l.length = 32) && decide (leN l < Lq)
theorem sc_back (l : List UInt8) (h : l.length = 32) : (leB 32 (leN l % Lq) = l) ↔ leN l < Lq := by
 have hL : Lq < 2 ^ (8 * 32) := Lq_lt
 have h1 : leN l < 2 ^ (8 * 32) := by have := leN_lt l; rw [h, p256] at this; exact this
 have h2 := leB_leN l
 rw [h] at h2
 have hm := Nat.mod_lt (leN l) (show 0 < Lq by unfold Lq; omega)
 constructor
 ·intro e
  have e2 : leN l % Lq = leN l := leB_inj (Nat.lt_trans hm hL) h1 (e.trans h2.symm)
  rw [← e2]; exact hm
 ·intro e; rw [Nat.mod_eq_of_lt e]; exact h2
theorem buildS (w : World) : (Instr.build 48 #[]).run Tryz.prog w = .ok (.agg #[.int .u64 0, .int .u64 0, .int .u64 0, .int .u64 0]) w := by kernel_rfl
set_option maxHeartbeats 1000000 in
theorem strict_yes {a : Option Addr} {n cap : Nat} {l : List UInt8} (w : World) (h : RdB w a n cap l) (hok : scOk l = true) :
  Calls Tryz.prog 43 #[.slice a n cap] w fun e w' => e = .returned (.tuple #[.agg #[.int .u64 (lw (leN l) 0 : Nat), .int .u64 (lw (leN l) 1 : Nat), .int .u64 (lw (leN l) 2 : Nat), .int .u64 (lw (leN l) 3 : Nat)], .int .i64 0]) ∧ Below w.heap.size w w' := by
 simp only [scOk, Bool.and_eq_true, decide_eq_true_eq] at hok
 obtain ⟨h32, hlt⟩ := hok
 have hn := h.hlen
 obtain rfl : n = 32 := by omega
 have HQ : Hid (decide (leB 32 (leN l % Lq) = l) = true) := Lib.hid (by simpa using (sc_back l h32).2 hlt)
 have e1 : leN (first l 64) % Lq = leN l := by rw [leN_first, List.take_of_length_le (by omega), Nat.mod_eq_of_lt hlt]
 have hW := fun w h => wide_any (a := a) (n := 32) (cap := cap) (l := l) w h
 rw [e1] at hW
 rw [Nat.mod_eq_of_lt hlt] at HQ
 have HW := Lib.hid hW
 clear hn e1 hW h32 hlt
 go_enter Tryz.func43, Tryz.ntmps43
 go_wp2_with (first | (go_at_call 20; go_must (refine (HW.out _ (h.below belowBy)).mono ?_; rintro e w1 ⟨rfl, hb1⟩; have hO1 := (Blk.new w _ _).below' hb1; have oc := hO1.cell; have of := hO1.frozen; have hbel1 : Below w.heap.size w w1 := Below.call belowBy hb1; clear hb1))     | (go_at_call 29; go_must (refine (bytes_any (leN l) _).mono ?_; rintro e w2 ⟨g, gc, rfl, hg, hR, hb2⟩; have hS2 := (Blk.new w1 _ _).below' hb2; have hO2 := (hO1.alloc _).below' hb2; have hbel2 := Below.call (show Below w.heap.size w _ from belowBy) hb2; clear hb2 hO1 hbel1))     | (go_at_call 99; go_must (refine (equal_any _ hR (h.below hbel2)).mono ?_; rintro e w3 ⟨rfl, hb3⟩; rw [HQ.out]; have hO3 := hO2.below' hb3; have hS3 := hS2.below' hb3; have hbel3 := Below.call hbel2 hb3; clear oc of hO2 hS2 hbel2 hb3 hR; have oc := hO3.cell; have of := hO3.frozen; have sc := hS3.cell)))
 exact bodyPost_ret (v := .tuple #[.agg #[.int .u64 (lw (leN l) 0 : Nat), .int .u64 (lw (leN l) 1 : Nat), .int .u64 (lw (leN l) 2 : Nat), .int .u64 (lw (leN l) 3 : Nat)], .int .i64 0]) (by simp [results, Tryz.results43, go_sem, oc]) rfl ⟨rfl, belowBy⟩
set_option maxHeartbeats 1000000 in
theorem strict_no {a : Option Addr} {n cap : Nat} {l : List UInt8} (w : World) (h : RdB w a n cap l) (hok : scOk l = false) :
  Calls Tryz.prog 43 #[.slice a n cap] w fun e w' => e = .returned (.tuple #[.agg #[.int .u64 (lw 0 0 : Nat), .int .u64 (lw 0 1 : Nat), .int .u64 (lw 0 2 : Nat), .int .u64 (lw 0 3 : Nat)], .int .i64 2]) ∧ Below w.heap.size w w' := by
 have hz : ∀ i, lw 0 i = 0 := fun i => by unfold lw; rw [Nat.zero_div]
 rw [hz, hz, hz, hz]
 clear hz
 have hbS := buildS
 by_cases h32 : l.length = 32
 ·have hlt : ¬ leN l < Lq := by
   intro hh; simp only [scOk, h32, hh, decide_true, Bool.and_self] at hok; cases hok
  have hn := h.hlen
  obtain rfl : n = 32 := by omega
  have HQ : Hid (decide (leB 32 (leN l % Lq) = l) = false) := Lib.hid (by simpa using fun e => hlt ((sc_back l h32).1 e))
  have e1 : leN (first l 64) % Lq = leN l % Lq := by rw [leN_first, List.take_of_length_le (by omega)]
  have hW := fun w h => wide_any (a := a) (n := 32) (cap := cap) (l := l) w h
  rw [e1] at hW
  generalize leN l % Lq = x at *
  have HW := Lib.hid hW
  clear hn e1 hW h32 hlt
  go_enter Tryz.func43, Tryz.ntmps43
  go_wp2_with (first | (go_at_call 20; go_must (refine (HW.out _ (h.below belowBy)).mono ?_; rintro e w1 ⟨rfl, hb1⟩; have hO1 := (Blk.new w _ _).below' hb1; have oc := hO1.cell; have of := hO1.frozen; have hbel1 : Below w.heap.size w w1 := Below.call belowBy hb1; clear hb1))       | (go_at_call 29; go_must (refine (bytes_any x _).mono ?_; rintro e w2 ⟨g, gc, rfl, hg, hR, hb2⟩; have hS2 := (Blk.new w1 _ _).below' hb2; have hO2 := (hO1.alloc _).below' hb2; have hbel2 := Below.call (show Below w.heap.size w _ from belowBy) hb2; clear hb2 hO1 hbel1))       | (go_at_call 99; go_must (refine (equal_any _ hR (h.below hbel2)).mono ?_; rintro e w3 ⟨rfl, hb3⟩; rw [HQ.out]; have hO3 := hO2.below' hb3; have hS3 := hS2.below' hb3; have hbel3 := Below.call hbel2 hb3; clear oc of hO2 hS2 hbel2 hb3 hR; have oc := hO3.cell; have of := hO3.frozen; have sc := hS3.cell)))
  exact bodyPost_ret (v := .tuple #[.agg #[.int .u64 0, .int .u64 0, .int .u64 0, .int .u64 0], .int .i64 2]) (by simp [results, Tryz.results43, go_sem, oc]) rfl ⟨rfl, belowBy⟩
 ·have hne : ((n : Int) != 32) = true := by have := h.hlen; simp; omega
  clear h
  go_enter Tryz.func43, Tryz.ntmps43
  go_wp2
  exact bodyPost_ret (v := .tuple #[.agg #[.int .u64 0, .int .u64 0, .int .u64 0, .int .u64 0], .int .i64 2]) (by simp [results, Tryz.results43, go_sem]) rfl ⟨rfl, belowBy⟩
set_option maxHeartbeats 400000 in
theorem fill_any {a : Option Addr} {n cap : Nat} {l : List UInt8} (k : Nat) (hk : k ≤ 1000) (w : World) (h : RdB w a n cap l) :
  Calls Tryz.prog 87 #[.slice a n cap, .int .i64 k] w fun e w' => e = .returned (.slice (some ⟨w.heap.size, 0, none⟩) k k) ∧ Blk w' w.heap.size ((first l k).map bV) 5 ∧ Below w.heap.size w w' := by
 obtain ⟨i0, hi, hz0, hz1, hz2⟩ := info_parts infoU8
 have hkk : k ≤ maxLen := by unfold maxLen; omega
 have hgl := Lib.hid h.hlen
 go_enter Tryz.func87, Tryz.ntmps87
 go_wp2_with (at_make; refine wpList_make_full _ rfl _ _ 22 rfl w.heap.size 5 i0 (.int .u8 0) 1 Tryz.underlying22 hi hz0 hz1 .i64 .i64 _ _ k rfl rfl rfl rfl ?_ hkk (Nat.le_refl _) ?_)
 ·rw [hz2]; omega
 ·intro w1 hown hgr
  have hB := Blk.own hown
  have hb1 : Below w.heap.size w w1 := (Below.refl _ _).grown hgr (Nat.le_refl _) (by simp)
  rw [madeU8 k] at hB
  clear hown hgr hi hz0 hz1 hz2
  have h1 := h.below hb1
  go_wp2_with (refine wpList_copy_splice rfl (.tmp 8) (.tmp 9) 22 22 rfl 5 Tryz.underlying22 infoSz _ _ _ _ _ _ rfl rfl w.heap.size 0 (zer k) 5 hB (cpy l (Nat.min n k)) ?_ ?_ ?_ (cpy_one _ _) w.heap.size w hb1 (Nat.le_refl _) ?_)
  ·rw [cpy_len, hgl.out]; show min (min n k) n = min n k; omega
  ·exact fun hpos => h1.src _ hpos
  ·rw [zer_len, cpy_len]; show 0 + min (min n k) l.length ≤ k; omega
  ·intro w2 hB2 hb2
   have hB3 : Hid (Blk w2 w.heap.size ((first l k).map bV) 5) := by
    rw [splice_first l k n hgl.out] at hB2; exact hB2
   clear hB2
   go_wp2
   go_ret
   exact ⟨rfl, hB3.out, hb2⟩
def uV (f : Nat → Nat) (i : Nat) : Value := .int .u8 (f i : Nat)
def byF (l : List UInt8) (i : Nat) : Nat := (l.getD i 0).toNat
theorem byF_lt (l : List UInt8) (i : Nat) : byF l i < 256 := UInt8.toNat_lt _
theorem bytes_row (l : List UInt8) (n : Nat) (h : l.length = n) : l.map bV = row n (uV (byF l)) := by
 apply List.ext_getElem
 ·simp [row, h]
 ·intro i h1 h2
  have hi : i < l.length := by simpa using h1
  simp [row, uV, byF, bV, hi]
end Go.Proofs.YtielgpefoameiaaGreat
namespace Go.Proofs.YtielgpefoameiaaGreat
def dB (n m : Nat) : Nat := n / 256 ^ m % 256
theorem dB_lt (n m : Nat) : dB n m < 256 := Nat.mod_lt _ (by omega)
def bR (n x i : Nat) : Nat := dB x (n - 1 - i)
theorem pow256 (m : Nat) : 0 < 256 ^ m := Nat.pow_pos (by omega)
theorem div_succ256 (n m : Nat) : n / 256 ^ (m + 1) = n / 256 ^ m / 256 := by rw [Nat.pow_succ, Nat.div_div_eq_div_mul]
def shc (r b m : Nat) : Nat := ((r % 256 ^ m) * 2 + b) / 256 ^ m
theorem shc_zero (r b : Nat) : shc r b 0 = b := by simp [shc, Nat.mod_one]
theorem shc_lt (r b m : Nat) (h : b < 2) : shc r b m < 2 := by
 have := Nat.mod_lt r (pow256 m)
 have hp := pow256 m
 unfold shc
 rw [Nat.div_lt_iff_lt_mul hp]
 omega
theorem sh_div (r b m : Nat) : (2 * r + b) / 256 ^ m = 2 * (r / 256 ^ m) + shc r b m := by
 have hp := pow256 m
 have e := Nat.div_add_mod r (256 ^ m)
 have : 2 * r + b = (r % 256 ^ m * 2 + b) + 256 ^ m * (2 * (r / 256 ^ m)) := by
  rw [Nat.mul_left_comm]; omega
 rw [this, Nat.add_mul_div_left _ _ hp, Nat.add_comm]; rfl
theorem sh_step (r b m : Nat) (h : b < 2) : dB (2 * r + b) m = 2 * dB r m % 256 + shc r b m ∧ shc r b (m + 1) = dB r m / 128 := by
 have hc := shc_lt r b m h
 have hc1 := shc_lt r b (m + 1) h
 have e1 := sh_div r b m
 have e2 := sh_div r b (m + 1)
 have e3 := div_succ256 r m
 have e4 := div_succ256 (2 * r + b) m
 unfold dB
 generalize r / 256 ^ (m + 1) = q1 at *
 generalize (2 * r + b) / 256 ^ (m + 1) = q2 at *
 generalize (2 * r + b) / 256 ^ m = q3 at *
 generalize r / 256 ^ m = q4 at *
 generalize shc r b m = c at *
 generalize shc r b (m + 1) = c1 at *
 constructor <;> omega
def bwB (a b m : Nat) : Nat := if a % 256 ^ m < b % 256 ^ m then 1 else 0
theorem bwB_zero (a b : Nat) : bwB a b 0 = 0 := by simp [bwB, Nat.mod_one]
theorem bwB_le (a b m : Nat) : bwB a b m ≤ 1 := by unfold bwB; split <;> omega
theorem mod_succ256 (n m : Nat) : n % 256 ^ (m + 1) = dB n m * 256 ^ m + n % 256 ^ m := by rw [Nat.pow_succ]; exact split_mod n (256 ^ m) 256
theorem lt_digits {p d e x y : Nat} (hx : x < p) (hy : y < p) : d * p + x < e * p + y ↔ d < e ∨ (d = e ∧ x < y) := by
 constructor
 ·intro h
  rcases Nat.lt_trichotomy d e with h1 | h1 | h1
  ·exact .inl h1
  ·subst h1; exact .inr ⟨rfl, by omega⟩
  ·exfalso
   have : (e + 1) * p ≤ d * p := Nat.mul_le_mul_right _ h1
   rw [Nat.succ_mul] at this
   omega
 ·rintro (h | ⟨rfl, h⟩)
  ·have : (d + 1) * p ≤ e * p := Nat.mul_le_mul_right _ h
   rw [Nat.succ_mul] at this
   omega
  ·omega
theorem bwB_succ (a b m : Nat) : bwB a b (m + 1) = if dB a m < dB b m + bwB a b m then 1 else 0 := by
 have h := lt_digits (d := dB a m) (e := dB b m) (Nat.mod_lt a (pow256 m)) (Nat.mod_lt b (pow256 m))
 unfold bwB
 rw [mod_succ256, mod_succ256]
 by_cases h1 : a % 256 ^ m < b % 256 ^ m
 ·rw [if_pos h1]
  by_cases h2 : dB a m < dB b m + 1
  ·rw [if_pos h2, if_pos (h.2 (by omega))]
  ·rw [if_neg h2, if_neg (fun h3 => by have := h.1 h3; omega)]
 ·rw [if_neg h1]
  by_cases h2 : dB a m < dB b m + 0
  ·rw [if_pos h2, if_pos (h.2 (by omega))]
  ·rw [if_neg h2, if_neg (fun h3 => by have := h.1 h3; omega)]
theorem sub_div256 {a b : Nat} (h : b ≤ a) (m : Nat) : (a - b) / 256 ^ m = a / 256 ^ m - b / 256 ^ m - bwB a b m ∧ b / 256 ^ m + bwB a b m ≤ a / 256 ^ m := by
 have hp := pow256 m
 have ea := Nat.div_add_mod a (256 ^ m)
 have eb := Nat.div_add_mod b (256 ^ m)
 have ha := Nat.mod_lt a hp
 have hb := Nat.mod_lt b hp
 have hq : b / 256 ^ m ≤ a / 256 ^ m := Nat.div_le_div_right h
 unfold bwB
 generalize a / 256 ^ m = qa at *
 generalize b / 256 ^ m = qb at *
 generalize a % 256 ^ m = ra at *
 generalize b % 256 ^ m = rb at *
 generalize 256 ^ m = p at *
 obtain ⟨d, rfl⟩ : ∃ d, qa = qb + d := ⟨qa - qb, by omega⟩
 rw [Nat.mul_add] at ea
 by_cases h1 : ra < rb
 ·rw [if_pos h1]
  have hd : 0 < d := by
   rcases Nat.eq_zero_or_pos d with h0 | h0
   ·subst h0; simp at ea; omega
   ·exact h0
  obtain ⟨e, rfl⟩ : ∃ e, d = e + 1 := ⟨d - 1, by omega⟩
  rw [Nat.mul_add, Nat.mul_one] at ea
  refine ⟨?_, by omega⟩
  have : a - b = (p + ra - rb) + p * e := by omega
  rw [this, Nat.add_mul_div_left _ _ hp, Nat.div_eq_of_lt (by omega)]
  omega
 ·rw [if_neg h1]
  refine ⟨?_, by omega⟩
  have : a - b = (ra - rb) + p * d := by omega
  rw [this, Nat.add_mul_div_left _ _ hp, Nat.div_eq_of_lt (by omega)]
  omega
theorem sub_step {a b : Nat} (h : b ≤ a) (m : Nat) : (dB (a - b) m : Int) = if ((dB a m : Nat) : Int) - (dB b m : Nat) - (bwB a b m : Nat) < 0 then ((dB a m : Nat) : Int) - (dB b m : Nat) - (bwB a b m : Nat) + 256 else ((dB a m : Nat) : Int) - (dB b m : Nat) - (bwB a b m : Nat) := by
 obtain ⟨e, hle⟩ := sub_div256 h m
 unfold dB
 rw [e]
 generalize a / 256 ^ m = qa at *
 generalize b / 256 ^ m = qb at *
 have := bwB_le a b m
 generalize bwB a b m = w at *
 split <;> omega
theorem bwB_int (a b m : Nat) : (bwB a b (m + 1) : Int) = if ((dB a m : Nat) : Int) - (dB b m : Nat) - (bwB a b m : Nat) < 0 then 1 else 0 := by
 rw [bwB_succ]
 by_cases h : dB a m < dB b m + bwB a b m
 ·rw [if_pos h, if_pos (by omega)]; rfl
 ·rw [if_neg h, if_neg (by omega)]; rfl
def beN (l : List UInt8) : Nat := leN l.reverse
theorem beN_take (l : List UInt8) (k : Nat) (h : k < l.length) : beN (l.take (k + 1)) = 256 * beN (l.take k) + l[k].toNat := by
 unfold beN
 rw [List.take_succ_eq_append_getElem h, List.reverse_append]
 show leN (l[k] :: (l.take k).reverse) = _
 show l[k].toNat + 256 * leN _ = _
 omega
def partN (v c k : Nat) : Nat := v * 2 ^ (8 - k) + c / 2 ^ k
theorem partN_8 (v c : Nat) (h : c < 256) : partN v c 8 = v := by unfold partN; omega
theorem partN_0 (v c : Nat) : partN v c 0 = 256 * v + c := by unfold partN; omega
theorem partN_step (v c k : Nat) (h : k < 8) : partN v c k = 2 * partN v c (k + 1) + c / 2 ^ k % 2 := by
 have : k = 0 ∨ k = 1 ∨ k = 2 ∨ k = 3 ∨ k = 4 ∨ k = 5 ∨ k = 6 ∨ k = 7 := by omega
 unfold partN
 rcases this with rfl | rfl | rfl | rfl | rfl | rfl | rfl | rfl <;> simp <;> omega
theorem part_once (v c k : Nat) (h : k < 8) : partN v c k % Lq = once (2 * (partN v c (k + 1) % Lq) + c / 2 ^ k % 2) := by
 have hL : 0 < Lq := by unfold Lq; omega
 have h1 := Nat.mod_lt (partN v c (k + 1)) hL
 rw [once_mod (by omega), partN_step v c k h]
 generalize partN v c (k + 1) = q at *
 generalize c / 2 ^ k % 2 = b at *
 have e := Nat.div_add_mod q Lq
 have : 2 * q + b = (2 * (q % Lq) + b) + Lq * (2 * (q / Lq)) := by rw [Nat.mul_left_comm]; omega
 rw [this, Nat.add_mul_mod_self_left]
theorem cmp_digit {x y m : Nat} (hq : x / 256 ^ (m + 1) = y / 256 ^ (m + 1)) (hne : dB x m ≠ dB y m) : decide (y ≤ x) = decide (dB y m < dB x m) := by
 rw [div_succ256, div_succ256] at hq
 have ex := Nat.div_add_mod x (256 ^ m)
 have ey := Nat.div_add_mod y (256 ^ m)
 have hx := Nat.mod_lt x (pow256 m)
 have hy := Nat.mod_lt y (pow256 m)
 unfold dB at *
 rw [decide_eq_decide]
 generalize x / 256 ^ m = qx at *
 generalize y / 256 ^ m = qy at *
 generalize x % 256 ^ m = rx at *
 generalize y % 256 ^ m = ry at *
 have hl := lt_digits (d := qx) (e := qy) hx hy
 rw [Nat.mul_comm qx, Nat.mul_comm qy] at hl
 generalize 256 ^ m * qx = X at *
 generalize 256 ^ m * qy = Y at *
 omega
theorem cmp_same {x y m : Nat} (hq : x / 256 ^ (m + 1) = y / 256 ^ (m + 1)) (he : dB x m = dB y m) : x / 256 ^ m = y / 256 ^ m := by
 rw [div_succ256, div_succ256] at hq
 unfold dB at he
 omega
end Go.Proofs.YtielgpefoameiaaGreat
namespace Go.Proofs.YtielgpefoameiaaGreat
open Go.RowKit
def NewBy (w : World) (l : List UInt8) (e : Ending) (w' : World) : Prop := ∃ g n cap r, e = .returned (.slice (some ⟨g, 0, none⟩) n cap) ∧ w.heap.size ≤ g ∧ Blk w' g (l.map bV ++ r) 5 ∧ l.length = n ∧ n ≤ cap ∧ cap ≤ maxLen ∧ Below w.heap.size w w'
theorem order_row : row 32 (uV (bR 32 Lq)) = [.int .u8 16, .int .u8 0, .int .u8 0, .int .u8 0, .int .u8 0, .int .u8 0, .int .u8 0, .int .u8 0, .int .u8 0, .int .u8 0, .int .u8 0, .int .u8 0, .int .u8 0, .int .u8 0, .int .u8 0, .int .u8 0, .int .u8 20, .int .u8 222, .int .u8 249, .int .u8 222, .int .u8 162, .int .u8 247, .int .u8 156, .int .u8 214, .int .u8 88, .int .u8 18, .int .u8 99, .int .u8 26, .int .u8 92, .int .u8 245, .int .u8 211, .int .u8 237] := by kernel_rfl
theorem rorder_any (w : World) : Calls Tryz.prog 120 #[] w fun e w' => e = .returned (.slice (some ⟨w.heap.size, 0, none⟩) 32 32) ∧ Blk w' w.heap.size (row 32 (uV (bR 32 Lq))) 5 ∧ Below w.heap.size w w' := by
 go_enter Tryz.func120, Tryz.ntmps120
 go_wp2
 go_ret
 refine ⟨rfl, ?_, belowBy⟩
 rw [order_row]
 exact Blk.new w _ _
theorem drop_rev (l : List UInt8) (j : Nat) (h : j < l.length) : (l.drop j).reverse = (l.drop (j + 1)).reverse ++ [l[j]] := by
 rw [List.drop_eq_getElem_cons h, List.reverse_cons]
set_option maxHeartbeats 1000000 in
theorem rturned_any {a : Option Addr} {n cap : Nat} {l : List UInt8} (w : World) (h : RdB w a n cap l) (h0 : 0 < n) (hn : n ≤ 1000) :
  Calls Tryz.prog 86 #[.slice a n cap] w (NewBy w l.reverse) := by
 have hlen := h.hlen
 rcases h.cases with ⟨h1, _⟩ | ⟨b, o, _, rfl, hc⟩
 ·omega
 have HC := Lib.hid hc
 have HL := Lib.hid hlen
 clear h hc hlen
 have hn' : (n : Int) ≤ 1000 := by omega
 go_enter Tryz.func86, Tryz.ntmps86
 go_wp2
 go_loopw [3, 4] (fun v i wr => ∃ j : Nat, j ≤ n ∧ i = .int .i64 ((j : Int) - 1) ∧ wr.ownsRow w.heap.size 5 1 v (n - j) ((l.drop j).reverse.map bV) ∧ Below w.heap.size w wr) (fun _ i _ => (intOf i + 1).toNat)
 case atStart => exact ⟨n, Nat.le_refl _, rfl, by rw [List.drop_eq_nil_of_le (by rw [HL.out]; exact Nat.le_refl _), Nat.sub_self]; exact World.ownsRow_nil _ _ _ _, Below.refl _ _⟩
 case round =>
  obtain ⟨j, hj, rfl, hown, hbel⟩ := hrel
  by_cases hj0 : j = 0
  ·subst hj0
   rw [List.drop_zero, Nat.sub_zero] at hown
   obtain ⟨g, cap', r, rfl, hg, hB, hl, hcc, hm⟩ := own_rdb hown h0
   have HB := Lib.hid hB
   clear hown hB
   rw [show (((0 : Nat) : Int) - 1) = -1 from rfl]
   go_wp2
   go_ret
   exact ⟨g, n, cap', r, rfl, hg, HB.out, by simpa using hl, hcc, hm, hbel⟩
  ·obtain ⟨i, rfl⟩ : ∃ i, j = i + 1 := ⟨j - 1, by omega⟩
   have hil : i < l.length := by have := HL.out; omega
   rw [show (((i + 1 : Nat) : Int) - 1) = (i : Int) from by omega]
   have hin : (i : Int) < (n : Int) := by omega
   have hi0 : (0 : Int) ≤ (i : Int) := by omega
   have c0 := HC.out i hil
   have HD := Lib.hid (drop_rev l i hil)
   generalize l[i] = c at *
   have c1 : wr.cell? ⟨b, o + i, none⟩ = some (bV c) := by rw [hbel.cell (cell_lt c0)]; exact c0
   unfold bV at c1
   have HO := Lib.hid hown
   have hsz : n - (i + 1) ≤ 1000 := by omega
   clear hown c0 hj0
   go_wp2_with (at_builtin; refine app_bytes _ rfl (.tmp 12) (.tmp 17) rfl w.heap.size _ (n - (i + 1)) _ rfl (own_below HO.out belowBy) _ 1 1 [c] rfl (RdB.blk (l := [c]) [] (Blk.new wr #[.int .u8 (c.toNat : Int)] 5) rfl (by omega) (by unfold maxLen; omega)) (by omega) (by have := hbel.size; simp; omega) w belowBy ?_; intro v' w2 hown2 hbel2; have HO2 : Hid (w2.ownsRow w.heap.size 5 1 v' (n - i) ((l.drop i).reverse.map bV)) := Lib.hid (by rw [HD.out]; have e : n - i = n - (i + 1) + 1 := (by omega); rw [e]; exact hown2); clear hown2)
   go_roundw
   case rel => exact ⟨i, by omega, rfl, HO2.out, hbel2⟩
   case measure => simp [intOf]
theorem top33 {x : Nat} (h : dB x 32 = 0) (hx : x < 256 ^ 33) : x / 256 ^ 32 = Lq / 256 ^ 32 := by
 have h1 : x / 256 ^ 32 < 256 := by rw [Nat.div_lt_iff_lt_mul (by decide)]; exact hx
 have h2 : Lq / 256 ^ 32 = 0 := by decide +kernel
 unfold dB at h
 omega
theorem high33 {x : Nat} (h : dB x 32 ≠ 0) : Lq ≤ x := by
 have h1 : 256 ^ 32 ≤ x := by
  rcases Nat.lt_or_ge x (256 ^ 32) with h2 | h2
  ·unfold dB at h; rw [Nat.div_eq_of_lt h2] at h; simp at h
  ·exact h2
 exact Nat.le_trans (by decide +kernel) h1
set_option maxHeartbeats 1000000 in
theorem rabove_any (x : Nat) (hx : x < 256 ^ 33) (w : World) : Calls Tryz.prog 121 #[.agg (row 33 (uV (bR 33 x))).toArray] w fun e w' => e = .returned (.bool (decide (Lq ≤ x))) ∧ Below w.heap.size w w' := by
 go_enter Tryz.func121, Tryz.ntmps121
 go_upto_region 2 with (go_at_call 120; go_must (refine (rorder_any _).mono ?_; rintro e w1 ⟨rfl, hP, hb⟩; have hA := (Blk.new w (row 33 (uV (bR 33 x))).toArray 138).below' hb; have hbel : Below w.heap.size w w1 := Below.call belowBy hb; clear hb))
 refine wp_gen (fun W => Blk W w.heap.size (row 33 (uV (bR 33 x))) 138 ∧ Blk W (w.heap.size + 1) (row 32 (uV (bR 32 Lq))) 5 ∧ Below w.heap.size w W) ?_ (fun W0 hW => ?_)
 ·exact ⟨hA, by simpa using hP, hbel⟩
 clear hA hP hbel w1
 obtain ⟨hA, hP, hbel⟩ := hW
 have c0 : W0.cell? ⟨w.heap.size, 0, none⟩ = some (.int .u8 (dB x 32 : Nat)) := hA.at (by omega)
 by_cases h0 : dB x 32 = 0
 ·have HT := Lib.hid (top33 h0 hx)
  rw [h0] at c0
  clear hx h0
  go_wp2
  go_loopw [4] (fun i wr => ∃ k : Nat, k ≤ 32 ∧ i = .int .i64 (k : Int) ∧ x / 256 ^ (32 - k) = Lq / 256 ^ (32 - k) ∧ Blk wr w.heap.size (row 33 (uV (bR 33 x))) 138 ∧ Blk wr (w.heap.size + 1) (row 32 (uV (bR 32 Lq))) 5 ∧ Below w.heap.size w wr) (fun i _ => (32 - intOf i).toNat)
  case atStart => exact ⟨0, by omega, rfl, HT.out, hA, hP, hbel⟩
  case round =>
   clear hA hP hbel c0 W0
   obtain ⟨k, hk, rfl, hq, hA, hP, hbel⟩ := hrel
   by_cases hlt : k < 32
   ·have k0 : (0 : Int) ≤ (k : Int) := by omega
    have k1 : (k : Int) < 32 := by omega
    have ca : wr.cell? ⟨w.heap.size, k + 1, none⟩ = some (.int .u8 (dB x (31 - k) : Nat)) := by
     have := hA.at (k := k + 1) (by omega)
     rw [this]; unfold uV bR; rw [show 33 - 1 - (k + 1) = 31 - k by omega]
    have cp : wr.cell? ⟨w.heap.size + 1, k, none⟩ = some (.int .u8 (dB Lq (31 - k) : Nat)) := by
     have := hP.at (k := k) hlt
     rw [this]; unfold uV bR; rw [show 32 - 1 - k = 31 - k by omega]
    have hq' : x / 256 ^ (31 - k + 1) = Lq / 256 ^ (31 - k + 1) := by rw [show 31 - k + 1 = 32 - k by omega]; exact hq
    have HA := Lib.hid hA; have HP := Lib.hid hP; have HQ := Lib.hid hq'
    clear hA hP hq hq'
    by_cases he : dB x (31 - k) = dB Lq (31 - k)
    ·have HE := Lib.hid (cmp_same HQ.out he)
     rw [he] at ca
     generalize ((dB Lq (31 - k) : Nat) : Int) = B at *
     clear he
     go_wp2
     go_region
     go_wp2
     go_roundw
     case rel => exact ⟨k + 1, by omega, by go_num, by rw [show 32 - (k + 1) = 31 - k by omega]; exact HE.out, HA.out, HP.out, belowBy⟩
     case measure => simp [intOf]; omega
    ·have HE := Lib.hid (cmp_digit HQ.out he)
     have hneI : (((dB x (31 - k) : Nat) : Int) != ((dB Lq (31 - k) : Nat) : Int)) = true := by simp; omega
     have hlt2 : decide (((dB Lq (31 - k) : Nat) : Int) < ((dB x (31 - k) : Nat) : Int)) = decide (dB Lq (31 - k) < dB x (31 - k)) := by simp
     obtain ⟨q, hq⟩ : ∃ q, decide (Lq ≤ x) = q := ⟨_, rfl⟩
     rw [hq] at HE
     rw [← HE.out] at hlt2
     have HF := Lib.hid hq
     generalize ((dB x (31 - k) : Nat) : Int) = A at *
     generalize ((dB Lq (31 - k) : Nat) : Int) = B at *
     clear he hq HE
     go_wp2
     go_region
     go_wp2
     go_region
     go_wp2
     go_ret
     exact ⟨ret_bool HF.out.symm, belowBy⟩
   ·obtain rfl : k = 32 := by omega
    have HD : Hid (decide (Lq ≤ x) = true) := Lib.hid (decide_eq_true (by simp at hq; omega))
    clear hq hA hP hlt
    go_wp2
    go_ret
    exact ⟨ret_bool HD.out.symm, belowBy⟩
 ·have HD : Hid (decide (Lq ≤ x) = true) := Lib.hid (decide_eq_true (high33 h0))
  have hneI : (((dB x 32 : Nat) : Int) != 0) = true := by simp; omega
  generalize ((dB x 32 : Nat) : Int) = A at *
  clear h0 hx
  go_wp2
  go_ret
  exact ⟨ret_bool HD.out.symm, hbel⟩
theorem raboveB {x : Nat} {b : Bool} (hx : x < 256 ^ 33) (hb : decide (Lq ≤ x) = b) (w : World) : Calls Tryz.prog 121 #[.agg (row 33 (uV (bR 33 x))).toArray] w fun e w' => e = .returned (.bool b) ∧ Below w.heap.size w w' := by
 subst hb; exact rabove_any x hx w
def shV (r b t i : Nat) : Nat := if t ≤ i then dB (2 * r + b) (32 - i) else dB r (32 - i)
theorem shV_start (r b : Nat) : row 33 (uV (shV r b 33)) = row 33 (uV (bR 33 r)) := row_ext fun i hi => by unfold uV shV bR; rw [if_neg (by omega)]
theorem shV_full (r b : Nat) : row 33 (uV (shV r b 0)) = row 33 (uV (bR 33 (2 * r + b))) := row_ext fun i hi => by unfold uV shV bR; rw [if_pos (by omega)]
theorem shV_step (r b t : Nat) : (row 33 (uV (shV r b (t + 1)))).set t (.int .u8 (dB (2 * r + b) (32 - t) : Nat)) = row 33 (uV (shV r b t)) := by
 refine row_set t _ (by simp [uV, shV]) (fun i _ hi => ?_)
 unfold uV shV
 by_cases h : t ≤ i
 ·rw [if_pos h, if_pos (by omega)]
 ·rw [if_neg h, if_neg (by omega)]
theorem z33_row : row 33 (uV (bR 33 0)) = [.int .u8 0,.int .u8 0,.int .u8 0,.int .u8 0,.int .u8 0,.int .u8 0,.int .u8 0,.int .u8 0,.int .u8 0,.int .u8 0,.int .u8 0,.int .u8 0,.int .u8 0,.int .u8 0,.int .u8 0,.int .u8 0,.int .u8 0,.int .u8 0,.int .u8 0,.int .u8 0,.int .u8 0,.int .u8 0,.int .u8 0,.int .u8 0,.int .u8 0,.int .u8 0,.int .u8 0,.int .u8 0,.int .u8 0,.int .u8 0,.int .u8 0,.int .u8 0,.int .u8 0] := by kernel_rfl
theorem infoA33 (f : Nat → Nat) : (Tryz.prog.info? 138).map (·.size) = some (row 33 (uV f)).length := by rw [row_len]; kernel_rfl
theorem one_rowB (n : Nat) (f : Nat → Nat) : ∀ v ∈ row n (uV f), v.oneCell' = true := fun v hv => by
 simp [row] at hv
 obtain ⟨i, _, rfl⟩ := hv
 rfl
theorem infoSc (f : Nat → Nat) : (Tryz.prog.info? 68).map (·.size) = some (row 32 (uV f)).length := by rw [row_len]; kernel_rfl
theorem infoScA (f : Nat → Nat) : (Tryz.prog.info? 68).map (·.size) = some (row 32 (uV f)).toArray.size := by rw [List.size_toArray]; exact infoSc f
theorem or_low (d c : Nat) (hd : d < 256) (hc : c < 2) : bits BinOp.or IntKind.u8 ((d : Int) * 2 % 256) (c : Int) = ((2 * d % 256 + c : Nat) : Int) := by
 have hc2 : c = 0 ∨ c = 1 := by omega
 rcases hc2 with rfl | rfl
 ·revert hd; revert d; decide +kernel
 ·revert hd; revert d; decide +kernel
theorem byte_bit (c j : Nat) (hc : c < 256) : bits BinOp.and IntKind.u8 ((c : Int) / 2 ^ j) 1 = ((c / 2 ^ j % 2 : Nat) : Int) := by
 have h1 : c / 2 ^ j < 256 := Nat.lt_of_le_of_lt (Nat.div_le_self _ _) hc
 rw [show ((c : Int) / 2 ^ j) = ((c / 2 ^ j : Nat) : Int) from by simp]
 generalize c / 2 ^ j = q at *
 revert h1; revert q; decide +kernel
def suV (x t i : Nat) : Nat := if t ≤ i then dB (x - Lq) (32 - i) else dB x (32 - i)
theorem suV_start (x : Nat) : row 33 (uV (suV x 33)) = row 33 (uV (bR 33 x)) := row_ext fun i hi => by unfold uV suV bR; rw [if_neg (by omega)]
theorem suV_full (x : Nat) : row 33 (uV (suV x 0)) = row 33 (uV (bR 33 (x - Lq))) := row_ext fun i hi => by unfold uV suV bR; rw [if_pos (by omega)]
theorem suV_step (x t : Nat) : (row 33 (uV (suV x (t + 1)))).set t (.int .u8 (dB (x - Lq) (32 - t) : Nat)) = row 33 (uV (suV x t)) := by
 refine row_set t _ (by simp [uV, suV]) (fun i _ hi => ?_)
 unfold uV suV
 by_cases h : t ≤ i
 ·rw [if_pos h, if_pos (by omega)]
 ·rw [if_neg h, if_neg (by omega)]
theorem dB_Lq32 : dB Lq 32 = 0 := by decide +kernel
set_option maxHeartbeats 4000000 in
theorem rmod_any {a : Option Addr} {n cap : Nat} {l : List UInt8} (w : World) (h : RdB w a n cap l) (hn : n ≤ 1000) :
  Calls Tryz.prog 85 #[.slice a n cap] w fun e w' => e = .returned (.agg (row 32 (uV (bR 32 (beN l % Lq)))).toArray) ∧ Below w.heap.size w w' := by
 have HH := Lib.hid h
 clear h
 have hn' : (n : Int) ≤ 1000 := by omega
 go_enter Tryz.func85, Tryz.ntmps85
 go_upto_region 3 with (go_at_call 120; go_must (refine (rorder_any _).mono ?_; rintro e w1 ⟨rfl, hP, hb⟩))
 refine wp_gen (fun W => Blk W w.heap.size [.int .u8 0, .int .u8 0, .int .u8 0, .int .u8 0, .int .u8 0, .int .u8 0, .int .u8 0, .int .u8 0, .int .u8 0, .int .u8 0, .int .u8 0, .int .u8 0, .int .u8 0, .int .u8 0, .int .u8 0, .int .u8 0, .int .u8 0, .int .u8 0, .int .u8 0, .int .u8 0, .int .u8 0, .int .u8 0, .int .u8 0, .int .u8 0, .int .u8 0, .int .u8 0, .int .u8 0, .int .u8 0, .int .u8 0, .int .u8 0, .int .u8 0, .int .u8 0] 68 ∧ Blk W (w.heap.size + 1) (row 33 (uV (bR 33 0))) 138 ∧ Blk W (w.heap.size + 1 + 1) (row 32 (uV (bR 32 Lq))) 5 ∧ Below w.heap.size w W) ?_ (fun W0 hW => ?_)
 ·rw [z33_row]
  exact ⟨((Blk.new w _ _).alloc _).below' hb, (Blk.new' (by simp)).below' hb, by simpa using hP, Below.call belowBy hb⟩
 clear hP hb w1
 obtain ⟨hO, hA, hP, hbel⟩ := hW
 go_wp2
 go_loopw [5] (fun i wr => ∃ k : Nat, k ≤ n ∧ i = .int .i64 (k : Int) ∧ Blk wr w.heap.size [.int .u8 0, .int .u8 0, .int .u8 0, .int .u8 0, .int .u8 0, .int .u8 0, .int .u8 0, .int .u8 0, .int .u8 0, .int .u8 0, .int .u8 0, .int .u8 0, .int .u8 0, .int .u8 0, .int .u8 0, .int .u8 0, .int .u8 0, .int .u8 0, .int .u8 0, .int .u8 0, .int .u8 0, .int .u8 0, .int .u8 0, .int .u8 0, .int .u8 0, .int .u8 0, .int .u8 0, .int .u8 0, .int .u8 0, .int .u8 0, .int .u8 0, .int .u8 0] 68 ∧ Blk wr (w.heap.size + 1) (row 33 (uV (bR 33 (beN (l.take k) % Lq)))) 138 ∧ Blk wr (w.heap.size + 1 + 1) (row 32 (uV (bR 32 Lq))) 5 ∧ Below w.heap.size w wr) (fun i _ => (n - intOf i).toNat)
 case atStart => exact ⟨0, by omega, rfl, hO, hA, hP, hbel⟩
 case round =>
  clear hO hA hP hbel W0
  obtain ⟨k, hk, rfl, hO, hA, hP, hbel⟩ := hrel
  by_cases hlt : k < n
  ·have hlen := HH.out.hlen
   obtain ⟨b, o, hab, hc⟩ := HH.out.get k (by omega)
   have HB := Lib.hid (beN_take l k (by omega))
   generalize beN (l.take k) = V at *
   generalize hcc : l[k] = c at *
   have hcl := c.toNat_lt
   obtain ⟨C, hC⟩ : ∃ C, C = c.toNat := ⟨_, rfl⟩
   rw [← hC] at HB hcl
   have hcell : w.cell? ⟨b, o + k, none⟩ = some (.int .u8 (C : Int)) := by rw [hC]; exact hc
   have HCELL := Lib.hid hcell
   subst hab
   clear hc hC hlen hcell hcc
   have k0 : (0 : Int) ≤ (k : Int) := by omega
   have k1 : (k : Int) < (n : Int) := by omega
   have e8 : partN V C 8 = V := partN_8 V C hcl
   rw [← e8] at hA
   have HCL := Lib.hid hcl
   clear e8 hlt
   go_upto_region 7 with fail
   go_loopw [6] (fun i wr => ∃ q : Nat, q ≤ 8 ∧ i = .int .i64 ((q : Int) - 1) ∧ Blk wr w.heap.size [.int .u8 0, .int .u8 0, .int .u8 0, .int .u8 0, .int .u8 0, .int .u8 0, .int .u8 0, .int .u8 0, .int .u8 0, .int .u8 0, .int .u8 0, .int .u8 0, .int .u8 0, .int .u8 0, .int .u8 0, .int .u8 0, .int .u8 0, .int .u8 0, .int .u8 0, .int .u8 0, .int .u8 0, .int .u8 0, .int .u8 0, .int .u8 0, .int .u8 0, .int .u8 0, .int .u8 0, .int .u8 0, .int .u8 0, .int .u8 0, .int .u8 0, .int .u8 0] 68 ∧ Blk wr (w.heap.size + 1) (row 33 (uV (bR 33 (partN V C q % Lq)))) 138 ∧ Blk wr (w.heap.size + 1 + 1) (row 32 (uV (bR 32 Lq))) 5 ∧ Below w.heap.size w wr) (fun i _ => (intOf i + 1).toNat)
   case atStart => exact ⟨8, by omega, rfl, hO, hA, hP, hbel⟩
   case round =>
    clear hO hA hP hbel
    obtain ⟨q, hq, rfl, hO, hA, hP, hbel⟩ := hrel
    by_cases hq0 : q = 0
    ·subst hq0
     rw [partN_0, ← HB.out] at hA
     rw [show (((0 : Nat) : Int) - 1) = -1 from rfl]
     go_wp2
     go_roundw
     case rel => exact ⟨k + 1, by omega, by go_num, hO, hA, hP, hbel⟩
     case measure => simp [intOf]; omega
    ·obtain ⟨j, rfl⟩ : ∃ j, q = j + 1 := ⟨q - 1, by omega⟩
     have hj : j < 8 := by omega
     rw [show (((j + 1 : Nat) : Int) - 1) = (j : Int) from by omega]
     have HPO := Lib.hid (part_once V C j hj)
     have HR : Hid (partN V C (j + 1) % Lq < Lq) := Lib.hid (Nat.mod_lt _ (by unfold Lq; omega))
     generalize partN V C (j + 1) % Lq = R at *
     have hcw : wr.cell? ⟨b, o + k, none⟩ = some (.int .u8 (C : Int)) := by rw [hbel.cell (cell_lt HCELL.out)]; exact HCELL.out
     have j0 : (0 : Int) ≤ (j : Int) := by omega
     have j1 : (j : Int) < 8 := by omega
     have hbit : bits BinOp.and IntKind.u8 ((C : Int) / 2 ^ j) 1 = ((C / 2 ^ j % 2 : Nat) : Int) := byte_bit C j HCL.out
     have HBT : Hid (C / 2 ^ j % 2 < 2) := Lib.hid (Nat.mod_lt _ (by omega))
     generalize C / 2 ^ j % 2 = bt at *
     clear hq0 hq
     go_upto_region 11 with fail
     go_loopw [7, 8] (fun cv i wr => ∃ t : Nat, t ≤ 33 ∧ i = .int .i64 ((t : Int) - 1) ∧ cv = .int .u8 (shc R bt (33 - t) : Nat) ∧ Blk wr w.heap.size [.int .u8 0, .int .u8 0, .int .u8 0, .int .u8 0, .int .u8 0, .int .u8 0, .int .u8 0, .int .u8 0, .int .u8 0, .int .u8 0, .int .u8 0, .int .u8 0, .int .u8 0, .int .u8 0, .int .u8 0, .int .u8 0, .int .u8 0, .int .u8 0, .int .u8 0, .int .u8 0, .int .u8 0, .int .u8 0, .int .u8 0, .int .u8 0, .int .u8 0, .int .u8 0, .int .u8 0, .int .u8 0, .int .u8 0, .int .u8 0, .int .u8 0, .int .u8 0] 68 ∧ Blk wr (w.heap.size + 1) (row 33 (uV (shV R bt t))) 138 ∧ Blk wr (w.heap.size + 1 + 1) (row 32 (uV (bR 32 Lq))) 5 ∧ Below w.heap.size w wr) (fun _ i _ => (intOf i + 1).toNat)
     case atStart => exact ⟨33, by omega, rfl, by rw [Nat.sub_self, shc_zero], hO, by rw [shV_start]; exact hA, hP, hbel⟩
     case round =>
      clear hO hA hP hbel hcw
      obtain ⟨t, ht, rfl, rfl, hO, hA, hP, hbel⟩ := hrel
      by_cases ht0 : t = 0
      ·subst ht0
       rw [shV_full] at hA
       have HX : Hid (2 * R + bt < 2 * Lq) := Lib.hid (by have := HR.out; have := HBT.out; omega)
       rw [show (((0 : Nat) : Int) - 1) = -1 from rfl]
       generalize 2 * R + bt = X at *
       have HX33 : Hid (X < 256 ^ 33) := Lib.hid (Nat.lt_trans HX.out (by decide +kernel))
       have hAr := hA.range
       have HA := Lib.hid hA; have HO := Lib.hid hO; have HP := Lib.hid hP
       clear hA hO hP
       by_cases hx : Lq ≤ X
       ·have HD := Lib.hid (decide_eq_true hx)
        have HXL := Lib.hid hx
        clear hx
        go_upto_region 17 with (first | (refine wpList_load_mid rfl 138 (.tmp 3) rfl (w.heap.size + 1) 0 rfl (row 33 (uV (bR 33 X))) _ hAr Tryz.underlying138 rfl (infoA33 _) ?_) | (go_at_call 121; (with_reducible refine (raboveB HX33.out HD.out _).mono ?_; rintro e w2 ⟨rfl, hb⟩; have HO2 := Lib.hid (HO.out.below' hb); have HA2 := Lib.hid (HA.out.below' hb); have HP2 := Lib.hid (HP.out.below' hb); have hbel2 := Below.call hbel hb; clear hAr hb)))
        go_upto_region 19 with fail
        go_loopw [10, 11] (fun bw i wr => ∃ t : Nat, t ≤ 33 ∧ i = .int .i64 ((t : Int) - 1) ∧ bw = .int .i64 (bwB X Lq (33 - t) : Nat) ∧ Blk wr w.heap.size [.int .u8 0, .int .u8 0, .int .u8 0, .int .u8 0, .int .u8 0, .int .u8 0, .int .u8 0, .int .u8 0, .int .u8 0, .int .u8 0, .int .u8 0, .int .u8 0, .int .u8 0, .int .u8 0, .int .u8 0, .int .u8 0, .int .u8 0, .int .u8 0, .int .u8 0, .int .u8 0, .int .u8 0, .int .u8 0, .int .u8 0, .int .u8 0, .int .u8 0, .int .u8 0, .int .u8 0, .int .u8 0, .int .u8 0, .int .u8 0, .int .u8 0, .int .u8 0] 68 ∧ Blk wr (w.heap.size + 1) (row 33 (uV (suV X t))) 138 ∧ Blk wr (w.heap.size + 1 + 1) (row 32 (uV (bR 32 Lq))) 5 ∧ Below w.heap.size w wr) (fun _ i _ => (intOf i + 1).toNat)
        case atStart => exact ⟨33, by omega, rfl, by rw [Nat.sub_self, bwB_zero]; rfl, HO2.out, by rw [suV_start]; exact HA2.out, HP2.out, hbel2⟩
        case round =>
         clear HO2 HA2 HP2 hbel2 HA HO HP hbel
         obtain ⟨t, ht, rfl, rfl, hO, hA, hP, hbel⟩ := hrel
         by_cases ht0 : t = 0
         ·subst ht0
          rw [suV_full] at hA
          have HON : Hid (once X = X - Lq) := Lib.hid (by unfold once; rw [if_neg (by have := HXL.out; omega)])
          rw [show (((0 : Nat) : Int) - 1) = -1 from rfl]
          have HA3 := Lib.hid hA; have HO3 := Lib.hid hO; have HP3 := Lib.hid hP
          clear hA hO hP
          go_wp2
          go_roundw
          case rel => exact ⟨j, by omega, rfl, HO3.out, by rw [HPO.out, HON.out]; exact HA3.out, HP3.out, hbel⟩
          case measure => simp [intOf]
         ·obtain ⟨i, rfl⟩ : ∃ i, t = i + 1 := ⟨t - 1, by omega⟩
          rw [show (((i + 1 : Nat) : Int) - 1) = (i : Int) from by omega]
          rw [show 33 - (i + 1) = 32 - i by omega]
          have s1 := sub_step HXL.out (32 - i)
          have s2 := bwB_int X Lq (32 - i)
          have s3 := bwB_le X Lq (32 - i)
          have s4 := dB_lt X (32 - i)
          have s5 := dB_lt Lq (32 - i)
          have ca : wr.cell? ⟨w.heap.size + 1, i, none⟩ = some (.int .u8 (dB X (32 - i) : Nat)) := by
           rw [hA.at (by omega)]; unfold uV suV; rw [if_neg (by omega)]
          have hfr := hA.frozen i
          have i0 : (0 : Int) ≤ (i : Int) := by omega
          have i1 : (i : Int) < 33 := by omega
          obtain ⟨D, hD⟩ : ∃ D, D = dB (X - Lq) (32 - i) := ⟨_, rfl⟩
          have s6 := dB_lt (X - Lq) (32 - i)
          rw [← hD] at s1 s6
          have hA2 := hA.set i (.int .u8 (D : Nat))
          rw [hD, suV_step] at hA2
          have HA3 := Lib.hid hA2
          have HO3 := Lib.hid (hO.other ⟨w.heap.size + 1, i, none⟩ (by simp) (.int .u8 (D : Nat)))
          have HP3 := Lib.hid (hP.other ⟨w.heap.size + 1, i, none⟩ (by simp) (.int .u8 (D : Nat)))
          rw [← hD] at HA3
          obtain ⟨v', hv'⟩ : ∃ v', v' = bwB X Lq (32 - i + 1) := ⟨_, rfl⟩
          have HBW := Lib.hid hv'
          rw [← hv'] at s2
          by_cases hi0 : i = 0
          ·subst hi0
           have hB0 : dB Lq (32 - 0) = 0 := dB_Lq32
           rw [hB0] at s1 s2
           generalize dB X (32 - 0) = A at *
           generalize bwB X Lq (32 - 0) = v at *
           obtain ⟨V0, hV0⟩ : ∃ V0 : Int, V0 = (A : Int) - ((0 : Nat) : Int) - (v : Int) := ⟨_, rfl⟩
           rw [← hV0] at s1 s2
           have hv1 : -256 ≤ V0 := by omega
           have hv2 : V0 ≤ 255 := by omega
           have HV0 := Lib.hid hV0
           have hvv := hV0
           clear hV0 hD hv' hA hO hP hA2 ht0 hB0 s5
           by_cases hneg : V0 < 0
           ·rw [if_pos hneg] at s1 s2
            have hv : (A : Int) - (v : Int) = V0 := by rw [HV0.out]; omega
            have hvn : V0 < 0 := by omega
            have hsum : V0 + 256 = (D : Nat) := by omega
            have HBN : Hid ((v' : Nat) = 1) := Lib.hid (by omega)
            clear s1 s2 hvv hneg
            go_wp2
            go_roundw
            case rel => exact ⟨0, by omega, rfl, by rw [show 33 - 0 = 32 - 0 + 1 by omega, ← HBW.out, HBN.out]; rfl, HO3.out, HA3.out, HP3.out, belowBy⟩
            case measure => simp [intOf]
           ·rw [if_neg hneg] at s1 s2
            have hv : (A : Int) - (v : Int) = V0 := by rw [HV0.out]; omega
            have hvn : ¬ V0 < 0 := by omega
            have hsum : V0 = (D : Nat) := by omega
            have HBN : Hid ((v' : Nat) = 0) := Lib.hid (by omega)
            clear hv1 hv2
            subst hsum
            clear s1 s2 hvv hneg
            go_wp2
            go_roundw
            case rel => exact ⟨0, by omega, rfl, by rw [show 33 - 0 = 32 - 0 + 1 by omega, ← HBW.out, HBN.out]; rfl, HO3.out, HA3.out, HP3.out, belowBy⟩
            case measure => simp [intOf]
          ·have cp : wr.cell? ⟨w.heap.size + 1 + 1, i - 1, none⟩ = some (.int .u8 (dB Lq (32 - i) : Nat)) := by
            have := hP.at (k := i - 1) (by omega)
            rw [this]; unfold uV bR; rw [show 32 - 1 - (i - 1) = 32 - i by omega]
           have ipos : (0 : Int) < (i : Int) := by omega
           generalize dB X (32 - i) = A at *
           generalize dB Lq (32 - i) = B at *
           generalize bwB X Lq (32 - i) = v at *
           obtain ⟨V0, hV0⟩ : ∃ V0 : Int, V0 = (A : Int) - (B : Int) - (v : Int) := ⟨_, rfl⟩
           rw [← hV0] at s1 s2
           have hv1 : -256 ≤ V0 := by omega
           have hv2 : V0 ≤ 255 := by omega
           have HV0 := Lib.hid hV0
           have hvv := hV0
           obtain ⟨i', rfl⟩ : ∃ i', i = i' + 1 := ⟨i - 1, by omega⟩
           rw [Nat.add_sub_cancel] at cp
           clear hV0 hD hv' hA hO hP hA2 ht0 hi0
           by_cases hneg : V0 < 0
           ·rw [if_pos hneg] at s1 s2
            have hv : (A : Int) - (B : Int) - (v : Int) = V0 := HV0.out.symm
            have hvn : V0 < 0 := by omega
            have hsum : V0 + 256 = (D : Nat) := by omega
            have HBN : Hid ((v' : Nat) = 1) := Lib.hid (by omega)
            clear s1 s2 hvv hneg
            go_wp2
            go_roundw
            case rel => exact ⟨i' + 1, by omega, by go_num, by rw [show 33 - (i' + 1) = 32 - (i' + 1) + 1 by omega, ← HBW.out, HBN.out]; rfl, HO3.out, HA3.out, HP3.out, belowBy⟩
            case measure => simp [intOf] <;> omega
           ·rw [if_neg hneg] at s1 s2
            have hv : (A : Int) - (B : Int) - (v : Int) = V0 := HV0.out.symm
            have hvn : ¬ V0 < 0 := by omega
            have hsum : V0 = (D : Nat) := by omega
            have HBN : Hid ((v' : Nat) = 0) := Lib.hid (by omega)
            clear hv1 hv2
            subst hsum
            clear s1 s2 hvv hneg
            go_wp2
            go_roundw
            case rel => exact ⟨i' + 1, by omega, by go_num, by rw [show 33 - (i' + 1) = 32 - (i' + 1) + 1 by omega, ← HBW.out, HBN.out]; rfl, HO3.out, HA3.out, HP3.out, belowBy⟩
            case measure => simp [intOf] <;> omega
       ·have HD := Lib.hid (decide_eq_false hx)
        have HON : Hid (once X = X) := Lib.hid (by unfold once; rw [if_pos (by omega)])
        clear hx
        go_wp2_with (first | (refine wpList_load_mid rfl 138 (.tmp 3) rfl (w.heap.size + 1) 0 rfl (row 33 (uV (bR 33 X))) _ hAr Tryz.underlying138 rfl (infoA33 _) ?_) | (go_at_call 121; (with_reducible refine (raboveB HX33.out HD.out _).mono ?_; rintro e w2 ⟨rfl, hb⟩; have HO2 := Lib.hid (HO.out.below' hb); have HA2 := Lib.hid (HA.out.below' hb); have HP2 := Lib.hid (HP.out.below' hb); have hbel2 := Below.call hbel hb; clear hAr hb)))
        go_roundw
        case rel => exact ⟨j, by omega, rfl, HO2.out, by rw [HPO.out, HON.out]; exact HA2.out, HP2.out, hbel2⟩
        case measure => simp [intOf] <;> omega
      ·obtain ⟨i, rfl⟩ : ∃ i, t = i + 1 := ⟨t - 1, by omega⟩
       rw [show (((i + 1 : Nat) : Int) - 1) = (i : Int) from by omega]
       rw [show 33 - (i + 1) = 32 - i by omega]
       obtain ⟨s1, s2⟩ := sh_step R bt (32 - i) HBT.out
       have s3 := shc_lt R bt (32 - i) HBT.out
       have s4 := dB_lt R (32 - i)
       have ca : wr.cell? ⟨w.heap.size + 1, i, none⟩ = some (.int .u8 (dB R (32 - i) : Nat)) := by
        rw [hA.at (by omega)]; unfold uV shV; rw [if_neg (by omega)]
       have hfr := hA.frozen i
       have i0 : (0 : Int) ≤ (i : Int) := by omega
       have i1 : (i : Int) < 33 := by omega
       obtain ⟨D, hD⟩ : ∃ D, D = dB (2 * R + bt) (32 - i) := ⟨_, rfl⟩
       obtain ⟨c', hc'⟩ : ∃ c', c' = shc R bt (32 - i + 1) := ⟨_, rfl⟩
       rw [← hD] at s1
       rw [← hc'] at s2
       have hA2 := hA.set i (.int .u8 (D : Nat))
       rw [hD, shV_step] at hA2
       have HA := Lib.hid hA2
       have HO := Lib.hid (hO.other ⟨w.heap.size + 1, i, none⟩ (by simp) (.int .u8 (D : Nat)))
       have HP := Lib.hid (hP.other ⟨w.heap.size + 1, i, none⟩ (by simp) (.int .u8 (D : Nat)))
       rw [← hD] at HA
       have HC := Lib.hid hc'
       generalize dB R (32 - i) = d at *
       generalize shc R bt (32 - i) = cc at *
       have f1 := or_low d cc s4 s3
       rw [← s1] at f1
       have f2 : (d : Int) / 128 = (c' : Nat) := by omega
       clear s1 s2 ht0 hA hO hP hA2 hc' hD
       go_wp2
       go_roundw
       case rel => exact ⟨i, by omega, rfl, by rw [HC.out, show 33 - i = 32 - i + 1 by omega], HO.out, HA.out, HP.out, belowBy⟩
       case measure => simp [intOf] <;> omega
  ·obtain rfl : k = n := by omega
   rw [List.take_of_length_le (by rw [HH.out.hlen]; exact Nat.le_refl _)] at hA
   obtain ⟨R, hR⟩ : ∃ R, R = beN l % Lq := ⟨_, rfl⟩
   rw [← hR] at hA
   have HRR := Lib.hid hR
   clear hR
   have HA := Lib.hid hA; have HO := Lib.hid hO
   clear hA hO hP
   go_upto_region 31 with fail
   have hN := Blk.new wr #[.int .u8 0, .int .u8 0, .int .u8 0, .int .u8 0, .int .u8 0, .int .u8 0, .int .u8 0, .int .u8 0, .int .u8 0, .int .u8 0, .int .u8 0, .int .u8 0, .int .u8 0, .int .u8 0, .int .u8 0, .int .u8 0, .int .u8 0, .int .u8 0, .int .u8 0, .int .u8 0, .int .u8 0, .int .u8 0, .int .u8 0, .int .u8 0, .int .u8 0, .int .u8 0, .int .u8 0, .int .u8 0, .int .u8 0, .int .u8 0, .int .u8 0, .int .u8 0] 68
   have hAN := HA.out.alloc (.cells #[.int .u8 0, .int .u8 0, .int .u8 0, .int .u8 0, .int .u8 0, .int .u8 0, .int .u8 0, .int .u8 0, .int .u8 0, .int .u8 0, .int .u8 0, .int .u8 0, .int .u8 0, .int .u8 0, .int .u8 0, .int .u8 0, .int .u8 0, .int .u8 0, .int .u8 0, .int .u8 0, .int .u8 0, .int .u8 0, .int .u8 0, .int .u8 0, .int .u8 0, .int .u8 0, .int .u8 0, .int .u8 0, .int .u8 0, .int .u8 0, .int .u8 0, .int .u8 0] 68)
   have hON := HO.out.alloc (.cells #[.int .u8 0, .int .u8 0, .int .u8 0, .int .u8 0, .int .u8 0, .int .u8 0, .int .u8 0, .int .u8 0, .int .u8 0, .int .u8 0, .int .u8 0, .int .u8 0, .int .u8 0, .int .u8 0, .int .u8 0, .int .u8 0, .int .u8 0, .int .u8 0, .int .u8 0, .int .u8 0, .int .u8 0, .int .u8 0, .int .u8 0, .int .u8 0, .int .u8 0, .int .u8 0, .int .u8 0, .int .u8 0, .int .u8 0, .int .u8 0, .int .u8 0, .int .u8 0] 68)
   have hbelN : Below w.heap.size w (wr.alloc (.cells #[.int .u8 0, .int .u8 0, .int .u8 0, .int .u8 0, .int .u8 0, .int .u8 0, .int .u8 0, .int .u8 0, .int .u8 0, .int .u8 0, .int .u8 0, .int .u8 0, .int .u8 0, .int .u8 0, .int .u8 0, .int .u8 0, .int .u8 0, .int .u8 0, .int .u8 0, .int .u8 0, .int .u8 0, .int .u8 0, .int .u8 0, .int .u8 0, .int .u8 0, .int .u8 0, .int .u8 0, .int .u8 0, .int .u8 0, .int .u8 0, .int .u8 0, .int .u8 0] 68)) := belowBy
   have hlt2 : w.heap.size + 1 < wr.heap.size := HA.out.lt
   generalize wr.alloc (.cells #[.int .u8 0, .int .u8 0, .int .u8 0, .int .u8 0, .int .u8 0, .int .u8 0, .int .u8 0, .int .u8 0, .int .u8 0, .int .u8 0, .int .u8 0, .int .u8 0, .int .u8 0, .int .u8 0, .int .u8 0, .int .u8 0, .int .u8 0, .int .u8 0, .int .u8 0, .int .u8 0, .int .u8 0, .int .u8 0, .int .u8 0, .int .u8 0, .int .u8 0, .int .u8 0, .int .u8 0, .int .u8 0, .int .u8 0, .int .u8 0, .int .u8 0, .int .u8 0] 68) = W at *
   generalize wr.heap.size = g at *
   have HN := Lib.hid hN; have HAN := Lib.hid hAN; have HON := Lib.hid hON; have HLT := Lib.hid hlt2
   clear hN hAN hON hlt2 HA HO hbel
   have hb1 : ∀ v ∈ row 32 (uV (bR 32 R)), v.oneCell' = true := fun v hv => by
    simp [row] at hv
    obtain ⟨i, _, rfl⟩ := hv
    rfl
   have hsrc : 0 < (row 32 (uV (bR 32 R))).length → (some (⟨g, 0, none⟩ : Addr)) = some ⟨g, 0, none⟩ ∧ ∃ ad, (some (⟨w.heap.size + 1, 1, none⟩ : Addr)) = some ad ∧ ∀ j v, (row 32 (uV (bR 32 R)))[j]? = some v → W.drew.cell? (ad.add j) = some v := fun _ => ⟨rfl, _, rfl, fun j v hv => by
    have hj : j < 32 := by have := (List.getElem?_eq_some_iff.1 hv).1; rwa [row_len] at this
    rw [row_get hj] at hv
    rw [addr_add, Nat.add_comm 1 j, ← hv, (Blk.drew HAN.out).at (by omega)]
    unfold uV bR
    rw [show 33 - 1 - (j + 1) = 32 - 1 - j by omega]⟩
   go_region_law (refine step_copy_splice rfl (.tmp 80) (.tmp 81) 22 22 rfl 5 Tryz.underlying22 infoSz (some ⟨g, 0, none⟩) (some ⟨w.heap.size + 1, 1, none⟩) 32 32 32 32 (by simp [Act.eval, Act.put]) (by simp [Act.eval, Act.put]) g 0 [.int .u8 0, .int .u8 0, .int .u8 0, .int .u8 0, .int .u8 0, .int .u8 0, .int .u8 0, .int .u8 0, .int .u8 0, .int .u8 0, .int .u8 0, .int .u8 0, .int .u8 0, .int .u8 0, .int .u8 0, .int .u8 0, .int .u8 0, .int .u8 0, .int .u8 0, .int .u8 0, .int .u8 0, .int .u8 0, .int .u8 0, .int .u8 0, .int .u8 0, .int .u8 0, .int .u8 0, .int .u8 0, .int .u8 0, .int .u8 0, .int .u8 0, .int .u8 0] 68 (Blk.drew HN.out) (row 32 (uV (bR 32 R))) (by rw [row_len]; rfl) hsrc (by rw [row_len]; decide) hb1 g W (Below.drew (Below.refl _ _)) (Nat.le_refl _) ?_; intro w4 hg4 hb4)
   have hsp : splice [.int .u8 0, .int .u8 0, .int .u8 0, .int .u8 0, .int .u8 0, .int .u8 0, .int .u8 0, .int .u8 0, .int .u8 0, .int .u8 0, .int .u8 0, .int .u8 0, .int .u8 0, .int .u8 0, .int .u8 0, .int .u8 0, .int .u8 0, .int .u8 0, .int .u8 0, .int .u8 0, .int .u8 0, .int .u8 0, .int .u8 0, .int .u8 0, .int .u8 0, .int .u8 0, .int .u8 0, .int .u8 0, .int .u8 0, .int .u8 0, .int .u8 0, .int .u8 0] 0 (row 32 (uV (bR 32 R))) = row 32 (uV (bR 32 R)) := by
    unfold splice
    rw [row_len]
    simp
   rw [hsp] at hg4
   have hB4 : Blk w4 g (row 32 (uV (bR 32 R))) 68 := hg4.out
   have hO4 := HON.out.below hb4 (by have := HLT.out; omega)
   have hbel4 : Below w.heap.size w w4 := hbelN.trans (hb4.mono (by have := HLT.out; omega))
   have hAr := hB4.range
   have hst := st_blk hO4 (cs := row 32 (uV (bR 32 R))) (by rw [row_len]; rfl) hb1
   have hB5 := hO4.row (row 32 (uV (bR 32 R)))
   have hbel5 := below_setRow hbel4 (Nat.le_refl _) (row 32 (uV (bR 32 R))).toArray
   have HB5 := Lib.hid hB5
   generalize w4.setRow w.heap.size (row 32 (uV (bR 32 R))).toArray = w5 at *
   clear hsp hg4 hB4 hO4 hbel4 hb4 hB5 hsrc hb1 HN HAN HON HLT hbelN
   go_wp2_with (refine wpList_load_mid rfl 68 (.tmp 14) rfl g 0 rfl (row 32 (uV (bR 32 R))) _ hAr Tryz.underlying68 rfl (infoSc _) ?_)
   refine bodyPost_ret (v := .agg (row 32 (uV (bR 32 R))).toArray) (results_cell_row Tryz.results85 _ _ w.heap.size _ _ _ _ ?_ HB5.out Tryz.underlying68 ?_ (infoScA _)) ?_ ?_
   ·rfl
   ·rfl
   ·rfl
   ·exact ⟨by rw [HRR.out], hbel5⟩
theorem rowB (n x : Nat) : row n (uV (bR n x)) = ((leB n x).reverse).map bV := by
 apply List.ext_getElem
 ·simp [row, leB_len]
 ·intro i h1 h2
  have hi : i < n := by simpa [row] using h1
  simp only [row, List.getElem_map, List.getElem_range, List.getElem_reverse, leB_get, leB_len, bV, uV, bR, dB, UInt8.toNat_ofNat']
  rw [p256]
def updN (c : Nat → Nat) (m v i : Nat) : Nat := if i = m then v else c i
theorem rdRow {w : World} {g n E x : Nat} (h : Blk w g (row n (uV (bR n x))) E) (hm : n ≤ maxLen) : RdB w (some ⟨g, 0, none⟩) n n ((leB n x).reverse) := by
 rw [rowB] at h
 exact RdB.blk (l := (leB n x).reverse) [] (by simpa using h) (by simp [leB_len]) (Nat.le_refl _) hm
theorem st_sc {B : Nat} {w0 w : World} {g E : Nat} {old : List Value} (h : Blk w g old E) (hl : old.length = 32) (hb : Below B w0 w) (hg : B ≤ g) (x : Nat) :
  ∃ W, (storeCells ⟨g, 0, none⟩ (row 32 (uV (bR 32 x)))).run Tryz.prog w = .ok () W ∧ Blk W g (row 32 (uV (bR 32 x))) E ∧ Below B w0 W :=
 ⟨_, st_blk h (by rw [row_len, hl]) (one_rowB 32 _), h.row _, below_setRow hb hg _⟩
set_option maxHeartbeats 1000000 in
theorem rwide_any {a : Option Addr} {n cap : Nat} {l : List UInt8} (w : World) (h : RdB w a n cap l) :
  Calls Tryz.prog 34 #[.slice a n cap] w fun e w' => e = .returned (.agg (row 32 (uV (bR 32 (leN (first l 64) % Lq)))).toArray) ∧ Below w.heap.size w w' := by
 go_enter Tryz.func34, Tryz.ntmps34
 go_wp2_with (first | (go_at_call 87; go_must (refine (fill_any 64 (by omega) _ (h.below belowBy)).mono ?_; rintro e w1 ⟨rfl, hC, hb⟩; have hO := (Blk.new w #[.int .u8 0, .int .u8 0, .int .u8 0, .int .u8 0, .int .u8 0, .int .u8 0, .int .u8 0, .int .u8 0, .int .u8 0, .int .u8 0, .int .u8 0, .int .u8 0, .int .u8 0, .int .u8 0, .int .u8 0, .int .u8 0, .int .u8 0, .int .u8 0, .int .u8 0, .int .u8 0, .int .u8 0, .int .u8 0, .int .u8 0, .int .u8 0, .int .u8 0, .int .u8 0, .int .u8 0, .int .u8 0, .int .u8 0, .int .u8 0, .int .u8 0, .int .u8 0] 68).below' hb; have hbel := Below.call (show Below w.heap.size w _ from belowBy) hb; clear hb h; have hR := RdB.blk (l := first l 64) (n := 64) (cap := 64) [] (by simpa using hC) (first_len _ _) (by omega) (by unfold maxLen; omega); have HO := Lib.hid hO; clear hC hO))     | (go_at_call 86; go_must (refine (rturned_any _ hR (by omega) (by omega)).mono ?_; rintro e w2 ⟨g, n2, c2, r2, rfl, hg, hT, hl, hc, hm, hb⟩; (rw [List.length_reverse, first_len] at hl); subst hl; have hR2 := RdB.blk r2 hT (by rw [List.length_reverse, first_len]) hc hm; have HO2 := Lib.hid (HO.out.below' hb); have hbel2 := Below.call hbel hb; clear hb hT hR))     | (go_at_call 85; go_must (refine (rmod_any _ hR2 (by omega)).mono ?_; rintro e w3 ⟨rfl, hb⟩; obtain ⟨W3, hst3, hB3, hbel3⟩ := st_sc (HO2.out.below' hb) rfl (Below.call hbel2 hb) (Nat.le_refl _) (beN (first l 64).reverse % Lq); have HB3 := Lib.hid hB3; clear hb hR2 hB3)))
 refine bodyPost_ret (v := .agg (row 32 (uV (bR 32 (beN (first l 64).reverse % Lq)))).toArray) (results_cell_row Tryz.results34 _ _ w.heap.size _ _ _ _ ?_ HB3.out Tryz.underlying68 ?_ (infoScA _)) ?_ ?_
 ·rfl
 ·rfl
 ·rfl
 ·exact ⟨by unfold beN; rw [List.reverse_reverse], hbel3⟩
theorem NewBy.on {w w1 w' : World} {l : List UInt8} {e : Ending} (h : NewBy w1 l e w') (hb : Below w.heap.size w w1) : NewBy w l e w' := by
 obtain ⟨g, n, cap, r, he, hg, hB, h1, h2, h3, hb'⟩ := h
 exact ⟨g, n, cap, r, he, Nat.le_trans hb.size hg, hB, h1, h2, h3, Below.call hb hb'⟩
theorem rscbytes_any (x : Nat) (w : World) : Calls Tryz.prog 40 #[.agg (row 32 (uV (bR 32 x))).toArray] w (NewBy w (leB 32 x)) := by
 have HR : Hid (∀ W : World, ∀ g, g = W.heap.size → RdB (W.alloc (.cells (row 32 (uV (bR 32 x))).toArray 68)) (some ⟨g, 0, none⟩) 32 32 ((leB 32 x).reverse)) := Lib.hid fun W g hg => by
  subst hg; exact rdRow (Blk.new W _ _) (by unfold maxLen; omega)
 go_enter Tryz.func40, Tryz.ntmps40
 go_wp2_with (go_at_call 86; go_must (refine (rturned_any _ (HR.out _ _ rfl) (by omega) (by omega)).mono ?_; intro e w1 hN; rw [List.reverse_reverse] at hN; have hN2 := Lib.hid (NewBy.on hN (show Below w.heap.size w _ from belowBy)); clear hN; obtain ⟨g, n', cap', r, he, hr⟩ := hN2.out; subst he))
 go_ret
 exact hN2.out
theorem rscbit_no (x : Nat) {k : Int} (hk : ¬ (0 ≤ k ∧ k ≤ 255)) (w : World) : Calls Tryz.prog 84 #[.agg (row 32 (uV (bR 32 x))).toArray, .int .i64 k] w fun e w' => e = .returned (.int .i64 0) ∧ Below w.heap.size w w' := by
 by_cases h0 : k < 0
 ·have d1 : decide (k < 0) = true := decide_eq_true h0
  clear hk h0
  go_enter Tryz.func84, Tryz.ntmps84
  go_wp2
  go_ret
  exact ⟨rfl, belowBy⟩
 ·have d1 : decide (k < 0) = false := decide_eq_false h0
  have d2 : decide (255 < k) = true := decide_eq_true (by omega)
  clear hk h0
  go_enter Tryz.func84, Tryz.ntmps84
  go_wp2
  go_ret
  exact ⟨rfl, belowBy⟩
theorem digit_bit (x k : Nat) (_h : k < 256) : dB x (k / 8) / 2 ^ (k % 8) % 2 = x / 2 ^ k % 2 := by
 unfold dB
 have e : x / 2 ^ k = x / 256 ^ (k / 8) / 2 ^ (k % 8) := by
  rw [Nat.div_div_eq_div_mul, p256, ← Nat.pow_add, show 8 * (k / 8) + k % 8 = k by omega]
 rw [e]
 generalize x / 256 ^ (k / 8) = q
 have : k % 8 = 0 ∨ k % 8 = 1 ∨ k % 8 = 2 ∨ k % 8 = 3 ∨ k % 8 = 4 ∨ k % 8 = 5 ∨ k % 8 = 6 ∨ k % 8 = 7 := by omega
 rcases this with h | h | h | h | h | h | h | h <;> rw [h] <;> simp <;> omega
theorem rscbit_yes (x k : Nat) (hk : k ≤ 255) (w : World) : Calls Tryz.prog 84 #[.agg (row 32 (uV (bR 32 x))).toArray, .int .i64 (k : Nat)] w fun e w' => e = .returned (.int .i64 (x / 2 ^ k % 2 : Nat)) ∧ Below w.heap.size w w' := by
 have HD := Lib.hid (digit_bit x k (by omega))
 have k0 : (0 : Int) ≤ (k : Int) := by omega
 have k1 : (k : Int) ≤ 255 := by omega
 have hA : ∀ W : World, ∀ g, g = W.heap.size → (W.alloc (.cells (row 32 (uV (bR 32 x))).toArray 68)).cell? ⟨g, 31 - k / 8, none⟩ = some (.int .u8 (dB x (k / 8) : Nat)) := fun W g hg => by
  subst hg
  have h := (Blk.new W (row 32 (uV (bR 32 x))).toArray 68).cell (31 - k / 8)
  rw [h]
  show (row 32 _)[31 - k / 8]? = _
  rw [row_get (by omega)]
  unfold uV bR
  rw [show 32 - 1 - (31 - k / 8) = k / 8 by omega]
 have hc : (w.alloc (.cells (row 32 (uV (bR 32 x))).toArray 68)).cell? ⟨w.heap.size, 31 - k / 8, none⟩ = some (.int .u8 (dB x (k / 8) : Nat)) := hA w _ rfl
 have hb := byte_bit (dB x (k / 8)) (k % 8) (dB_lt _ _)
 rw [HD.out] at hb
 generalize dB x (k / 8) = D at *
 have hbt : ((x / 2 ^ k % 2 : Nat) : Int) < 2 := by omega
 generalize x / 2 ^ k % 2 = bt at *
 have hsub : (31 : Int) - (k : Int) / 8 = ((31 - k / 8 : Nat) : Int) := by omega
 have hlt31 : ((31 - k / 8 : Nat) : Int) < 32 := by omega
 have hge31 : (0 : Int) ≤ ((31 - k / 8 : Nat) : Int) := by omega
 generalize hj : 31 - k / 8 = j at *
 clear hA hj
 go_enter Tryz.func84, Tryz.ntmps84
 go_wp2
 go_ret
 exact ⟨rfl, belowBy⟩
end Go.Proofs.YtielgpefoameiaaGreat
namespace Go.Proofs.YtielgpefoameiaaGreat
open Go Go.RowKit
theorem Lq_Pq : Lq < Pq := by decide +kernel
theorem Lq_0 : 0 < Lq := by unfold Lq; omega
theorem fn_sc {n : Nat} (h : n < Lq) : (fn n).val = n := Nat.mod_eq_of_lt (Nat.lt_trans h Lq_Pq)
def rS : Rp F where
 n := 4
 rep := fun x cs => x.val < Lq ∧ cs = [.int .u64 (lw x.val 0 : Nat), .int .u64 (lw x.val 1 : Nat), .int .u64 (lw x.val 2 : Nat), .int .u64 (lw x.val 3 : Nat)]
 pos := by omega
 len := fun _ _ h => by obtain ⟨_, rfl⟩ := h; rfl
 one := fun _ _ h v hv => by
  obtain ⟨_, rfl⟩ := h
  simp at hv
  rcases hv with rfl | rfl | rfl | rfl <;> rfl
theorem isS {n : Nat} (h : n < Lq) : IsFs rS (.agg #[.int .u64 (lw n 0 : Nat), .int .u64 (lw n 1 : Nat), .int .u64 (lw n 2 : Nat), .int .u64 (lw n 3 : Nat)]) [fn n] := ⟨_, rfl, Lims.single (R := rS) ⟨by rw [fn_sc h]; exact h, by rw [fn_sc h]⟩⟩
theorem of_isS {v : Value} {x : F} (h : IsFs rS v [x]) : x.val < Lq ∧ v = .agg #[.int .u64 (lw x.val 0 : Nat), .int .u64 (lw x.val 1 : Nat), .int .u64 (lw x.val 2 : Nat), .int .u64 (lw x.val 3 : Nat)] := by
 obtain ⟨cs, rfl, hc⟩ := h
 obtain ⟨h1, rfl⟩ := Lims.of_single hc
 exact ⟨h1, rfl⟩
def wS (l : List UInt8) : F := fn (leN (first l 64) % Lq)
def ssV (l : List UInt8) : F := if scOk l then fn (leN l) else 0
def ssC (l : List UInt8) : Int := if scOk l then 0 else 2
def bitI (x : F) (k : Int) : Int := if 0 ≤ k ∧ k ≤ 255 then ((x.val / 2 ^ k.toNat % 2 : Nat) : Int) else 0
theorem cWide {a : Option Addr} {n cap : Nat} {l : List UInt8} {x : F} {w : World} (hx : wS l = x) (h : RdB w a n cap l) :
  Calls Tryz.prog 20 #[.slice a n cap] w fun e w' => ∃ r, e = .returned r ∧ IsFs rS r [x] ∧ Below w.heap.size w w' := by
 subst hx
 exact (wide_any w h).mono fun _ _ ⟨he, hb⟩ => ⟨_, he, isS (Nat.mod_lt _ Lq_0), hb⟩
theorem cScBit {v : Value} {x : F} {k z : Int} (hz : bitI x k = z) (h : IsFs rS v [x]) (w : World) :
  Calls Tryz.prog 61 #[v, .int .i64 k] w fun e w' => e = .returned (.int .i64 z) ∧ Below w.heap.size w w' := by
 obtain ⟨hx, rfl⟩ := of_isS h
 subst hz
 by_cases hk : 0 ≤ k ∧ k ≤ 255
 ·obtain ⟨j, rfl⟩ : ∃ j : Nat, k = j := ⟨k.toNat, by omega⟩
  rw [bitI, if_pos hk]
  exact scbit_any x.val j (by omega) w
 ·rw [bitI, if_neg hk]
  exact scbit_no x.val hk w
theorem cScStrict {a : Option Addr} {n cap : Nat} {l : List UInt8} {x : F} {c : Int} {w : World} (hx : ssV l = x) (hc : ssC l = c) (h : RdB w a n cap l) :
  Calls Tryz.prog 43 #[.slice a n cap] w fun e w' => ∃ r, e = .returned (.tuple #[r, .int .i64 c]) ∧ IsFs rS r [x] ∧ Below w.heap.size w w' := by
 subst hx hc
 by_cases hok : scOk l = true
 ·rw [ssV, ssC, if_pos hok, if_pos hok]
  refine (strict_yes w h hok).mono fun _ _ ⟨he, hb⟩ => ⟨_, he, isS ?_, hb⟩
  simp only [scOk, Bool.and_eq_true, decide_eq_true_eq] at hok
  exact hok.2
 ·rw [ssV, ssC, if_neg hok, if_neg hok]
  exact (strict_no w h (by simpa using hok)).mono fun _ _ ⟨he, hb⟩ => ⟨_, he, isS Lq_0, hb⟩
theorem tyS : TyOk rS 48 1 := ⟨⟨_, Tryz.underlying48, rfl⟩, by kernel_rfl⟩
theorem allocS (w : World) : (Instr.alloc 48 true (.tuple #[])).run Tryz.prog w = .ok (.pointer (some ⟨w.heap.size, 0, none⟩)) (w.alloc (.cells #[.int .u64 0, .int .u64 0, .int .u64 0, .int .u64 0] 48)) := by kernel_rfl
def rC : Rp F where
 n := 32
 rep := fun x cs => x.val < Lq ∧ cs = row 32 (uV (bR 32 x.val))
 pos := by omega
 len := fun _ _ h => by obtain ⟨_, rfl⟩ := h; rw [row_len]
 one := fun _ _ h v hv => by obtain ⟨_, rfl⟩ := h; exact one_rowB 32 _ v hv
theorem isC {n : Nat} (h : n < Lq) : IsFs rC (.agg (row 32 (uV (bR 32 n))).toArray) [fn n] := ⟨_, rfl, Lims.single (R := rC) ⟨by rw [fn_sc h]; exact h, by rw [fn_sc h]⟩⟩
theorem of_isC {v : Value} {x : F} (h : IsFs rC v [x]) : x.val < Lq ∧ v = .agg (row 32 (uV (bR 32 x.val))).toArray := by
 obtain ⟨cs, rfl, hc⟩ := h
 obtain ⟨h1, rfl⟩ := Lims.of_single hc
 exact ⟨h1, rfl⟩
theorem kWide {a : Option Addr} {n cap : Nat} {l : List UInt8} {x : F} {w : World} (hx : wS l = x) (h : RdB w a n cap l) :
  Calls Tryz.prog 34 #[.slice a n cap] w fun e w' => ∃ r, e = .returned r ∧ IsFs rC r [x] ∧ Below w.heap.size w w' := by
 subst hx
 exact (rwide_any w h).mono fun _ _ ⟨he, hb⟩ => ⟨_, he, isC (Nat.mod_lt _ Lq_0), hb⟩
theorem kScBytes {v : Value} {x : F} (h : IsFs rC v [x]) (w : World) : Calls Tryz.prog 40 #[v] w (NewBy w (leB 32 x.val)) := by
 obtain ⟨_, rfl⟩ := of_isC h
 exact rscbytes_any x.val w
theorem kScBit {v : Value} {x : F} {k z : Int} (hz : bitI x k = z) (h : IsFs rC v [x]) (w : World) :
  Calls Tryz.prog 84 #[v, .int .i64 k] w fun e w' => e = .returned (.int .i64 z) ∧ Below w.heap.size w w' := by
 obtain ⟨hx, rfl⟩ := of_isC h
 subst hz
 by_cases hk : 0 ≤ k ∧ k ≤ 255
 ·obtain ⟨j, rfl⟩ : ∃ j : Nat, k = j := ⟨k.toNat, by omega⟩
  rw [bitI, if_pos hk]
  exact rscbit_yes x.val j (by omega) w
 ·rw [bitI, if_neg hk]
  exact rscbit_no x.val hk w
theorem tySc : TyOk rC 68 1 := ⟨⟨_, Tryz.underlying68, rfl⟩, by kernel_rfl⟩
theorem allocSc (w : World) : (Instr.alloc 68 true (.tuple #[])).run Tryz.prog w = .ok (.pointer (some ⟨w.heap.size, 0, none⟩)) (w.alloc (.cells #[.int .u8 0, .int .u8 0, .int .u8 0, .int .u8 0, .int .u8 0, .int .u8 0, .int .u8 0, .int .u8 0, .int .u8 0, .int .u8 0, .int .u8 0, .int .u8 0, .int .u8 0, .int .u8 0, .int .u8 0, .int .u8 0, .int .u8 0, .int .u8 0, .int .u8 0, .int .u8 0, .int .u8 0, .int .u8 0, .int .u8 0, .int .u8 0, .int .u8 0, .int .u8 0, .int .u8 0, .int .u8 0, .int .u8 0, .int .u8 0, .int .u8 0, .int .u8 0] 68)) := by kernel_rfl
theorem buildSc0 (w : World) : ∃ r, (Instr.build 68 #[]).run Tryz.prog w = .ok r w ∧ IsFs rC r [0] := by
 have h := isC Lq_0
 rw [show row 32 (uV (bR 32 0)) = [.int .u8 0, .int .u8 0, .int .u8 0, .int .u8 0, .int .u8 0, .int .u8 0, .int .u8 0, .int .u8 0, .int .u8 0, .int .u8 0, .int .u8 0, .int .u8 0, .int .u8 0, .int .u8 0, .int .u8 0, .int .u8 0, .int .u8 0, .int .u8 0, .int .u8 0, .int .u8 0, .int .u8 0, .int .u8 0, .int .u8 0, .int .u8 0, .int .u8 0, .int .u8 0, .int .u8 0, .int .u8 0, .int .u8 0, .int .u8 0, .int .u8 0, .int .u8 0] from by kernel_rfl] at h
 exact ⟨_, by kernel_rfl, h⟩
end Go.Proofs.YtielgpefoameiaaGreat
namespace Go.Proofs.YtielgpefoameiaaGreat
instance decEP : DecidableEq EP := fun P Q => decidable_of_iff (P.x = Q.x ∧ P.y = Q.y) ⟨fun h => Cp.ext' h.1 h.2, fun h => by subst h; exact ⟨rfl, rfl⟩⟩
theorem sub_nil {K : Type} [Lean.Grind.Field K] {y z : K} (h : y - z = 0) : y = z := by grind
theorem base_enc : encP base = 88 :: List.replicate 31 102 := by decide +kernel
theorem mul_two' (P : EP) : Cp.mul 2 P = P.add P := by show (Cp.add (Cp.add Cp.zero P) P) = _; rw [Cp.zero_add]
theorem mul_digit (P : EP) (n k : Nat) : Cp.mul (n / 2 ^ k) P = if n / 2 ^ k % 2 = 1 then ((Cp.mul (n / 2 ^ (k + 1)) P).add (Cp.mul (n / 2 ^ (k + 1)) P)).add P else (Cp.mul (n / 2 ^ (k + 1)) P).add (Cp.mul (n / 2 ^ (k + 1)) P) := by
 rw [← Cp.mul_add]
 have h : n / 2 ^ (k + 1) = n / 2 ^ k / 2 := by rw [Nat.pow_succ, ← Nat.div_div_eq_div_mul]
 rw [h]
 generalize n / 2 ^ k = m
 split
 ·rename_i h1
  have e : m = m / 2 + m / 2 + 1 := by omega
  conv => lhs; rw [e]
  rfl
 ·rename_i h1
  have e : m = m / 2 + m / 2 := by omega
  conv => lhs; rw [e]
theorem same_num {K : Type} [Lean.Grind.Field K] {p q z z' : K} (hz : z ≠ 0) (hz' : z' ≠ 0) (h : p * z * z' = q * z' * z) : p = q := by
 have hw := mul_ne hz hz'
 have h3 : (p - q) * (z * z') = 0 := by grind
 generalize z * z' = w at *
 have := Lean.Grind.Field.mul_inv_cancel hw
 grind
theorem num_same {K : Type} [Lean.Grind.Field K] {p q z z' : K} (h : p = q) : p * z * z' = q * z' * z := by subst h; grind
theorem Prep.same_x {P Q : EP} {X Y Z X' Y' Z' : F} (h : Prep P X Y Z) (h' : Prep Q X' Y' Z') (e : X * Z' = X' * Z) : P.x = Q.x := by
 obtain ⟨hz, rfl, rfl⟩ := h
 obtain ⟨hz', rfl, rfl⟩ := h'
 exact same_num hz hz' e
theorem Prep.same_x' {P Q : EP} {X Y Z X' Y' Z' : F} (h : Prep P X Y Z) (h' : Prep Q X' Y' Z') (e : P.x = Q.x) : X * Z' = X' * Z := by
 obtain ⟨hz, rfl, rfl⟩ := h
 obtain ⟨hz', rfl, rfl⟩ := h'
 exact num_same e
theorem Prep.same_y {P Q : EP} {X Y Z X' Y' Z' : F} {q : Bool} (h : Prep P X Y Z) (h' : Prep Q X' Y' Z') (e : P.x = Q.x) (hq : decide (P = Q) = q) : decide (Y * Z' = Y' * Z) = q := by
 rw [← hq, decide_eq_decide]
 obtain ⟨hz, rfl, rfl⟩ := h
 obtain ⟨hz', rfl, rfl⟩ := h'
 exact ⟨fun k => Cp.ext' e (same_num hz hz' k), fun k => num_same (congrArg Cp.y k)⟩
end Go.Proofs.YtielgpefoameiaaGreat
namespace Go.Proofs.YtielgpefoameiaaGreat
open Go.RowKit
def fV (f : Nat → Nat) (i : Nat) : Value := .int .u64 (f i : Nat)
theorem row5 (f : Nat → Value) : row 5 f = [f 0, f 1, f 2, f 3, f 4] := rfl
def pasV (f : Nat → Nat) (c0 k i : Nat) : Value := if i < k then fV (pas f c0) i else fV f i
theorem pasV_at (f : Nat → Nat) (c0 k : Nat) : pasV f c0 k k = .int .u64 (f k : Nat) := by unfold pasV; rw [if_neg (by omega)]; rfl
theorem pasV_set (f : Nat → Nat) (c0 k : Nat) : (row 5 (pasV f c0 k)).set k (.int .u64 (pas f c0 k : Nat)) = row 5 (pasV f c0 (k + 1)) :=
 row_set k _ (by unfold pasV; rw [if_pos (by omega)]; rfl) (fun i _ h => by unfold pasV; by_cases h1 : i < k; rw [if_pos h1, if_pos (by omega)]; rw [if_neg h1, if_neg (by omega)])
theorem pasV_zero (f : Nat → Nat) (c0 : Nat) : row 5 (pasV f c0 0) = row 5 (fV f) := row_ext fun i _ => by unfold pasV; rw [if_neg (by omega)]
theorem pasV_five (f : Nat → Nat) (c0 : Nat) : row 5 (pasV f c0 5) = row 5 (fV (pas f c0)) := row_ext fun i h => by unfold pasV; rw [if_pos h]
theorem and51 (x : Nat) (h : x < 18446744073709551616) : bits BinOp.and IntKind.u64 (x : Int) 2251799813685247 = ((x % 2251799813685248 : Nat) : Int) := by
 rw [show (2251799813685247 : Int) = ((2251799813685247 : Nat) : Int) from rfl, u64_and_nat x 2251799813685247 h (by omega)]
 rw [show x &&& 2251799813685247 = x % 2251799813685248 from Nat.and_two_pow_sub_one_eq_mod x 51]
theorem pass_step (f : Nat → Nat) (c0 k : Nat) (h : f k + cr f c0 k < 18446744073709551616) :
  ∃ s : Int, IntKind.u64.wrap ((f k : Nat) + (cr f c0 k : Nat) : Int) = s ∧ 0 ≤ s ∧ s < 18446744073709551616 ∧ bits BinOp.and IntKind.u64 s 2251799813685247 = (pas f c0 k : Nat) ∧ s / 2251799813685248 = (cr f c0 (k + 1) : Nat) := by
 refine ⟨((f k + cr f c0 k : Nat) : Int), by rw [wrapU]; omega, by omega, by omega, and51 _ h, ?_⟩
 show _ = (((f k + cr f c0 k) / 2251799813685248 : Nat) : Int)
 omega
set_option maxHeartbeats 1000000 in
theorem carried_any (f : Nat → Nat) (hf : ∀ i, i < 5 → f i ≤ 9223372036854775808) (w : World) :
  Calls Tryz.prog 113 #[.agg #[.int .u64 (f 0 : Nat), .int .u64 (f 1 : Nat), .int .u64 (f 2 : Nat), .int .u64 (f 3 : Nat), .int .u64 (f 4 : Nat)]] w fun e w' => e = .returned (.agg #[.int .u64 (cF f 0 : Nat), .int .u64 (cF f 1 : Nat), .int .u64 (cF f 2 : Nat), .int .u64 (cF f 3 : Nat), .int .u64 (cF f 4 : Nat)]) ∧ Below w.heap.size w w' := by
 have HF := Lib.hid hf
 clear hf
 go_enter Tryz.func113, Tryz.ntmps113
 go_wp2
 refine wp_gen (fun W => Blk W w.heap.size (row 5 (fV f)) 50 ∧ Blk W (w.heap.size + 1) (row 5 (fV fun _ => 0)) 52 ∧ Below w.heap.size w W) ?_ (fun W hW => ?_)
 ·exact ⟨(Blk.new w _ _).alloc _, Blk.new' (by simp), belowBy⟩
 obtain ⟨hA, hO, hbel⟩ := hW
 refine wp_loop_rounds 3 ?_
 rw [rounds_succ]
 go_wp2
 go_loopw [3, 7] (fun c i wr => ∃ k : Nat, k ≤ 5 ∧ i = .int .i64 k ∧ c = .int .u64 (cr f 0 k : Nat) ∧ Blk wr w.heap.size (row 5 (pasV f 0 k)) 50 ∧ Blk wr (w.heap.size + 1) (row 5 (fV fun _ => 0)) 52 ∧ Below w.heap.size w wr) (fun _ i _ => 5 - (intOf i).toNat)
 case atStart => exact ⟨0, by omega, rfl, rfl, by rw [pasV_zero]; exact hA, hO, hbel⟩
 clear hA hO hbel
 have hb1 : ∀ k, k < 5 → f k + cr f 0 k < 18446744073709551616 := fun k hk => by
  have := HF.out k hk; have := cr_lt f 0 HF.out (by omega) k (by omega); omega
 have HB1 := Lib.hid hb1
 clear hb1
 case round =>
  obtain ⟨k, hk, rfl, rfl, hA, hO, hbel⟩ := hrel
  by_cases hlt : k < 5
  ·obtain ⟨s, hs, hs0, hs1, ha, hd⟩ := pass_step f 0 k (HB1.out k hlt)
   have hcell := hA.at hlt
   rw [pasV_at] at hcell
   have hfr := hA.frozen k
   have HD := Lib.hid hd
   have HA := Lib.hid ((hA.set k (.int .u64 s)).set k (.int .u64 (pas f 0 k : Nat)))
   have HO := Lib.hid ((hO.other ⟨w.heap.size, k, none⟩ (by simp) (.int .u64 s)).other ⟨w.heap.size, k, none⟩ (by simp) (.int .u64 (pas f 0 k : Nat)))
   clear hA hO hd
   go_wp2
   go_roundw
   case rel => exact ⟨k + 1, by omega, by go_num, by rw [HD.out], by have := HA.out; rw [List.set_set, pasV_set] at this; exact this, HO.out, belowBy⟩
   case measure => simp [intOf]; omega
  ·obtain rfl : k = 5 := by omega
   rw [pasV_five] at hA
   have hm : IntKind.u64.wrap (((cr f 0 5 : Nat) : Int) * 19) = ((cr f 0 5 * 19 : Nat) : Int) := by
    have := cr5 f HF.out; rw [wrapU]; omega
   have HC1 : Hid (cr f 0 5 * 19 ≤ 77843) := Lib.hid (by have := cr5 f HF.out; omega)
   clear hlt hk HB1
   generalize hc1 : cr f 0 5 * 19 = c1 at *
   have HC := Lib.hid hc1
   clear hc1
   go_wp2
   rw [rounds_succ]
   go_wp2
   clear hm
   go_loopw [3, 7] (fun c i wr => ∃ k : Nat, k ≤ 5 ∧ i = .int .i64 k ∧ c = .int .u64 (cr (pas f 0) c1 k : Nat) ∧ Blk wr w.heap.size (row 5 (pasV (pas f 0) c1 k)) 50 ∧ Blk wr (w.heap.size + 1) (row 5 (fV fun _ => 0)) 52 ∧ Below w.heap.size w wr) (fun _ i _ => 5 - (intOf i).toNat)
   case atStart => exact ⟨0, by omega, rfl, rfl, by rw [pasV_zero]; exact hA, hO, hbel⟩
   clear hA hO hbel
   have hb2 : ∀ k, k < 5 → pas f 0 k + cr (pas f 0) c1 k < 18446744073709551616 := fun k hk => by
    have := pas_lt f 0 k; have := cr_lt (pas f 0) c1 (fun i _ => by have := pas_lt f 0 i; omega) (by have := HC1.out; omega) k (by omega); omega
   have HB2 := Lib.hid hb2
   clear hb2
   case round =>
    obtain ⟨k, hk, rfl, rfl, hA, hO, hbel⟩ := hrel
    by_cases hlt : k < 5
    ·obtain ⟨s, hs, hs0, hs1, ha, hd⟩ := pass_step (pas f 0) c1 k (HB2.out k hlt)
     have hcell := hA.at hlt
     rw [pasV_at] at hcell
     have hfr := hA.frozen k
     have HD := Lib.hid hd
     have HA := Lib.hid ((hA.set k (.int .u64 s)).set k (.int .u64 (pas (pas f 0) c1 k : Nat)))
     have HO := Lib.hid ((hO.other ⟨w.heap.size, k, none⟩ (by simp) (.int .u64 s)).other ⟨w.heap.size, k, none⟩ (by simp) (.int .u64 (pas (pas f 0) c1 k : Nat)))
     clear hA hO hd
     go_wp2
     go_roundw
     case rel => exact ⟨k + 1, by omega, by go_num, by rw [HD.out], by have := HA.out; rw [List.set_set, pasV_set] at this; exact this, HO.out, belowBy⟩
     case measure => simp [intOf]; omega
    ·obtain rfl : k = 5 := by omega
     rw [pasV_five] at hA
     have h5 := cr_one (pas f 0) c1 (pas_lt f 0) (by have := HC1.out; omega) 5 (by omega)
     have h0 := pas_lt (pas f 0) c1 0
     have hm : IntKind.u64.wrap (((cr (pas f 0) c1 5 : Nat) : Int) * 19) = ((cr (pas f 0) c1 5 * 19 : Nat) : Int) := by rw [wrapU]; omega
     have hs : IntKind.u64.wrap (((pas (pas f 0) c1 0 : Nat) : Int) + ((cr (pas f 0) c1 5 * 19 : Nat) : Int)) = ((cF f 0 : Nat) : Int) := by
      rw [wrapU]; show _ = ((pas (pas f 0) (cr f 0 5 * 19) 0 + cr (pas f 0) (cr f 0 5 * 19) 5 * 19 : Nat) : Int)
      rw [HC.out]; omega
     rw [row5] at hA hO
     have hAc := hA.cell; have hAf := hA.frozen; have hOc := hO.cell; have hOf := hO.frozen
     unfold fV at hAc hOc
     rw [show pas (pas f 0) c1 1 = cF f 1 from by rw [← HC.out]; rfl, show pas (pas f 0) c1 2 = cF f 2 from by rw [← HC.out]; rfl, show pas (pas f 0) c1 3 = cF f 3 from by rw [← HC.out]; rfl, show pas (pas f 0) c1 4 = cF f 4 from by rw [← HC.out]; rfl] at hAc
     generalize cr (pas f 0) c1 5 * 19 = c2 at *
     generalize cr (pas f 0) c1 5 = c3 at *
     generalize pas (pas f 0) c1 0 = p0 at *
     clear h5 h0 hA hO hlt hk HB2
     go_wp2
     rw [rounds_succ]
     go_wp2
     exact bodyPost_ret (v := .agg #[.int .u64 (cF f 0 : Nat), .int .u64 (cF f 1 : Nat), .int .u64 (cF f 2 : Nat), .int .u64 (cF f 3 : Nat), .int .u64 (cF f 4 : Nat)]) (by simp [results, Tryz.results113, go_sem, hOc]) rfl ⟨rfl, belowBy⟩
structure FE (f : Nat → Nat) (n : Nat) : Prop where
 lim : Lim f
 num : val f % Pq = n
theorem FE.lt {f : Nat → Nat} {n : Nat} (h : FE f n) : n < Pq := by rw [← h.num]; exact Nat.mod_lt _ Pq_pos
theorem Lim.lt {f : Nat → Nat} (h : Lim f) : ∀ i, i < 5 → f i < 2251799813685268 := by
 intro i hi
 have hh : i = 0 ∨ i = 1 ∨ i = 2 ∨ i = 3 ∨ i = 4 := by omega
 rcases hh with rfl | rfl | rfl | rfl | rfl
 ·exact h.l0
 ·have := h.l1; omega
 ·have := h.l2; omega
 ·have := h.l3; omega
 ·have := h.l4; omega
def addF (f g : Nat → Nat) (i : Nat) : Nat := f i + g i
theorem addF_val (f g : Nat → Nat) : val (addF f g) = val f + val g := by simp only [val, addF]; omega
theorem addF_at {f g : Nat → Nat} (hf : Lim f) (hg : Lim g) (i : Nat) (hi : i < 5) : IntKind.u64.wrap ((f i : Nat) + (g i : Nat) : Int) = (addF f g i : Nat) := by
 have := hf.lt i hi; have := hg.lt i hi
 unfold addF; rw [wrapU]; omega
set_option maxHeartbeats 1000000 in
theorem feadd_any {f g : Nat → Nat} {x y : Nat} (hf : FE f x) (hg : FE g y) (w : World) :
  Calls Tryz.prog 92 #[.agg #[.int .u64 (f 0 : Nat), .int .u64 (f 1 : Nat), .int .u64 (f 2 : Nat), .int .u64 (f 3 : Nat), .int .u64 (f 4 : Nat)], .agg #[.int .u64 (g 0 : Nat), .int .u64 (g 1 : Nat), .int .u64 (g 2 : Nat), .int .u64 (g 3 : Nat), .int .u64 (g 4 : Nat)]] w fun e w' => ∃ h, e = .returned (.agg #[.int .u64 (h 0 : Nat), .int .u64 (h 1 : Nat), .int .u64 (h 2 : Nat), .int .u64 (h 3 : Nat), .int .u64 (h 4 : Nat)]) ∧ FE h ((x + y) % Pq) ∧ Below w.heap.size w w' := by
 have s0 := addF_at hf.lim hg.lim 0 (by omega)
 have s1 := addF_at hf.lim hg.lim 1 (by omega)
 have s2 := addF_at hf.lim hg.lim 2 (by omega)
 have s3 := addF_at hf.lim hg.lim 3 (by omega)
 have s4 := addF_at hf.lim hg.lim 4 (by omega)
 have hb : ∀ i, i < 5 → addF f g i ≤ 9223372036854775808 := fun i hi => by
  have := hf.lim.lt i hi; have := hg.lim.lt i hi; unfold addF; omega
 have HB := Lib.hid hb
 have HR : Hid (FE (cF (addF f g)) ((x + y) % Pq)) := Lib.hid ⟨cF_lim _ hb, by rw [cF_val, addF_val, Nat.add_mod, hf.num, hg.num]⟩
 clear hb hf hg
 go_enter Tryz.func92, Tryz.ntmps92
 go_wp2
 refine wp_loop_rounds 6 ?_
 iterate 5 (rw [rounds_succ]; go_wp2; go_region; go_wp2)
 rw [rounds_succ]
 go_wp2_with (go_at_call 113; go_must (refine (carried_any (addF f g) HB.out _).mono ?_; rintro e w1 ⟨rfl, hb⟩; have hO := (show Blk _ (w.heap.size + 1 + 1) [.int .u64 0, .int .u64 0, .int .u64 0, .int .u64 0, .int .u64 0] 52 from (by repeat (first | (with_reducible refine Blk.drew ?_) | exact Blk.new' (by simp) | (with_reducible refine Blk.alloc ?_ _)))).below' hb; have hOc := hO.cell; have hOf := hO.frozen; have hbel : Below w.heap.size w w1 := Below.call belowBy hb; clear hb hO))
 exact bodyPost_ret (v := .agg #[.int .u64 (cF (addF f g) 0 : Nat), .int .u64 (cF (addF f g) 1 : Nat), .int .u64 (cF (addF f g) 2 : Nat), .int .u64 (cF (addF f g) 3 : Nat), .int .u64 (cF (addF f g) 4 : Nat)]) (by simp [results, Tryz.results92, go_sem, hOc]) rfl ⟨_, rfl, HR.out, belowBy⟩
def fourP (i : Nat) : Nat := if i = 0 then 9007199254740916 else 9007199254740988
def subF (f g : Nat → Nat) (i : Nat) : Nat := f i + (fourP i - g i)
theorem subF_val {f g : Nat → Nat} (hg : Lim g) : val (subF f g) + val g = val f + 4 * Pq := by
 have h0 := hg.l0; have h1 := hg.l1; have h2 := hg.l2; have h3 := hg.l3; have h4 := hg.l4
 simp only [val, subF, fourP, if_true, if_neg (show ¬ (1 = 0) by omega), if_neg (show ¬ (2 = 0) by omega), if_neg (show ¬ (3 = 0) by omega), if_neg (show ¬ (4 = 0) by omega), Pq]
 omega
theorem subF_at {f g : Nat → Nat} (hf : Lim f) (hg : Lim g) (i : Nat) (hi : i < 5) : IntKind.u64.wrap ((f i : Nat) + IntKind.u64.wrap ((fourP i : Nat) - (g i : Nat)) : Int) = (subF f g i : Nat) := by
 have := hf.lt i hi; have := hg.lt i hi
 have hk : 9007199254740916 ≤ fourP i ∧ fourP i ≤ 9007199254740988 := by unfold fourP; split <;> omega
 unfold subF; rw [wrapU, wrapU]; omega
theorem mod_sub {a b x y : Nat} (h : a + b = x + 4 * Pq) (hy : b % Pq = y) : a % Pq = (x % Pq + (Pq - y)) % Pq := by
 unfold Pq at *; omega
set_option maxHeartbeats 1000000 in
theorem fesub_any {f g : Nat → Nat} {x y : Nat} (hf : FE f x) (hg : FE g y) (w : World) :
  Calls Tryz.prog 90 #[.agg #[.int .u64 (f 0 : Nat), .int .u64 (f 1 : Nat), .int .u64 (f 2 : Nat), .int .u64 (f 3 : Nat), .int .u64 (f 4 : Nat)], .agg #[.int .u64 (g 0 : Nat), .int .u64 (g 1 : Nat), .int .u64 (g 2 : Nat), .int .u64 (g 3 : Nat), .int .u64 (g 4 : Nat)]] w fun e w' => ∃ h, e = .returned (.agg #[.int .u64 (h 0 : Nat), .int .u64 (h 1 : Nat), .int .u64 (h 2 : Nat), .int .u64 (h 3 : Nat), .int .u64 (h 4 : Nat)]) ∧ FE h ((x + (Pq - y)) % Pq) ∧ Below w.heap.size w w' := by
 have s0 : IntKind.u64.wrap ((f 0 : Nat) + IntKind.u64.wrap (9007199254740916 - (g 0 : Nat)) : Int) = (subF f g 0 : Nat) := subF_at hf.lim hg.lim 0 (by omega)
 have s1 : IntKind.u64.wrap ((f 1 : Nat) + IntKind.u64.wrap (9007199254740988 - (g 1 : Nat)) : Int) = (subF f g 1 : Nat) := subF_at hf.lim hg.lim 1 (by omega)
 have s2 : IntKind.u64.wrap ((f 2 : Nat) + IntKind.u64.wrap (9007199254740988 - (g 2 : Nat)) : Int) = (subF f g 2 : Nat) := subF_at hf.lim hg.lim 2 (by omega)
 have s3 : IntKind.u64.wrap ((f 3 : Nat) + IntKind.u64.wrap (9007199254740988 - (g 3 : Nat)) : Int) = (subF f g 3 : Nat) := subF_at hf.lim hg.lim 3 (by omega)
 have s4 : IntKind.u64.wrap ((f 4 : Nat) + IntKind.u64.wrap (9007199254740988 - (g 4 : Nat)) : Int) = (subF f g 4 : Nat) := subF_at hf.lim hg.lim 4 (by omega)
 have hb : ∀ i, i < 5 → subF f g i ≤ 9223372036854775808 := fun i hi => by
  have := hf.lim.lt i hi
  have hk : fourP i ≤ 9007199254740988 := by unfold fourP; split <;> omega
  unfold subF; omega
 have HB := Lib.hid hb
 have HR : Hid (FE (cF (subF f g)) ((x + (Pq - y)) % Pq)) := Lib.hid ⟨cF_lim _ hb, by rw [cF_val, mod_sub (subF_val hg.lim) hg.num, hf.num]⟩
 clear hb hf hg
 go_enter Tryz.func90, Tryz.ntmps90
 go_wp2
 refine wp_loop_rounds 6 ?_
 iterate 5 (rw [rounds_succ]; go_wp2; (try go_region); go_wp2)
 rw [rounds_succ]
 go_wp2_with (go_at_call 113; go_must (refine (carried_any (subF f g) HB.out _).mono ?_; rintro e w1 ⟨rfl, hb⟩; have hO := (show Blk _ (w.heap.size + 1 + 1) [.int .u64 0, .int .u64 0, .int .u64 0, .int .u64 0, .int .u64 0] 52 from (by repeat (first | (with_reducible refine Blk.drew ?_) | exact Blk.new' (by simp) | (with_reducible refine Blk.alloc ?_ _)))).below' hb; have hOc := hO.cell; have hOf := hO.frozen; have hbel : Below w.heap.size w w1 := Below.call belowBy hb; clear hb hO))
 exact bodyPost_ret (v := .agg #[.int .u64 (cF (subF f g) 0 : Nat), .int .u64 (cF (subF f g) 1 : Nat), .int .u64 (cF (subF f g) 2 : Nat), .int .u64 (cF (subF f g) 3 : Nat), .int .u64 (cF (subF f g) 4 : Nat)]) (by simp [results, Tryz.results90, go_sem, hOc]) rfl ⟨_, rfl, HR.out, belowBy⟩
theorem FE.zero : FE (fun _ => 0) 0 := ⟨⟨by omega, by omega, by omega, by omega, by omega⟩, by decide +kernel⟩
theorem buildE (w : World) : (Instr.build 52 #[]).run Tryz.prog w = .ok (.agg #[.int .u64 0, .int .u64 0, .int .u64 0, .int .u64 0, .int .u64 0]) w := by kernel_rfl
theorem fesub_zero {g : Nat → Nat} {y : Nat} (hg : FE g y) (w : World) :
  Calls Tryz.prog 90 #[.agg #[.int .u64 0, .int .u64 0, .int .u64 0, .int .u64 0, .int .u64 0], .agg #[.int .u64 (g 0 : Nat), .int .u64 (g 1 : Nat), .int .u64 (g 2 : Nat), .int .u64 (g 3 : Nat), .int .u64 (g 4 : Nat)]] w fun e w' => ∃ h, e = .returned (.agg #[.int .u64 (h 0 : Nat), .int .u64 (h 1 : Nat), .int .u64 (h 2 : Nat), .int .u64 (h 3 : Nat), .int .u64 (h 4 : Nat)]) ∧ FE h ((Pq - y) % Pq) ∧ Below w.heap.size w w' := by
 have := fesub_any FE.zero hg w
 rw [Nat.zero_add] at this; exact this
set_option maxHeartbeats 1000000 in
theorem feneg_any {f : Nat → Nat} {x : Nat} (hf : FE f x) (w : World) :
  Calls Tryz.prog 97 #[.agg #[.int .u64 (f 0 : Nat), .int .u64 (f 1 : Nat), .int .u64 (f 2 : Nat), .int .u64 (f 3 : Nat), .int .u64 (f 4 : Nat)]] w fun e w' => ∃ h, e = .returned (.agg #[.int .u64 (h 0 : Nat), .int .u64 (h 1 : Nat), .int .u64 (h 2 : Nat), .int .u64 (h 3 : Nat), .int .u64 (h 4 : Nat)]) ∧ FE h ((Pq - x) % Pq) ∧ Below w.heap.size w w' := by
 have hbE := buildE
 go_enter Tryz.func97, Tryz.ntmps97
 go_wp2_with (go_at_call 90; go_must (refine (fesub_zero hf _).mono ?_; rintro e w1 ⟨h, rfl, hr, hb⟩; have hO := (show Blk _ (w.heap.size + 1) [.int .u64 0, .int .u64 0, .int .u64 0, .int .u64 0, .int .u64 0] 52 from (by repeat (first | (with_reducible refine Blk.drew ?_) | exact Blk.new' (by simp) | (with_reducible refine Blk.alloc ?_ _)))).below' hb; have hOc := hO.cell; have hOf := hO.frozen; have hbel : Below w.heap.size w w1 := Below.call belowBy hb; clear hb hO))
 exact bodyPost_ret (v := .agg #[.int .u64 (h 0 : Nat), .int .u64 (h 1 : Nat), .int .u64 (h 2 : Nat), .int .u64 (h 3 : Nat), .int .u64 (h 4 : Nat)]) (by simp [results, Tryz.results97, go_sem, hOc]) rfl ⟨_, rfl, hr, belowBy⟩
def smallF (n i : Nat) : Nat := if i = 0 then n % 2251799813685248 else if i = 1 then n / 2251799813685248 else 0
theorem smallF_val (n : Nat) : val (smallF n) = n := by
 simp only [val, smallF, if_true, if_neg (show ¬ (1 = 0) by omega), if_neg (show ¬ (2 = 0) by omega), if_neg (show ¬ (3 = 0) by omega), if_neg (show ¬ (4 = 0) by omega), if_neg (show ¬ (2 = 1) by omega), if_neg (show ¬ (3 = 1) by omega), if_neg (show ¬ (4 = 1) by omega)]
 omega
theorem FE.small {n : Nat} (hn : n < 18446744073709551616) : FE (smallF n) n :=
 ⟨⟨by simp only [smallF, if_true]; omega, by simp [smallF]; omega, by simp [smallF], by simp [smallF], by simp [smallF]⟩, by rw [smallF_val, Nat.mod_eq_of_lt (by unfold Pq; omega)]⟩
set_option maxHeartbeats 1000000 in
theorem fesmall_any {n : Nat} (hn : n < 18446744073709551616) (w : World) :
  Calls Tryz.prog 89 #[.int .u64 n] w fun e w' => e = .returned (.agg #[.int .u64 (smallF n 0 : Nat), .int .u64 (smallF n 1 : Nat), .int .u64 (smallF n 2 : Nat), .int .u64 (smallF n 3 : Nat), .int .u64 (smallF n 4 : Nat)]) ∧ Below w.heap.size w w' := by
 have ha := and51 n hn
 have HD : Hid ((n : Int) / 2251799813685248 = (smallF n 1 : Nat)) := Lib.hid (by simp [smallF])
 have HE : Hid (((n % 2251799813685248 : Nat) : Int) = (smallF n 0 : Nat)) := Lib.hid (by simp [smallF])
 rw [HE.out] at ha
 clear hn
 go_enter Tryz.func89, Tryz.ntmps89
 go_wp2
 exact bodyPost_ret (v := .agg #[.int .u64 (smallF n 0 : Nat), .int .u64 ((n : Int) / 2251799813685248), .int .u64 0, .int .u64 0, .int .u64 0]) (by simp [results, Tryz.results89, go_sem]) rfl ⟨by rw [HD.out]; rfl, belowBy⟩
set_option maxHeartbeats 1000000 in
theorem fepick_any (b : Bool) (f g : Nat → Nat) (w : World) :
  Calls Tryz.prog 96 #[.bool b, .agg #[.int .u64 (f 0 : Nat), .int .u64 (f 1 : Nat), .int .u64 (f 2 : Nat), .int .u64 (f 3 : Nat), .int .u64 (f 4 : Nat)], .agg #[.int .u64 (g 0 : Nat), .int .u64 (g 1 : Nat), .int .u64 (g 2 : Nat), .int .u64 (g 3 : Nat), .int .u64 (g 4 : Nat)]] w fun e w' => e = .returned (.agg #[.int .u64 ((if b then f else g) 0 : Nat), .int .u64 ((if b then f else g) 1 : Nat), .int .u64 ((if b then f else g) 2 : Nat), .int .u64 ((if b then f else g) 3 : Nat), .int .u64 ((if b then f else g) 4 : Nat)]) ∧ Below w.heap.size w w' := by
 cases b
 ·go_enter Tryz.func96, Tryz.ntmps96
  go_wp2
  exact bodyPost_ret (v := .agg #[.int .u64 (g 0 : Nat), .int .u64 (g 1 : Nat), .int .u64 (g 2 : Nat), .int .u64 (g 3 : Nat), .int .u64 (g 4 : Nat)]) (by simp [results, Tryz.results96, go_sem]) rfl ⟨rfl, belowBy⟩
 ·go_enter Tryz.func96, Tryz.ntmps96
  go_wp2
  exact bodyPost_ret (v := .agg #[.int .u64 (f 0 : Nat), .int .u64 (f 1 : Nat), .int .u64 (f 2 : Nat), .int .u64 (f 3 : Nat), .int .u64 (f 4 : Nat)]) (by simp [results, Tryz.results96, go_sem]) rfl ⟨rfl, belowBy⟩
def whi (n : Nat) : Nat := n / 18446744073709551616
def wlo (n : Nat) : Nat := n % 18446744073709551616
theorem plus_num (n a b : Nat) (_ha : a < 18446744073709551616) (_hb : b < 18446744073709551616) (h : n + a * b < 340282366920938463463374607431768211456) :
  adds (mlo a b) (wlo n : Nat) 0 = (wlo (n + a * b) : Nat) ∧ adds (mhi a b) (whi n : Nat) (addc (mlo a b) (wlo n : Nat) 0) = (whi (n + a * b) : Nat) := by
 unfold adds addc mlo mhi wlo whi
 rw [show (a : Int) * (b : Int) = ((a * b : Nat) : Int) from by simp]
 generalize a * b = p at *
 constructor
 ·omega
 ·omega
theorem mhi_wd (a b : Nat) (ha : a < 18446744073709551616) (hb : b < 18446744073709551616) : Wd (mhi a b) := by
 have h5 : a * b ≤ 18446744073709551615 * 18446744073709551615 := Nat.mul_le_mul (by omega) (by omega)
 unfold mhi
 rw [show (a : Int) * (b : Int) = ((a * b : Nat) : Int) from by simp]
 generalize a * b = p at *
 exact ⟨by omega, by omega⟩
theorem wlo_wd (n : Nat) : Wd (wlo n : Nat) := by unfold wlo; exact ⟨by omega, by omega⟩
theorem whi_wd {n : Nat} (h : n < 340282366920938463463374607431768211456) : Wd (whi n : Nat) := by unfold whi; exact ⟨by omega, by omega⟩
set_option maxHeartbeats 1000000 in
theorem feplus_any (n a b : Nat) (ha : a < 18446744073709551616) (hb : b < 18446744073709551616) (h : n + a * b < 340282366920938463463374607431768211456) (w : World) :
  Calls Tryz.prog 112 #[.agg #[.int .u64 (whi n : Nat), .int .u64 (wlo n : Nat)], .int .u64 a, .int .u64 b] w fun e w' => e = .returned (.agg #[.int .u64 (whi (n + a * b) : Nat), .int .u64 (wlo (n + a * b) : Nat)]) ∧ Below w.heap.size w w' := by
 have hn := plus_num n a b ha hb h
 have h1 := fun w => add64 (mlo_wd a b) (wlo_wd n) Cy.zero w
 have h2 := fun w => add64 (mhi_wd a b ha hb) (whi_wd (n := n) (by omega)) (addc_cy (mlo_wd a b) (wlo_wd n) Cy.zero) w
 rw [hn.1] at h1
 rw [hn.2] at h2
 have HM := Lib.hid (fun w => mul64_o (x := a) (y := b) ⟨by omega, by omega⟩ ⟨by omega, by omega⟩ w)
 clear hn h ha hb
 go_enter Tryz.func112, Tryz.ntmps112
 go_wp2_with (go_at_call 69; go_must (refine (HM.out _).mono ?_; rintro e w1 ⟨rfl, rfl⟩))
 exact bodyPost_ret (v := .agg #[.int .u64 (whi (n + a * b) : Nat), .int .u64 (wlo (n + a * b) : Nat)]) (by simp [results, Tryz.results112, go_sem]) rfl ⟨rfl, belowBy⟩
theorem ix5_0 (x0 x1 x2 x3 x4 : Value) (w : World) : (Instr.index 50 (.agg #[x0, x1, x2, x3, x4]) (.int .i64 0)).run Tryz.prog w = .ok x0 w := by kernel_rfl
theorem ix5_1 (x0 x1 x2 x3 x4 : Value) (w : World) : (Instr.index 50 (.agg #[x0, x1, x2, x3, x4]) (.int .i64 1)).run Tryz.prog w = .ok x1 w := by kernel_rfl
theorem ix5_2 (x0 x1 x2 x3 x4 : Value) (w : World) : (Instr.index 50 (.agg #[x0, x1, x2, x3, x4]) (.int .i64 2)).run Tryz.prog w = .ok x2 w := by kernel_rfl
theorem ix5_3 (x0 x1 x2 x3 x4 : Value) (w : World) : (Instr.index 50 (.agg #[x0, x1, x2, x3, x4]) (.int .i64 3)).run Tryz.prog w = .ok x3 w := by kernel_rfl
theorem ix5_4 (x0 x1 x2 x3 x4 : Value) (w : World) : (Instr.index 50 (.agg #[x0, x1, x2, x3, x4]) (.int .i64 4)).run Tryz.prog w = .ok x4 w := by kernel_rfl
theorem ix5 (f : Nat → Nat) (k : Nat) (hk : k < 5) (w : World) : (Instr.index 50 (.agg #[.int .u64 (f 0 : Nat), .int .u64 (f 1 : Nat), .int .u64 (f 2 : Nat), .int .u64 (f 3 : Nat), .int .u64 (f 4 : Nat)]) (.int .i64 (k : Nat))).run Tryz.prog w = .ok (.int .u64 (f k : Nat)) w := by
 have h : k = 0 ∨ k = 1 ∨ k = 2 ∨ k = 3 ∨ k = 4 := by omega
 rcases h with rfl | rfl | rfl | rfl | rfl
 ·exact ix5_0 _ _ _ _ _ _
 ·exact ix5_1 _ _ _ _ _ _
 ·exact ix5_2 _ _ _ _ _ _
 ·exact ix5_3 _ _ _ _ _ _
 ·exact ix5_4 _ _ _ _ _ _
def colStep (f g : Nat → Nat) (i j : Nat) (R : Nat → Nat) (k : Nat) : Nat :=
 if k = (i + j) % 5 then R k + (if 5 ≤ i + j then f i * 19 else f i) * g j else R k
def colJ (f g : Nat → Nat) (i : Nat) (R : Nat → Nat) : Nat → Nat → Nat
 | 0 => R
 | j + 1 => colStep f g i j (colJ f g i R j)
def colI (f g : Nat → Nat) : Nat → Nat → Nat
 | 0 => fun _ => 0
 | i + 1 => colJ f g i (colI f g i) 5
def col (f g : Nat → Nat) (i j : Nat) : Nat → Nat := colJ f g i (colI f g i) j
def colV (R : Nat → Nat) (q : Nat) : Value := if q % 2 = 0 then .int .u64 (whi (R (q / 2)) : Nat) else .int .u64 (wlo (R (q / 2)) : Nat)
theorem col_succ (f g : Nat → Nat) (i j : Nat) : col f g i (j + 1) = colStep f g i j (col f g i j) := rfl
theorem colStep_le {f g R : Nat → Nat} {i j B : Nat} (hf : Lim f) (hg : Lim g) (hi : i < 5) (hj : j < 5) (h : ∀ k, R k ≤ B) (k : Nat) : colStep f g i j R k ≤ B + 96342400000000000000000000000000 := by
 have h1 := hf.lt i hi
 have h2 := hg.lt j hj
 have h3 : (if 5 ≤ i + j then f i * 19 else f i) ≤ 42784196460020092 := by split <;> omega
 have h4 : (if 5 ≤ i + j then f i * 19 else f i) * g j ≤ 96342400000000000000000000000000 := Nat.le_trans (Nat.mul_le_mul h3 (show g j ≤ 2251799813685268 by omega)) (by decide)
 have := h k
 unfold colStep
 generalize (if 5 ≤ i + j then f i * 19 else f i) * g j = z at *
 split <;> omega
theorem colJ_le {f g R : Nat → Nat} {i B : Nat} (hf : Lim f) (hg : Lim g) (hi : i < 5) (h : ∀ k, R k ≤ B) : ∀ j, j ≤ 5 → ∀ k, colJ f g i R j k ≤ B + j * 96342400000000000000000000000000
 | 0, _, k => by have := h k; simpa [colJ] using this
 | j + 1, hj, k => by
  have := colStep_le (j := j) hf hg hi (by omega) (colJ_le hf hg hi h j (by omega)) k
  show colStep f g i j (colJ f g i R j) k ≤ _
  omega
theorem colI_le {f g : Nat → Nat} (hf : Lim f) (hg : Lim g) : ∀ i, i ≤ 5 → ∀ k, colI f g i k ≤ 5 * i * 96342400000000000000000000000000
 | 0, _, k => by simp [colI]
 | i + 1, hi, k => by
  have := colJ_le hf hg (show i < 5 by omega) (colI_le hf hg i (by omega)) 5 (by omega) k
  show colJ f g i (colI f g i) 5 k ≤ _
  omega
theorem col_le {f g : Nat → Nat} (hf : Lim f) (hg : Lim g) (i j : Nat) (hi : i < 5) (hj : j ≤ 5) (k : Nat) : col f g i j k ≤ 25 * 96342400000000000000000000000000 := by
 have := colJ_le hf hg hi (colI_le hf hg i (by omega)) j hj k
 unfold col
 have h2 : 5 * i * 96342400000000000000000000000000 ≤ 20 * 96342400000000000000000000000000 := Nat.mul_le_mul_right _ (by omega)
 have h3 : j * 96342400000000000000000000000000 ≤ 5 * 96342400000000000000000000000000 := Nat.mul_le_mul_right _ (by omega)
 omega
theorem colV_hi (R : Nat → Nat) (m : Nat) : colV R (m * 2) = .int .u64 (whi (R m) : Nat) := by
 unfold colV; rw [if_pos (by omega), show m * 2 / 2 = m from by omega]
theorem colV_lo (R : Nat → Nat) (m : Nat) : colV R (m * 2 + 1) = .int .u64 (wlo (R m) : Nat) := by
 unfold colV; rw [if_neg (by omega), show (m * 2 + 1) / 2 = m from by omega]
theorem colV_set (R : Nat → Nat) (m v : Nat) : ((row 10 (colV R)).set (m * 2) (.int .u64 (whi v : Nat))).set (m * 2 + 1) (.int .u64 (wlo v : Nat)) = row 10 (colV fun k => if k = m then v else R k) := by
 rw [row_set (g := fun q => if q = m * 2 then .int .u64 (whi v : Nat) else colV R q) (m * 2) _ (by simp) (fun i _ h => by simp [h])]
 refine row_set _ _ ?_ (fun i _ h => ?_)
 ·rw [colV_lo, if_pos rfl]
 ·by_cases h1 : i = m * 2
  ·subst h1; rw [if_pos rfl, colV_hi, if_pos rfl]
  ·rw [if_neg h1]
   unfold colV
   simp only [if_neg (show ¬ i / 2 = m by omega)]
theorem col_big (f g : Nat → Nat) (i j : Nat) (h : 5 ≤ i + j) (hi : i < 5) (hj : j < 5) : col f g i (j + 1) = fun k => if k = i + j - 5 then col f g i j (i + j - 5) + f i * 19 * g j else col f g i j k := by
 rw [col_succ]; funext k; unfold colStep
 rw [show (i + j) % 5 = i + j - 5 from by omega]
 by_cases hk : k = i + j - 5
 ·subst hk; rw [if_pos rfl, if_pos rfl, if_pos h]
 ·rw [if_neg hk, if_neg hk]
theorem col_low (f g : Nat → Nat) (i j : Nat) (h : ¬ 5 ≤ i + j) : col f g i (j + 1) = fun k => if k = i + j then col f g i j (i + j) + f i * g j else col f g i j k := by
 rw [col_succ]; funext k; unfold colStep
 rw [show (i + j) % 5 = i + j from by omega]
 by_cases hk : k = i + j
 ·subst hk; rw [if_pos rfl, if_pos rfl, if_neg h]
 ·rw [if_neg hk, if_neg hk]
theorem row10 (f : Nat → Value) : row 10 f = [f 0, f 1, f 2, f 3, f 4, f 5, f 6, f 7, f 8, f 9] := rfl
theorem colV_0 (R : Nat → Nat) : colV R 0 = .int .u64 (whi (R 0) : Nat) := rfl
theorem colV_1 (R : Nat → Nat) : colV R 1 = .int .u64 (wlo (R 0) : Nat) := rfl
theorem colV_2 (R : Nat → Nat) : colV R 2 = .int .u64 (whi (R 1) : Nat) := rfl
theorem colV_3 (R : Nat → Nat) : colV R 3 = .int .u64 (wlo (R 1) : Nat) := rfl
theorem colV_4 (R : Nat → Nat) : colV R 4 = .int .u64 (whi (R 2) : Nat) := rfl
theorem colV_5 (R : Nat → Nat) : colV R 5 = .int .u64 (wlo (R 2) : Nat) := rfl
theorem colV_6 (R : Nat → Nat) : colV R 6 = .int .u64 (whi (R 3) : Nat) := rfl
theorem colV_7 (R : Nat → Nat) : colV R 7 = .int .u64 (wlo (R 3) : Nat) := rfl
theorem colV_8 (R : Nat → Nat) : colV R 8 = .int .u64 (whi (R 4) : Nat) := rfl
theorem colV_9 (R : Nat → Nat) : colV R 9 = .int .u64 (wlo (R 4) : Nat) := rfl
theorem col_val (f g : Nat → Nat) : val (col f g 5 0) % Pq = val f * val g % Pq := by
 have e : val f * val g = (f 0 * g 0 + 2251799813685248 * ((f 0 * g 1 + f 1 * g 0) + 2251799813685248 * ((f 0 * g 2 + f 1 * g 1 + f 2 * g 0) + 2251799813685248 * ((f 0 * g 3 + f 1 * g 2 + f 2 * g 1 + f 3 * g 0) + 2251799813685248 * (f 0 * g 4 + f 1 * g 3 + f 2 * g 2 + f 3 * g 1 + f 4 * g 0))))) +
   57896044618658097711785492504343953926634992332820282019728792003956564819968 * ((f 1 * g 4 + f 2 * g 3 + f 3 * g 2 + f 4 * g 1) + 2251799813685248 * ((f 2 * g 4 + f 3 * g 3 + f 4 * g 2) + 2251799813685248 * ((f 3 * g 4 + f 4 * g 3) + 2251799813685248 * (f 4 * g 4)))) := by
  unfold val; grind
 rw [e, add_mul_mod19]
 congr 1
 simp [val, col, colJ, colI, colStep]
 grind
theorem ixw_0 (x0 x1 x2 x3 x4 x5 x6 x7 x8 x9 : Value) (w : World) : (Instr.index 129 (.agg #[x0, x1, x2, x3, x4, x5, x6, x7, x8, x9]) (.int .i64 0)).run Tryz.prog w = .ok (.agg #[x0, x1]) w := by kernel_rfl
theorem ixw_1 (x0 x1 x2 x3 x4 x5 x6 x7 x8 x9 : Value) (w : World) : (Instr.index 129 (.agg #[x0, x1, x2, x3, x4, x5, x6, x7, x8, x9]) (.int .i64 1)).run Tryz.prog w = .ok (.agg #[x2, x3]) w := by kernel_rfl
theorem ixw_2 (x0 x1 x2 x3 x4 x5 x6 x7 x8 x9 : Value) (w : World) : (Instr.index 129 (.agg #[x0, x1, x2, x3, x4, x5, x6, x7, x8, x9]) (.int .i64 2)).run Tryz.prog w = .ok (.agg #[x4, x5]) w := by kernel_rfl
theorem ixw_3 (x0 x1 x2 x3 x4 x5 x6 x7 x8 x9 : Value) (w : World) : (Instr.index 129 (.agg #[x0, x1, x2, x3, x4, x5, x6, x7, x8, x9]) (.int .i64 3)).run Tryz.prog w = .ok (.agg #[x6, x7]) w := by kernel_rfl
theorem ixw_4 (x0 x1 x2 x3 x4 x5 x6 x7 x8 x9 : Value) (w : World) : (Instr.index 129 (.agg #[x0, x1, x2, x3, x4, x5, x6, x7, x8, x9]) (.int .i64 4)).run Tryz.prog w = .ok (.agg #[x8, x9]) w := by kernel_rfl
theorem ixw (R : Nat → Nat) (k : Nat) (hk : k < 5) (w : World) : (Instr.index 129 (.agg #[.int .u64 (whi (R 0) : Nat), .int .u64 (wlo (R 0) : Nat), .int .u64 (whi (R 1) : Nat), .int .u64 (wlo (R 1) : Nat), .int .u64 (whi (R 2) : Nat), .int .u64 (wlo (R 2) : Nat), .int .u64 (whi (R 3) : Nat), .int .u64 (wlo (R 3) : Nat), .int .u64 (whi (R 4) : Nat), .int .u64 (wlo (R 4) : Nat)]) (.int .i64 (k : Nat))).run Tryz.prog w = .ok (.agg #[.int .u64 (whi (R k) : Nat), .int .u64 (wlo (R k) : Nat)]) w := by
 have h : k = 0 ∨ k = 1 ∨ k = 2 ∨ k = 3 ∨ k = 4 := by omega
 rcases h with rfl | rfl | rfl | rfl | rfl
 ·exact ixw_0 _ _ _ _ _ _ _ _ _ _ _
 ·exact ixw_1 _ _ _ _ _ _ _ _ _ _ _
 ·exact ixw_2 _ _ _ _ _ _ _ _ _ _ _
 ·exact ixw_3 _ _ _ _ _ _ _ _ _ _ _
 ·exact ixw_4 _ _ _ _ _ _ _ _ _ _ _
theorem lo51 (n : Nat) : bits BinOp.and IntKind.u64 (wlo n : Nat) 2251799813685247 = ((n % 2251799813685248 : Nat) : Int) := by
 rw [and51 _ (by unfold wlo; omega)]; unfold wlo; omega
theorem hi51 (n : Nat) (h : n < 41538374868278621028243970633760768) : bits BinOp.or IntKind.u64 (IntKind.u64.wrap ((whi n : Nat) * 8192 : Int)) ((wlo n : Nat) / 2251799813685248 : Int) = ((n / 2251799813685248 : Nat) : Int) := by
 have h1 : whi n < 2251799813685248 := by unfold whi; omega
 have h2 : wlo n / 2251799813685248 < 2 ^ 13 := by unfold wlo; omega
 rw [wrapU, show ((whi n : Nat) * 8192 : Int) % 18446744073709551616 = ((whi n * 8192 : Nat) : Int) from by omega, show ((wlo n : Nat) : Int) / 2251799813685248 = ((wlo n / 2251799813685248 : Nat) : Int) from by omega, u64_or_nat _ _ (by omega) (by omega)]
 have h3 := Nat.shiftLeft_add_eq_or_of_lt h2 (whi n)
 rw [Nat.shiftLeft_eq] at h3
 rw [show whi n * 8192 = whi n * 2 ^ 13 from rfl, ← h3]
 unfold whi wlo; omega
theorem feplus_one (n a : Nat) (ha : a < 18446744073709551616) (h : n + a < 340282366920938463463374607431768211456) (w : World) :
  Calls Tryz.prog 112 #[.agg #[.int .u64 (whi n : Nat), .int .u64 (wlo n : Nat)], .int .u64 a, .int .u64 1] w fun e w' => e = .returned (.agg #[.int .u64 (whi (n + a) : Nat), .int .u64 (wlo (n + a) : Nat)]) ∧ Below w.heap.size w w' := by
 have := feplus_any n a 1 ha (by omega) (by omega) w
 rw [Nat.mul_one] at this; exact this
theorem feplus_low (n a b : Nat) (hn : n < 18446744073709551616) (ha : a < 18446744073709551616) (hb : b < 18446744073709551616) (h : n + a * b < 340282366920938463463374607431768211456) (w : World) :
  Calls Tryz.prog 112 #[.agg #[.int .u64 0, .int .u64 n], .int .u64 a, .int .u64 b] w fun e w' => e = .returned (.agg #[.int .u64 (whi (n + a * b) : Nat), .int .u64 (wlo (n + a * b) : Nat)]) ∧ Below w.heap.size w w' := by
 have := feplus_any n a b ha hb h w
 rw [show whi n = 0 from Nat.div_eq_of_lt hn, show wlo n = n from Nat.mod_eq_of_lt hn] at this; exact this
def mulF (R : Nat → Nat) (i : Nat) : Nat :=
 if i = 0 then (pas R 0 0 + cr R 0 5 * 19) % 2251799813685248 else if i = 1 then pas R 0 1 + (pas R 0 0 + cr R 0 5 * 19) / 2251799813685248 else pas R 0 i
theorem mulF_val (R : Nat → Nat) : val (mulF R) % Pq = val R % Pq := by
 have h := pas_val R 0
 rw [Nat.add_zero] at h
 rw [← h, add_mul_mod19]
 congr 1
 simp only [val, mulF, if_true, if_neg (show ¬ (1 = 0) by omega), if_neg (show ¬ (2 = 0) by omega), if_neg (show ¬ (3 = 0) by omega), if_neg (show ¬ (4 = 0) by omega), if_neg (show ¬ (2 = 1) by omega), if_neg (show ¬ (3 = 1) by omega), if_neg (show ¬ (4 = 1) by omega)]
 omega
theorem crR (R : Nat → Nat) (h : ∀ k, R k ≤ 25 * 96342400000000000000000000000000) : ∀ k, cr R 0 k ≤ 1100000000000000000
 | 0 => by simp [cr]
 | k + 1 => by have h1 := crR R h k; have h2 := h k; rw [cr]; omega
def lowV (R : Nat → Nat) (k i : Nat) : Value := if i < k then .int .u64 (pas R 0 i : Nat) else .int .u64 0
theorem lowV_set (R : Nat → Nat) (k : Nat) : (row 5 (lowV R k)).set k (.int .u64 (pas R 0 k : Nat)) = row 5 (lowV R (k + 1)) :=
 row_set k _ (by unfold lowV; rw [if_pos (by omega)]) (fun i _ h => by unfold lowV; by_cases h1 : i < k; rw [if_pos h1, if_pos (by omega)]; rw [if_neg h1, if_neg (by omega)])
set_option maxHeartbeats 2000000 in
theorem femul_any {f g : Nat → Nat} {x y : Nat} (hf : FE f x) (hg : FE g y) (w : World) :
  Calls Tryz.prog 63 #[.agg #[.int .u64 (f 0 : Nat), .int .u64 (f 1 : Nat), .int .u64 (f 2 : Nat), .int .u64 (f 3 : Nat), .int .u64 (f 4 : Nat)], .agg #[.int .u64 (g 0 : Nat), .int .u64 (g 1 : Nat), .int .u64 (g 2 : Nat), .int .u64 (g 3 : Nat), .int .u64 (g 4 : Nat)]] w fun e w' => ∃ h, e = .returned (.agg #[.int .u64 (h 0 : Nat), .int .u64 (h 1 : Nat), .int .u64 (h 2 : Nat), .int .u64 (h 3 : Nat), .int .u64 (h 4 : Nat)]) ∧ FE h (x * y % Pq) ∧ Below w.heap.size w w' := by
 go_enter Tryz.func63, Tryz.ntmps63
 go_wp2
 refine wp_gen (fun W => Blk W (w.heap.size + 1) (row 5 (fV g)) 52 ∧ Blk W (w.heap.size + 1 + 1 + 1) (row 10 (colV (col f g 0 0))) 129 ∧ Blk W (w.heap.size + 1 + 1) (row 5 (fV fun _ => 0)) 52 ∧ Below w.heap.size w W) ?_ (fun W hW => ?_)
 ·exact ⟨((Blk.new' (by simp)).alloc _).alloc _, (by rw [show row 10 (colV (col f g 0 0)) = [.int .u64 0, .int .u64 0, .int .u64 0, .int .u64 0, .int .u64 0, .int .u64 0, .int .u64 0, .int .u64 0, .int .u64 0, .int .u64 0] from by simp [row, List.range, List.range.loop, colV, col, colJ, colI, whi, wlo]]; exact Blk.new' (by simp)), (by rw [show row 5 (fV fun _ => 0) = [.int .u64 0, .int .u64 0, .int .u64 0, .int .u64 0, .int .u64 0] from rfl]; exact (Blk.new' (by simp)).alloc _), belowBy⟩
 obtain ⟨hb1, hw1, ho1, hbl1⟩ := hW
 go_loopw [17] (fun i wr => ∃ k : Nat, k ≤ 5 ∧ i = .int .i64 k ∧ Blk wr (w.heap.size + 1) (row 5 (fV g)) 52 ∧ Blk wr (w.heap.size + 1 + 1 + 1) (row 10 (colV (col f g k 0))) 129 ∧ Blk wr (w.heap.size + 1 + 1) (row 5 (fV fun _ => 0)) 52 ∧ Below w.heap.size w wr) (fun i _ => 5 - (intOf i).toNat)
 case atStart => exact ⟨0, by omega, rfl, hb1, hw1, ho1, hbl1⟩
 case round =>
  clear hb1 hw1 ho1 hbl1 W
  obtain ⟨i, hi, rfl, hbB, hwB, hoB, hbl⟩ := hrel
  obtain ⟨wo, hwo⟩ : ∃ wo : World, wo = wr := ⟨_, rfl⟩
  by_cases hlt : i < 5
  ·have hx := ix5 f i hlt
   have hdd : decide ((i : Int) < 5) = true := by simp; omega
   have hbc := hbB.cell
   rw [row5] at hbc
   unfold fV at hbc
   go_wp2
   clear hx hbc
   go_loopw [23] (fun j wr => ∃ k : Nat, k ≤ 5 ∧ j = .int .i64 k ∧ Blk wr (w.heap.size + 1) (row 5 (fV g)) 52 ∧ Blk wr (w.heap.size + 1 + 1 + 1) (row 10 (colV (col f g i k))) 129 ∧ Blk wr (w.heap.size + 1 + 1) (row 5 (fV fun _ => 0)) 52 ∧ Below w.heap.size w wr) (fun j _ => 5 - (intOf j).toNat)
   case atStart => exact ⟨0, by omega, rfl, hbB, hwB, hoB, hbl⟩
   case round =>
    subst hwo
    clear hbB hwB hoB hbl
    obtain ⟨j, hj, rfl, hbB, hwB, hoB, hbl⟩ := hrel
    by_cases hlt' : j < 5
    ·have hy := ix5 g j hlt'
     by_cases h5 : 5 ≤ i + j
     ·have d5 : decide ((5 : Int) ≤ (i : Int) + (j : Int)) = true := by simp; omega
      have hm : i + j - 5 < 5 := by omega
      have c1 : wr.cell? ⟨w.heap.size + 1 + 1 + 1, (i + j - 5) * 2, none⟩ = some (.int .u64 (whi (col f g i j (i + j - 5)) : Nat)) := by rw [hwB.at (by omega), colV_hi]
      have c2 : wr.cell? ⟨w.heap.size + 1 + 1 + 1, (i + j - 5) * 2 + 1, none⟩ = some (.int .u64 (wlo (col f g i j (i + j - 5)) : Nat)) := by rw [hwB.at (by omega), colV_lo]
      have h19 : IntKind.u64.wrap ((f i : Nat) * 19 : Int) = ((f i * 19 : Nat) : Int) := by have := hf.lim.lt i hlt; rw [wrapU]; omega
      have hP := fun W => feplus_any (col f g i j (i + j - 5)) (f i * 19) (g j) (by have := hf.lim.lt i hlt; omega) (by have := hg.lim.lt j hlt'; omega) (by
       have h1 := col_le hf.lim hg.lim i (j + 1) (by omega) (by omega) (i + j - 5)
       rw [col_big f g i j h5 hlt hlt'] at h1
       simp only [if_true] at h1
       omega) W
      have HP := Lib.hid hP
      have HC := Lib.hid (col_big f g i j h5 hlt hlt')
      have HB := Lib.hid hbB; have HW := Lib.hid hwB; have HO := Lib.hid hoB
      clear hP hbB hwB hoB
      generalize hn : col f g i j (i + j - 5) + f i * 19 * g j = n at *
      clear hn
      generalize f i * 19 = a19 at *
      go_wp2_with (go_at_call 112; go_must (refine (HP.out _).mono ?_; rintro e w1 ⟨rfl, hb⟩; have hB1 := HB.out.below' hb; have hW1 := HW.out.below' hb; have hO1 := HO.out.below' hb; have hbl1 := Below.call hbl hb; have e1 := hW1.cell ((i + j - 5) * 2); have e2 := hW1.cell ((i + j - 5) * 2 + 1); rw [row_get (by omega)] at e1 e2; have ef := hW1.frozen; clear hb hbl c1 c2))
      go_roundw
      case rel => exact ⟨j + 1, by omega, by go_num, (hB1.other _ (by simp; omega) _).other _ (by simp; omega) _, by rw [HC.out, ← colV_set]; exact (hW1.set _ _).set _ _, (hO1.other _ (by simp) _).other _ (by simp) _, belowBy⟩
      case measure => simp [intOf]; omega
     ·have d5 : decide ((5 : Int) ≤ (i : Int) + (j : Int)) = false := by simp; omega
      have hm : i + j < 5 := by omega
      have c1 : wr.cell? ⟨w.heap.size + 1 + 1 + 1, (i + j) * 2, none⟩ = some (.int .u64 (whi (col f g i j (i + j)) : Nat)) := by rw [hwB.at (by omega), colV_hi]
      have c2 : wr.cell? ⟨w.heap.size + 1 + 1 + 1, (i + j) * 2 + 1, none⟩ = some (.int .u64 (wlo (col f g i j (i + j)) : Nat)) := by rw [hwB.at (by omega), colV_lo]
      have hP := fun W => feplus_any (col f g i j (i + j)) (f i) (g j) (by have := hf.lim.lt i hlt; omega) (by have := hg.lim.lt j hlt'; omega) (by
       have h1 := col_le hf.lim hg.lim i (j + 1) (by omega) (by omega) (i + j)
       rw [col_low f g i j h5] at h1
       simp only [if_true] at h1
       omega) W
      have HP := Lib.hid hP
      have HC := Lib.hid (col_low f g i j h5)
      have HB := Lib.hid hbB; have HW := Lib.hid hwB; have HO := Lib.hid hoB
      clear hP hbB hwB hoB
      generalize hn : col f g i j (i + j) + f i * g j = n at *
      clear hn
      go_wp2_with (go_at_call 112; go_must (refine (HP.out _).mono ?_; rintro e w1 ⟨rfl, hb⟩; have hB1 := HB.out.below' hb; have hW1 := HW.out.below' hb; have hO1 := HO.out.below' hb; have hbl1 := Below.call hbl hb; have e1 := hW1.cell ((i + j) * 2); have e2 := hW1.cell ((i + j) * 2 + 1); rw [row_get (by omega)] at e1 e2; have ef := hW1.frozen; clear hb hbl c1 c2))
      go_roundw
      case rel => exact ⟨j + 1, by omega, by go_num, (hB1.other _ (by simp; omega) _).other _ (by simp; omega) _, by rw [HC.out, ← colV_set]; exact (hW1.set _ _).set _ _, (hO1.other _ (by simp) _).other _ (by simp) _, belowBy⟩
      case measure => simp [intOf]; omega
    ·obtain rfl : j = 5 := by omega
     clear hlt' hj
     go_wp2
     go_roundw
     case rel => exact ⟨i + 1, by omega, by go_num, hbB, hwB, hoB, hbl⟩
     case measure => simp [intOf]; omega
  ·obtain rfl : i = 5 := by omega
   clear hwo hlt hi hbB
   have hR : ∀ k, col f g 5 0 k ≤ 25 * 96342400000000000000000000000000 := col_le hf.lim hg.lim 4 5 (by omega) (by omega)
   have HV := Lib.hid (col_val f g)
   have HF := Lib.hid hf; have HG := Lib.hid hg
   clear hf hg
   generalize col f g 5 0 = R at *
   rw [row10] at hwB
   rw [row5] at hoB
   unfold fV at hoB
   simp only [colV_0, colV_1, colV_2, colV_3, colV_4, colV_5, colV_6, colV_7, colV_8, colV_9] at hwB
   have hwc := hwB.cell
   have hwlt := hwB.lt
   have HR := Lib.hid hR
   have HO := Lib.hid hoB
   clear hR hwB hoB
   go_wp2
   clear hwc
   obtain ⟨wo, rfl⟩ : ∃ wo : World, wo = wr := ⟨_, rfl⟩
   have hB0 : Below w.heap.size w (wo.alloc (.cells #[.int .u64 0, .int .u64 0, .int .u64 0, .int .u64 0, .int .u64 0] 50)) := belowBy
   have hL0 : Blk (wo.alloc (.cells #[.int .u64 0, .int .u64 0, .int .u64 0, .int .u64 0, .int .u64 0] 50)) wo.heap.size (row 5 (lowV R 0)) 50 := Blk.new wo _ _
   have hO0 := (HO.out).alloc (.cells #[.int .u64 0, .int .u64 0, .int .u64 0, .int .u64 0, .int .u64 0] 50)
   have HO1 := Lib.hid hO0
   have hwl : w.heap.size + 1 + 1 < wo.heap.size := HO.out.lt
   have hwz : w.heap.size ≤ wo.heap.size := by omega
   clear HO hO0 hbl hwlt
   go_loopw [11, 61] (fun c i wx => ∃ k : Nat, k ≤ 5 ∧ i = .int .i64 k ∧ c = .int .u64 (cr R 0 k : Nat) ∧ Blk wx wo.heap.size (row 5 (lowV R k)) 50 ∧ Hid (Blk wx (w.heap.size + 1 + 1) [.int .u64 0, .int .u64 0, .int .u64 0, .int .u64 0, .int .u64 0] 52) ∧ Below w.heap.size w wx) (fun _ i _ => 5 - (intOf i).toNat)
   case atStart => exact ⟨0, by omega, rfl, rfl, hL0, HO1, hB0⟩
   case round =>
    clear hL0 HO1 hB0
    obtain ⟨k, hk, rfl, rfl, hL, HO, hbel⟩ := hrel
    by_cases hlt : k < 5
    ·have hx := ixw R k hlt
     have hcr := crR R HR.out k
     have hRk := HR.out k
     have hP := fun W => feplus_one (R k) (cr R 0 k) (by omega) (by omega) W
     have hlo : bits BinOp.and IntKind.u64 (wlo (R k + cr R 0 k) : Nat) 2251799813685247 = ((pas R 0 k : Nat) : Int) := lo51 _
     have hhi : bits BinOp.or IntKind.u64 (IntKind.u64.wrap ((whi (R k + cr R 0 k) : Nat) * 8192 : Int)) ((wlo (R k + cr R 0 k) : Nat) / 2251799813685248 : Int) = ((cr R 0 (k + 1) : Nat) : Int) := hi51 _ (by omega)
     have HP := Lib.hid hP
     have HL := Lib.hid hL
     have hLs := hL.lt
     have hOs := HO.out.lt
     clear hcr hRk hP hL
     generalize hn : R k + cr R 0 k = n at *
     clear hn
     go_wp2_with (go_at_call 112; go_must (refine (HP.out _).mono ?_; rintro e w1 ⟨rfl, hb⟩; have hV1 := (Blk.new wr #[.int .u64 (whi (R k) : Nat), .int .u64 (wlo (R k) : Nat)] 128).below' hb; have hL1 := (HL.out.alloc _).below' hb; have hO1 := (HO.out.alloc _).below' hb; have hbl1 := Below.call (show Below w.heap.size w _ from belowBy) hb; have vc := hV1.cell; have vf := hV1.frozen; have lc := hL1.at hlt; have lf := hL1.frozen k; rw [show lowV R k k = .int .u64 0 from if_neg (by omega)] at lc; have hne : ¬ wo.heap.size = wr.heap.size := (by omega); have hne2 : ¬ wr.heap.size = wo.heap.size := (by omega); have HL1 := Lib.hid hL1; have HO1 := Lib.hid hO1; clear hb hV1 hL1 hO1 HL HO))
     go_roundw
     case rel => exact ⟨k + 1, by omega, by go_num, rfl, by have := ((HL1.out.other ⟨wr.heap.size, 0, none⟩ (by simp; omega) (.int .u64 (whi n : Nat))).other ⟨wr.heap.size, 1, none⟩ (by simp; omega) (.int .u64 (wlo n : Nat))).set k (.int .u64 (pas R 0 k : Nat)); rw [lowV_set] at this; exact this, ((HO1.out.other _ (by simp; omega) _).other _ (by simp; omega) _).other _ (by simp; omega) _, belowBy⟩
     case measure => simp [intOf]; omega
    ·obtain rfl : k = 5 := by omega
     have hcr := crR R HR.out 5
     have hL5 : row 5 (lowV R 5) = [.int .u64 (pas R 0 0 : Nat), .int .u64 (pas R 0 1 : Nat), .int .u64 (pas R 0 2 : Nat), .int .u64 (pas R 0 3 : Nat), .int .u64 (pas R 0 4 : Nat)] := rfl
     rw [hL5] at hL
     clear hL5
     have hp := pas_lt R 0
     have HP0 := Lib.hid (fun W => feplus_low (pas R 0 0) (cr R 0 5) 19 (by have := hp 0; omega) (by omega) (by omega) (by have := hp 0; omega) W)
     have hlo : bits BinOp.and IntKind.u64 (wlo (pas R 0 0 + cr R 0 5 * 19) : Nat) 2251799813685247 = ((mulF R 0 : Nat) : Int) := lo51 _
     have hhi : IntKind.u64.wrap ((pas R 0 1 : Nat) + bits BinOp.or IntKind.u64 (IntKind.u64.wrap ((whi (pas R 0 0 + cr R 0 5 * 19) : Nat) * 8192 : Int)) ((wlo (pas R 0 0 + cr R 0 5 * 19) : Nat) / 2251799813685248 : Int) : Int) = ((mulF R 1 : Nat) : Int) := by
      rw [hi51 _ (by have := hp 0; omega), wrapU]
      have := hp 0; have := hp 1
      show _ = ((pas R 0 1 + (pas R 0 0 + cr R 0 5 * 19) / 2251799813685248 : Nat) : Int)
      omega
     have hbd : ∀ i, i < 5 → mulF R i ≤ 9223372036854775808 := fun i _ => by
      have := hp 0; have := hp 1; have := hp i
      unfold mulF; split
      ·omega
      ·split <;> omega
     have HQ : Hid (FE (cF (mulF R)) (x * y % Pq)) := Lib.hid ⟨cF_lim _ hbd, by rw [cF_val, mulF_val, HV.out, Nat.mul_mod, HF.out.num, HG.out.num]⟩
     have HBD := Lib.hid hbd
     rw [show pas R 0 2 = mulF R 2 from rfl, show pas R 0 3 = mulF R 3 from rfl, show pas R 0 4 = mulF R 4 from rfl] at hL
     have HL := Lib.hid hL
     clear hcr hp hbd hL hk hlt
     have hLc := HL.out.cell
     have hLf := HL.out.frozen
     have hLl := HL.out.lt
     have hOl := HO.out.lt
     generalize pas R 0 0 + cr R 0 5 * 19 = n at *
     go_wp2_with (first             | (go_at_call 112; go_must (refine (HP0.out _).mono ?_; rintro e w1 ⟨rfl, hb⟩; have hL1 := HL.out.below' hb; have lc := hL1.cell; have lf := hL1.frozen; have hO1 := HO.out.below' hb; have hbl1 := Below.call hbel hb; have HL1 := Lib.hid hL1; have HO1 := Lib.hid hO1; have hlt1 := hL1.lt; have hot1 := hO1.lt; have hne : ¬ wo.heap.size = w1.heap.size := (by omega); have hne2 : ¬ w1.heap.size = wo.heap.size := (by omega); clear hb hL1 hO1 HL HO HP0))             | (go_at_call 113; go_must (refine (carried_any (mulF R) HBD.out _).mono ?_; rintro e w2 ⟨rfl, hb⟩; have hO2 := (((HO1.out.other ⟨wo.heap.size, 0, none⟩ (by simp; omega) (.int .u64 (mulF R 0 : Nat))).other ⟨wo.heap.size, 1, none⟩ (by simp; omega) (.int .u64 (mulF R 1 : Nat))).alloc _).below' hb; have oc := hO2.cell; have of := hO2.frozen; have hbl2 := Below.call (show Below w.heap.size w _ from belowBy) hb; clear hb hO2 lc lf)))
     exact bodyPost_ret (v := .agg #[.int .u64 (cF (mulF R) 0 : Nat), .int .u64 (cF (mulF R) 1 : Nat), .int .u64 (cF (mulF R) 2 : Nat), .int .u64 (cF (mulF R) 3 : Nat), .int .u64 (cF (mulF R) 4 : Nat)]) (by simp [results, Tryz.results63, go_sem, oc]) rfl ⟨_, rfl, HQ.out, belowBy⟩
theorem pow_step (x N j : Nat) : (x ^ (N / 2 ^ (j + 1)) % Pq) * (x ^ (N / 2 ^ (j + 1)) % Pq) % Pq = x ^ (2 * (N / 2 ^ (j + 1))) % Pq := by
 rw [← Nat.mul_mod, ← Nat.pow_add]; congr 2; omega
theorem half_step (N j : Nat) : N / 2 ^ j = 2 * (N / 2 ^ (j + 1)) + N / 2 ^ j % 2 := by
 rw [Nat.pow_succ, ← Nat.div_div_eq_div_mul]; omega
theorem dig_test (N j : Nat) (x : Int) (hx : x = (lw N (j / 64) : Nat)) : (bits BinOp.and IntKind.u64 (x / 2 ^ (j % 64)) 1 == 1) = decide (N / 2 ^ j % 2 = 1) := by
 subst hx
 have hq : lw N (j / 64) / 2 ^ (j % 64) < 18446744073709551616 := Nat.lt_of_le_of_lt (Nat.div_le_self _ _) (lw_lt _ _)
 rw [show ((lw N (j / 64) : Nat) : Int) / 2 ^ (j % 64) = ((lw N (j / 64) / 2 ^ (j % 64) : Nat) : Int) from by simp, show (1 : Int) = ((1 : Nat) : Int) from rfl, u64_and_nat _ 1 hq (by omega), Nat.and_one_is_mod, lw_bit]
 generalize N / 2 ^ j % 2 = b
 by_cases hb : b = 1
 ·subst hb; simp
 ·rw [decide_eq_false hb, beq_eq_false_iff_ne]; omega
theorem pow_odd (x N j : Nat) (h : N / 2 ^ j % 2 = 1) : x ^ (N / 2 ^ j) % Pq = (x ^ (N / 2 ^ (j + 1)) % Pq) * (x ^ (N / 2 ^ (j + 1)) % Pq) % Pq * x % Pq := by
 have e : N / 2 ^ j = 2 * (N / 2 ^ (j + 1)) + 1 := by have := half_step N j; omega
 rw [pow_step, e, Nat.pow_succ]
 generalize x ^ (2 * (N / 2 ^ (j + 1))) = y
 rw [Nat.mul_mod (y % Pq), Nat.mod_mod, ← Nat.mul_mod]
set_option maxHeartbeats 1000000 in
theorem power_any {f : Nat → Nat} {x : Nat} (N T : Nat) (hT1 : T ≤ 256) (hT2 : 256 ≤ T) (hN : N < 2 ^ T) (hf : FE f x) (w : World) :
  Calls Tryz.prog 111 #[.agg #[.int .u64 (f 0 : Nat), .int .u64 (f 1 : Nat), .int .u64 (f 2 : Nat), .int .u64 (f 3 : Nat), .int .u64 (f 4 : Nat)], .agg #[.int .u64 (lw N 0 : Nat), .int .u64 (lw N 1 : Nat), .int .u64 (lw N 2 : Nat), .int .u64 (lw N 3 : Nat)]] w fun e w' => ∃ h, e = .returned (.agg #[.int .u64 (h 0 : Nat), .int .u64 (h 1 : Nat), .int .u64 (h 2 : Nat), .int .u64 (h 3 : Nat), .int .u64 (h 4 : Nat)]) ∧ FE h (x ^ N % Pq) ∧ Below w.heap.size w w' := by
 have HN := Lib.hid hN; have HF := Lib.hid hf
 clear hN hf
 go_enter Tryz.func111, Tryz.ntmps111
 go_upto_region 2 with (go_at_call 89; go_must (refine (fesmall_any (n := 1) (by omega) _).mono ?_; rintro e w1 ⟨rfl, hb⟩))
 refine wp_gen (fun W => Blk W w.heap.size [.int .u64 (f 0 : Nat),.int .u64 (f 1 : Nat),.int .u64 (f 2 : Nat),.int .u64 (f 3 : Nat),.int .u64 (f 4 : Nat)] 52 ∧ Blk W (w.heap.size + 1) (row 4 (wV N)) 46 ∧ Blk W (w.heap.size + 1 + 1) [.int .u64 0, .int .u64 0, .int .u64 0, .int .u64 0, .int .u64 0] 52 ∧ (∃ h, FE h (x ^ (N / 2 ^ T) % Pq) ∧ Blk W w1.heap.size [.int .u64 (h 0 : Nat),.int .u64 (h 1 : Nat),.int .u64 (h 2 : Nat),.int .u64 (h 3 : Nat),.int .u64 (h 4 : Nat)] 52) ∧ Below w.heap.size w W) ?_ (fun W hW => ?_)
 ·refine ⟨(((Blk.new w _ _).alloc _).alloc _ |>.below' hb).alloc _, (((Blk.new' (by simp)).alloc _).below' hb).alloc _, ((Blk.new' (by simp)).below' hb).alloc _, ⟨smallF 1, ?_, Blk.new w1 _ _⟩, Below.alloc' (Below.call belowBy hb) _⟩
  rw [Nat.div_eq_of_lt HN.out, Nat.pow_zero]
  exact FE.small (by omega)
 have hs1 : w.heap.size + 1 + 1 < w1.heap.size := by have := hb.size; simp at this; omega
 obtain ⟨hA, hK, hO, hH, hbel⟩ := hW
 clear hb
 generalize w1.heap.size = g at *
 clear w1
 go_wp2
 go_loopw [6] (fun i wr => ∃ k : Nat, k ≤ 256 ∧ i = .int .i64 ((k : Int) - 1) ∧ Blk wr w.heap.size [.int .u64 (f 0 : Nat),.int .u64 (f 1 : Nat),.int .u64 (f 2 : Nat),.int .u64 (f 3 : Nat),.int .u64 (f 4 : Nat)] 52 ∧ Blk wr (w.heap.size + 1) (row 4 (wV N)) 46 ∧ Blk wr (w.heap.size + 1 + 1) [.int .u64 0, .int .u64 0, .int .u64 0, .int .u64 0, .int .u64 0] 52 ∧ (∃ h, FE h (x ^ (N / 2 ^ k) % Pq) ∧ Blk wr g [.int .u64 (h 0 : Nat),.int .u64 (h 1 : Nat),.int .u64 (h 2 : Nat),.int .u64 (h 3 : Nat),.int .u64 (h 4 : Nat)] 52) ∧ Below w.heap.size w wr) (fun i _ => (intOf i + 1).toNat)
 case atStart => exact ⟨T, by omega, by congr 1; omega, hA, hK, hO, hH, hbel⟩
 case round =>
  clear hA hK hO hH hbel W
  obtain ⟨k, hk, rfl, hA, hK, hO, ⟨h, hh, hH⟩, hbel⟩ := hrel
  by_cases hk0 : k = 0
  ·subst hk0
   rw [Nat.pow_zero, Nat.div_one] at hh
   have hHc := hH.cell; have hOc := hO.cell; have hOf := hO.frozen
   rw [show (((0 : Nat) : Int) - 1) = -1 from rfl]
   clear hA hK hO hH hk
   go_wp2
   exact bodyPost_ret (v := .agg #[.int .u64 (h 0 : Nat), .int .u64 (h 1 : Nat), .int .u64 (h 2 : Nat), .int .u64 (h 3 : Nat), .int .u64 (h 4 : Nat)]) (by simp [results, Tryz.results111, go_sem, hOc]) rfl ⟨_, rfl, hh, belowBy⟩
  ·obtain ⟨j, rfl⟩ : ∃ j, k = j + 1 := ⟨k - 1, by omega⟩
   rw [show (((j + 1 : Nat) : Int) - 1) = (j : Int) from by omega]
   have hj4 : j / 64 < 4 := by omega
   obtain ⟨xi, hxi⟩ : ∃ xi : Int, xi = (lw N (j / 64) : Nat) := ⟨_, rfl⟩
   have HD := Lib.hid (dig_test N j xi hxi)
   have hx0 : 0 ≤ xi := by omega
   have hx1 : xi < 18446744073709551616 := by have := lw_lt N (j / 64); omega
   have HK := Lib.hid (show ∀ W, Blk W (w.heap.size + 1) (row 4 (wV N)) 46 → W.cell? ⟨w.heap.size + 1, j / 64, none⟩ = some (.int .u64 xi) from fun W h => by rw [h.at hj4, hxi]; rfl)
   have hHc := hH.cell
   have HA0 := Lib.hid hA; have HK0 := Lib.hid hK; have HO0 := Lib.hid hO; have HH0 := Lib.hid hH
   clear hxi hA hK hO hH hk0
   by_cases hb : N / 2 ^ j % 2 = 1
   ·have hd : (bits BinOp.and IntKind.u64 (xi / 2 ^ (j % 64)) 1 == 1) = true := by rw [HD.out, decide_eq_true hb]
    have HB := Lib.hid hb
    clear hb
    go_wp2_with (go_at_call 63; first | ((with_reducible refine (femul_any hh hh _).mono ?_); rintro e w1 ⟨h1, rfl, hh1, hb1⟩; have hH1 := HH0.out.below' hb1; have hHf := hH1.frozen; have hHc1 := hH1.cell; have kc := HK.out _ (HK0.out.below' hb1); have ac := (HA0.out.below' hb1).cell; have hg1 : ¬ g = w.heap.size + 1 := (by omega); have hg2 : ¬ g = w.heap.size := (by omega); have hg3 : ¬ w.heap.size + 1 = g := (by omega); have hg4 : ¬ w.heap.size = g := (by omega); have HA1 := Lib.hid (HA0.out.below' hb1); have HK1 := Lib.hid (HK0.out.below' hb1); have HO1 := Lib.hid (HO0.out.below' hb1); have HH1 := Lib.hid hH1; have hbel1 := Below.call hbel hb1; clear hb1 hH1 hHc HA0 HK0 HO0 HH0 hbel) | ((with_reducible refine (femul_any hh1 HF.out _).mono ?_); rintro e w2 ⟨h2, rfl, hh2, hb2⟩; have hH2 := (((((HH1.out.set 0 (.int .u64 (h1 0 : Nat))).set 1 (.int .u64 (h1 1 : Nat))).set 2 (.int .u64 (h1 2 : Nat))).set 3 (.int .u64 (h1 3 : Nat))).set 4 (.int .u64 (h1 4 : Nat))).below' hb2; have hHf2 := hH2.frozen; have hHc2 := hH2.cell; have HH2 := Lib.hid hH2; have HA2 := Lib.hid ((((((HA1.out.other ⟨g, 0, none⟩ (by simp; omega) (.int .u64 (h1 0 : Nat))).other ⟨g, 1, none⟩ (by simp; omega) (.int .u64 (h1 1 : Nat))).other ⟨g, 2, none⟩ (by simp; omega) (.int .u64 (h1 2 : Nat))).other ⟨g, 3, none⟩ (by simp; omega) (.int .u64 (h1 3 : Nat))).other ⟨g, 4, none⟩ (by simp; omega) (.int .u64 (h1 4 : Nat))).below' hb2); have HK2 := Lib.hid ((((((HK1.out.other ⟨g, 0, none⟩ (by simp; omega) (.int .u64 (h1 0 : Nat))).other ⟨g, 1, none⟩ (by simp; omega) (.int .u64 (h1 1 : Nat))).other ⟨g, 2, none⟩ (by simp; omega) (.int .u64 (h1 2 : Nat))).other ⟨g, 3, none⟩ (by simp; omega) (.int .u64 (h1 3 : Nat))).other ⟨g, 4, none⟩ (by simp; omega) (.int .u64 (h1 4 : Nat))).below' hb2); have HO2 := Lib.hid ((((((HO1.out.other ⟨g, 0, none⟩ (by simp; omega) (.int .u64 (h1 0 : Nat))).other ⟨g, 1, none⟩ (by simp; omega) (.int .u64 (h1 1 : Nat))).other ⟨g, 2, none⟩ (by simp; omega) (.int .u64 (h1 2 : Nat))).other ⟨g, 3, none⟩ (by simp; omega) (.int .u64 (h1 3 : Nat))).other ⟨g, 4, none⟩ (by simp; omega) (.int .u64 (h1 4 : Nat))).below' hb2); have hbel2 := Below.call (show Below w.heap.size w _ from belowBy) hb2; clear hb2 hH2 hHc1 hHf kc ac HA1 HK1 HO1 HH1 hbel1))
    go_roundw
    case rel => exact ⟨j, by omega, rfl, (((((HA2.out.other ⟨g, 0, none⟩ (by simp; omega) (.int .u64 (h2 0 : Nat))).other ⟨g, 1, none⟩ (by simp; omega) (.int .u64 (h2 1 : Nat))).other ⟨g, 2, none⟩ (by simp; omega) (.int .u64 (h2 2 : Nat))).other ⟨g, 3, none⟩ (by simp; omega) (.int .u64 (h2 3 : Nat))).other ⟨g, 4, none⟩ (by simp; omega) (.int .u64 (h2 4 : Nat))), (((((HK2.out.other ⟨g, 0, none⟩ (by simp; omega) (.int .u64 (h2 0 : Nat))).other ⟨g, 1, none⟩ (by simp; omega) (.int .u64 (h2 1 : Nat))).other ⟨g, 2, none⟩ (by simp; omega) (.int .u64 (h2 2 : Nat))).other ⟨g, 3, none⟩ (by simp; omega) (.int .u64 (h2 3 : Nat))).other ⟨g, 4, none⟩ (by simp; omega) (.int .u64 (h2 4 : Nat))), (((((HO2.out.other ⟨g, 0, none⟩ (by simp; omega) (.int .u64 (h2 0 : Nat))).other ⟨g, 1, none⟩ (by simp; omega) (.int .u64 (h2 1 : Nat))).other ⟨g, 2, none⟩ (by simp; omega) (.int .u64 (h2 2 : Nat))).other ⟨g, 3, none⟩ (by simp; omega) (.int .u64 (h2 3 : Nat))).other ⟨g, 4, none⟩ (by simp; omega) (.int .u64 (h2 4 : Nat))), ⟨h2, by rw [pow_odd x N j HB.out]; exact hh2, (((((HH2.out.set 0 (.int .u64 (h2 0 : Nat))).set 1 (.int .u64 (h2 1 : Nat))).set 2 (.int .u64 (h2 2 : Nat))).set 3 (.int .u64 (h2 3 : Nat))).set 4 (.int .u64 (h2 4 : Nat)))⟩, belowBy⟩
    case measure => simp [intOf] <;> omega
   ·have hd : (bits BinOp.and IntKind.u64 (xi / 2 ^ (j % 64)) 1 == 1) = false := by rw [HD.out, decide_eq_false hb]
    have HB : Hid (N / 2 ^ j % 2 = 0) := Lib.hid (by omega)
    clear hb
    go_wp2_with (go_at_call 63; first | ((with_reducible refine (femul_any hh hh _).mono ?_); rintro e w1 ⟨h1, rfl, hh1, hb1⟩; have hH1 := HH0.out.below' hb1; have hHf := hH1.frozen; have hHc1 := hH1.cell; have kc := HK.out _ (HK0.out.below' hb1); have ac := (HA0.out.below' hb1).cell; have hg1 : ¬ g = w.heap.size + 1 := (by omega); have hg2 : ¬ g = w.heap.size := (by omega); have hg3 : ¬ w.heap.size + 1 = g := (by omega); have hg4 : ¬ w.heap.size = g := (by omega); have HA1 := Lib.hid (HA0.out.below' hb1); have HK1 := Lib.hid (HK0.out.below' hb1); have HO1 := Lib.hid (HO0.out.below' hb1); have HH1 := Lib.hid hH1; have hbel1 := Below.call hbel hb1; clear hb1 hH1 hHc HA0 HK0 HO0 HH0 hbel))
    go_roundw
    case rel => exact ⟨j, by omega, rfl, (((((HA1.out.other ⟨g, 0, none⟩ (by simp; omega) (.int .u64 (h1 0 : Nat))).other ⟨g, 1, none⟩ (by simp; omega) (.int .u64 (h1 1 : Nat))).other ⟨g, 2, none⟩ (by simp; omega) (.int .u64 (h1 2 : Nat))).other ⟨g, 3, none⟩ (by simp; omega) (.int .u64 (h1 3 : Nat))).other ⟨g, 4, none⟩ (by simp; omega) (.int .u64 (h1 4 : Nat))), (((((HK1.out.other ⟨g, 0, none⟩ (by simp; omega) (.int .u64 (h1 0 : Nat))).other ⟨g, 1, none⟩ (by simp; omega) (.int .u64 (h1 1 : Nat))).other ⟨g, 2, none⟩ (by simp; omega) (.int .u64 (h1 2 : Nat))).other ⟨g, 3, none⟩ (by simp; omega) (.int .u64 (h1 3 : Nat))).other ⟨g, 4, none⟩ (by simp; omega) (.int .u64 (h1 4 : Nat))), (((((HO1.out.other ⟨g, 0, none⟩ (by simp; omega) (.int .u64 (h1 0 : Nat))).other ⟨g, 1, none⟩ (by simp; omega) (.int .u64 (h1 1 : Nat))).other ⟨g, 2, none⟩ (by simp; omega) (.int .u64 (h1 2 : Nat))).other ⟨g, 3, none⟩ (by simp; omega) (.int .u64 (h1 3 : Nat))).other ⟨g, 4, none⟩ (by simp; omega) (.int .u64 (h1 4 : Nat))), ⟨h1, by rw [half_step, HB.out, Nat.add_zero, ← pow_step]; exact hh1, (((((HH1.out.set 0 (.int .u64 (h1 0 : Nat))).set 1 (.int .u64 (h1 1 : Nat))).set 2 (.int .u64 (h1 2 : Nat))).set 3 (.int .u64 (h1 3 : Nat))).set 4 (.int .u64 (h1 4 : Nat)))⟩, belowBy⟩
    case measure => simp [intOf] <;> omega
set_option maxHeartbeats 1000000 in
theorem feinv_any {f : Nat → Nat} {x : Nat} (hf : FE f x) (w : World) :
  Calls Tryz.prog 62 #[.agg #[.int .u64 (f 0 : Nat), .int .u64 (f 1 : Nat), .int .u64 (f 2 : Nat), .int .u64 (f 3 : Nat), .int .u64 (f 4 : Nat)]] w fun e w' => ∃ h, e = .returned (.agg #[.int .u64 (h 0 : Nat), .int .u64 (h 1 : Nat), .int .u64 (h 2 : Nat), .int .u64 (h 3 : Nat), .int .u64 (h 4 : Nat)]) ∧ FE h (x ^ expInv % Pq) ∧ Below w.heap.size w w' := by
 have hP := fun W => power_any expInv (8 * 32) (by omega) (by omega) (by decide +kernel) hf W
 rw [show lw expInv 0 = 18446744073709551595 from by decide +kernel, show lw expInv 1 = 18446744073709551615 from by decide +kernel, show lw expInv 2 = 18446744073709551615 from by decide +kernel, show lw expInv 3 = 9223372036854775807 from by decide +kernel] at hP
 have HP := Lib.hid hP
 clear hP
 go_enter Tryz.func62, Tryz.ntmps62
 go_wp2_with (go_at_call 111; go_must (refine (HP.out _).mono ?_; rintro e w1 ⟨h, rfl, hr, hb⟩; have hO := (show Blk _ (w.heap.size + 1) [.int .u64 0, .int .u64 0, .int .u64 0, .int .u64 0, .int .u64 0] 52 from (by repeat (first | (with_reducible refine Blk.drew ?_) | exact Blk.new' (by simp) | (with_reducible refine Blk.alloc ?_ _)))).below' hb; have hOc := hO.cell; have hOf := hO.frozen; have hbel : Below w.heap.size w w1 := Below.call belowBy hb; clear hb hO))
 exact bodyPost_ret (v := .agg #[.int .u64 (h 0 : Nat), .int .u64 (h 1 : Nat), .int .u64 (h 2 : Nat), .int .u64 (h 3 : Nat), .int .u64 (h 4 : Nat)]) (by simp [results, Tryz.results62, go_sem, hOc]) rfl ⟨_, rfl, hr, belowBy⟩
def dg (n i : Nat) : Nat := n / 2 ^ (51 * i) % 2251799813685248
theorem dg_lt (n i : Nat) : dg n i < 2251799813685248 := Nat.mod_lt _ (by omega)
theorem dg_of (f : Nat → Nat) (h : ∀ i, f i < 2251799813685248) (i : Nat) (hi : i < 5) : dg (val f) i = f i := by
 have h0 := h 0; have h1 := h 1; have h2 := h 2; have h3 := h 3; have h4 := h 4
 have hh : i = 0 ∨ i = 1 ∨ i = 2 ∨ i = 3 ∨ i = 4 := by omega
 unfold dg val
 rcases hh with rfl | rfl | rfl | rfl | rfl <;> simp only [Nat.reduceMul, Nat.reducePow] <;> omega
theorem pas_small (f : Nat → Nat) (c0 : Nat) : val (pas f c0) < 57896044618658097711785492504343953926634992332820282019728792003956564819968 := by
 have h0 := pas_lt f c0 0; have h1 := pas_lt f c0 1; have h2 := pas_lt f c0 2; have h3 := pas_lt f c0 3; have h4 := pas_lt f c0 4
 unfold val; omega
theorem cr_five (f : Nat → Nat) (c0 : Nat) : cr f c0 5 = (val f + c0) / 57896044618658097711785492504343953926634992332820282019728792003956564819968 ∧ val (pas f c0) = (val f + c0) % 57896044618658097711785492504343953926634992332820282019728792003956564819968 := by
 have h1 := pas_val f c0
 have h2 := pas_small f c0
 omega
theorem Lim.val {f : Nat → Nat} (h : Lim f) : val f < 57896044618658097711785492504343953926634992332820282019728792003956564819968 + 20 := by
 have := h.l0; have := h.l1; have := h.l2; have := h.l3; have := h.l4
 unfold Go.Proofs.YtielgpefoameiaaGreat.val; omega
theorem whole_num {f : Nat → Nat} {x : Nat} (h : FE f x) : val (pas f (cr f 19 5 * 19)) = x := by
 have h1 := h.lim.val
 rw [(cr_five f _).2, (cr_five f 19).1, ← h.num]
 unfold Pq
 generalize val f = v at *
 by_cases hv : v < 57896044618658097711785492504343953926634992332820282019728792003956564819949
 ·rw [Nat.div_eq_of_lt (show v + 19 < 57896044618658097711785492504343953926634992332820282019728792003956564819968 by omega), Nat.mod_eq_of_lt hv, Nat.mod_eq_of_lt (by omega)]
  omega
 ·rw [show (v + 19) / 57896044618658097711785492504343953926634992332820282019728792003956564819968 = 1 by omega]
  omega
theorem whole_dg {f : Nat → Nat} {x : Nat} (h : FE f x) (i : Nat) (hi : i < 5) : pas f (cr f 19 5 * 19) i = dg x i := by
 rw [← whole_num h]; exact (dg_of _ (pas_lt _ _) i hi).symm
theorem FE.carry {f : Nat → Nat} {x : Nat} (h : FE f x) : FE (cF f) x := ⟨cF_lim f (fun i hi => by have := h.lim.lt i hi; omega), by rw [cF_val, h.num]⟩
theorem FE.sum_lt {f : Nat → Nat} {x : Nat} (h : FE f x) (c0 k : Nat) (hc : c0 ≤ 19) (hk : k < 5) : f k + cr f c0 k < 18446744073709551616 := by
 have h1 := h.lim.lt k hk
 have h2 := cr_lt f c0 (fun i hi => by have := h.lim.lt i hi; omega) (by omega) k (by omega)
 omega
set_option maxHeartbeats 1000000 in
theorem whole_any {f : Nat → Nat} {x : Nat} (hf : FE f x) (w : World) :
  Calls Tryz.prog 114 #[.agg #[.int .u64 (f 0 : Nat), .int .u64 (f 1 : Nat), .int .u64 (f 2 : Nat), .int .u64 (f 3 : Nat), .int .u64 (f 4 : Nat)]] w fun e w' => e = .returned (.agg #[.int .u64 (dg x 0 : Nat), .int .u64 (dg x 1 : Nat), .int .u64 (dg x 2 : Nat), .int .u64 (dg x 3 : Nat), .int .u64 (dg x 4 : Nat)]) ∧ Below w.heap.size w w' := by
 have hb1 : ∀ i, i < 5 → f i ≤ 9223372036854775808 := fun i hi => by have := hf.lim.lt i hi; omega
 have hb2 : ∀ i, i < 5 → cF f i ≤ 9223372036854775808 := fun i hi => by have := hf.carry.lim.lt i hi; omega
 have HB1 := Lib.hid hb1; have HB2 := Lib.hid hb2
 have HE := Lib.hid hf.carry.carry
 clear hb1 hb2 hf
 have fld : ∀ (x0 x1 x2 x3 x4 : Value) (w : World), (Instr.field 52 (.agg #[x0, x1, x2, x3, x4]) 0).run Tryz.prog w = .ok (.agg #[x0, x1, x2, x3, x4]) w := fun _ _ _ _ _ _ => by kernel_rfl
 go_enter Tryz.func114, Tryz.ntmps114
 go_upto_region 3 with (go_at_call 113; first | ((with_reducible refine (carried_any f HB1.out _).mono ?_); rintro e w1 ⟨rfl, hb1⟩; have hO1 := (show Blk _ (w.heap.size + 1) [.int .u64 0, .int .u64 0, .int .u64 0, .int .u64 0, .int .u64 0] 50 from (by repeat (first | (with_reducible refine Blk.drew ?_) | exact Blk.new' (by simp) | (with_reducible refine Blk.alloc ?_ _)))).below' hb1; have hbel1 : Below w.heap.size w w1 := Below.call belowBy hb1; clear hb1) | ((with_reducible refine (carried_any (cF f) HB2.out _).mono ?_); rintro e w2 ⟨rfl, hb2⟩; have hL2 := (Blk.new w1 #[.int .u64 (cF f 0 : Nat),.int .u64 (cF f 1 : Nat),.int .u64 (cF f 2 : Nat),.int .u64 (cF f 3 : Nat),.int .u64 (cF f 4 : Nat)] 50).below' hb2; have hO2 := (hO1.alloc _).below' hb2; have hbel2 : Below w.heap.size w w2 := Below.call (show Below w.heap.size w _ from belowBy) hb2; have lc := hL2.cell; have lf := hL2.frozen; have hg : w.heap.size + 1 < w1.heap.size := hO1.lt; clear hb2 hbel1 hO1))
 refine wp_gen (fun W => Blk W w1.heap.size (row 5 (fV (cF (cF f)))) 50 ∧ Blk W (w.heap.size + 1) [.int .u64 0, .int .u64 0, .int .u64 0, .int .u64 0, .int .u64 0] 50 ∧ Below w.heap.size w W) ?_ (fun W hW => ?_)
 ·exact ⟨(((((hL2.set 0 (.int .u64 (cF (cF f) 0 : Nat))).set 1 (.int .u64 (cF (cF f) 1 : Nat))).set 2 (.int .u64 (cF (cF f) 2 : Nat))).set 3 (.int .u64 (cF (cF f) 3 : Nat))).set 4 (.int .u64 (cF (cF f) 4 : Nat))), (((((hO2.other _ (by simp; omega) _).other _ (by simp; omega) _).other _ (by simp; omega) _).other _ (by simp; omega) _).other _ (by simp; omega) _), belowBy⟩
 obtain ⟨hA, hO, hbel⟩ := hW
 clear hbel2 lc lf hL2 hO2
 generalize w1.heap.size = g at *
 clear w1 w2
 generalize cF (cF f) = G at *
 have HS := Lib.hid (fun k hk => HE.out.sum_lt 19 k (by omega) hk)
 go_wp2
 go_loopw [4, 14] (fun c i wr => ∃ k : Nat, k ≤ 5 ∧ i = .int .i64 k ∧ c = .int .u64 (cr G 19 k : Nat) ∧ Blk wr g (row 5 (fV G)) 50 ∧ Blk wr (w.heap.size + 1) [.int .u64 0, .int .u64 0, .int .u64 0, .int .u64 0, .int .u64 0] 50 ∧ Below w.heap.size w wr) (fun _ i _ => 5 - (intOf i).toNat)
 case atStart => exact ⟨0, by omega, rfl, rfl, hA, hO, hbel⟩
 case round =>
  clear hA hO hbel W
  obtain ⟨k, hk, rfl, rfl, hA, hO, hbel⟩ := hrel
  by_cases hlt : k < 5
  ·obtain ⟨s, hs, hs0, hs1, ha, hd⟩ := pass_step G 19 k (HS.out k hlt)
   have hcell : wr.cell? ⟨g, k, none⟩ = some (.int .u64 (G k : Nat)) := hA.at hlt
   have HD := Lib.hid hd
   have HA := Lib.hid hA; have HO := Lib.hid hO
   clear hA hO hd ha
   go_wp2
   go_roundw
   case rel => exact ⟨k + 1, by omega, by go_num, by rw [HD.out], HA.out, HO.out, hbel⟩
   case measure => simp [intOf]; omega
  ·obtain rfl : k = 5 := by omega
   have h5 : cr G 19 5 ≤ 1 := by
    have := HE.out.lim.val
    rw [(cr_five G 19).1]; omega
   have hm : IntKind.u64.wrap (((cr G 19 5 : Nat) : Int) * 19) = ((cr G 19 5 * 19 : Nat) : Int) := by rw [wrapU]; omega
   have HW := Lib.hid (fun i hi => whole_dg HE.out i hi)
   have h19 : cr G 19 5 * 19 ≤ 19 := by omega
   have HS2 := Lib.hid (fun k hk => HE.out.sum_lt (cr G 19 5 * 19) k h19 hk)
   clear h5 h19 hlt hk HS
   generalize cr G 19 5 * 19 = c1 at *
   go_wp2
   clear hm
   go_loopw [4, 26] (fun c i wr => ∃ k : Nat, k ≤ 5 ∧ i = .int .i64 k ∧ c = .int .u64 (cr G c1 k : Nat) ∧ Blk wr g (row 5 (pasV G c1 k)) 50 ∧ Blk wr (w.heap.size + 1) [.int .u64 0, .int .u64 0, .int .u64 0, .int .u64 0, .int .u64 0] 50 ∧ Below w.heap.size w wr) (fun _ i _ => 5 - (intOf i).toNat)
   case atStart => exact ⟨0, by omega, rfl, rfl, by rw [pasV_zero]; exact hA, hO, hbel⟩
   clear hA hO hbel
   case round =>
    obtain ⟨k, hk, rfl, rfl, hA, hO, hbel⟩ := hrel
    by_cases hlt : k < 5
    ·obtain ⟨s, hs, hs0, hs1, ha, hd⟩ := pass_step G c1 k (HS2.out k hlt)
     have hcell := hA.at hlt
     rw [pasV_at] at hcell
     have hfr := hA.frozen k
     have HD := Lib.hid hd
     have HA := Lib.hid ((hA.set k (.int .u64 s)).set k (.int .u64 (pas G c1 k : Nat)))
     have HO := Lib.hid ((hO.other ⟨g, k, none⟩ (by simp; omega) (.int .u64 s)).other ⟨g, k, none⟩ (by simp; omega) (.int .u64 (pas G c1 k : Nat)))
     clear hA hO hd
     go_wp2
     go_roundw
     case rel => exact ⟨k + 1, by omega, by go_num, by rw [HD.out], by have := HA.out; rw [List.set_set, pasV_set] at this; exact this, HO.out, belowBy⟩
     case measure => simp [intOf]; omega
    ·obtain rfl : k = 5 := by omega
     rw [pasV_five, row5] at hA
     unfold fV at hA
     rw [HW.out 0 (by omega), HW.out 1 (by omega), HW.out 2 (by omega), HW.out 3 (by omega), HW.out 4 (by omega)] at hA
     have hAc := hA.cell; have hOc := hO.cell; have hOf := hO.frozen
     clear hA hO
     go_wp2
     exact bodyPost_ret (v := .agg #[.int .u64 (dg x 0 : Nat), .int .u64 (dg x 1 : Nat), .int .u64 (dg x 2 : Nat), .int .u64 (dg x 3 : Nat), .int .u64 (dg x 4 : Nat)]) (by simp [results, Tryz.results114, go_sem, hOc]) rfl ⟨rfl, belowBy⟩
theorem keep5 (g : Nat) (f : Nat → Nat) {w w' : World} (h : w.cell? ⟨g, 0, none⟩ = some (.int .u64 (f 0 : Nat)) ∧ w.cell? ⟨g, 1, none⟩ = some (.int .u64 (f 1 : Nat)) ∧ w.cell? ⟨g, 2, none⟩ = some (.int .u64 (f 2 : Nat)) ∧ w.cell? ⟨g, 3, none⟩ = some (.int .u64 (f 3 : Nat)) ∧ w.cell? ⟨g, 4, none⟩ = some (.int .u64 (f 4 : Nat))) (hb : Below w.heap.size w w') : w'.cell? ⟨g, 0, none⟩ = some (.int .u64 (f 0 : Nat)) ∧ w'.cell? ⟨g, 1, none⟩ = some (.int .u64 (f 1 : Nat)) ∧ w'.cell? ⟨g, 2, none⟩ = some (.int .u64 (f 2 : Nat)) ∧ w'.cell? ⟨g, 3, none⟩ = some (.int .u64 (f 3 : Nat)) ∧ w'.cell? ⟨g, 4, none⟩ = some (.int .u64 (f 4 : Nat)) := by
 obtain ⟨h0, h1, h2, h3, h4⟩ := h
 exact ⟨by rw [hb.cell (cell_lt h0)]; exact h0, by rw [hb.cell (cell_lt h1)]; exact h1, by rw [hb.cell (cell_lt h2)]; exact h2, by rw [hb.cell (cell_lt h3)]; exact h3, by rw [hb.cell (cell_lt h4)]; exact h4⟩
theorem dg_zero (x : Nat) : dg x 0 % 2 = x % 2 := by simp only [dg, Nat.mul_zero, Nat.pow_zero, Nat.div_one]; omega
theorem odd_num (x : Nat) : (bits BinOp.and IntKind.u64 (dg x 0 : Nat) 1 == 1) = decide (x % 2 = 1) := by
 have h := dg_lt x 0
 rw [show (1 : Int) = ((1 : Nat) : Int) from rfl, u64_and_nat _ 1 (by omega) (by omega), Nat.and_one_is_mod, dg_zero]
 generalize hb : x % 2 = b
 by_cases h1 : b = 1
 ·subst h1; simp
 ·rw [decide_eq_false h1, beq_eq_false_iff_ne]; omega
set_option maxHeartbeats 1000000 in
theorem feodd_any {f : Nat → Nat} {x : Nat} (hf : FE f x) (w : World) :
  Calls Tryz.prog 65 #[.agg #[.int .u64 (f 0 : Nat), .int .u64 (f 1 : Nat), .int .u64 (f 2 : Nat), .int .u64 (f 3 : Nat), .int .u64 (f 4 : Nat)]] w fun e w' => e = .returned (.bool (decide (x % 2 = 1))) ∧ Below w.heap.size w w' := by
 have HO := Lib.hid (odd_num x)
 have hi := ix5_0
 go_enter Tryz.func65, Tryz.ntmps65
 go_wp2_with (go_at_call 114; go_must (refine (whole_any hf _).mono ?_; rintro e w1 ⟨rfl, hb⟩; have hbel : Below w.heap.size w w1 := Below.call belowBy hb; clear hb))
 go_ret
 exact ⟨ret_bool HO.out, belowBy⟩
theorem dg_ext {x y : Nat} (hx : x < Pq) (hy : y < Pq) (h : ∀ i, i < 5 → dg x i = dg y i) : x = y := by
 have key : ∀ n, n < Pq → val (dg n) = n := by
  intro n hn
  unfold Pq at hn
  simp only [val, dg, Nat.reduceMul, Nat.reducePow]
  omega
 rw [← key x hx, ← key y hy]
 simp only [val, h 0 (by omega), h 1 (by omega), h 2 (by omega), h 3 (by omega), h 4 (by omega)]
set_option maxHeartbeats 1000000 in
theorem fesame_any {f g : Nat → Nat} {x y : Nat} (hf : FE f x) (hg : FE g y) (w : World) :
  Calls Tryz.prog 94 #[.agg #[.int .u64 (f 0 : Nat), .int .u64 (f 1 : Nat), .int .u64 (f 2 : Nat), .int .u64 (f 3 : Nat), .int .u64 (f 4 : Nat)], .agg #[.int .u64 (g 0 : Nat), .int .u64 (g 1 : Nat), .int .u64 (g 2 : Nat), .int .u64 (g 3 : Nat), .int .u64 (g 4 : Nat)]] w fun e w' => e = .returned (.bool (decide (x = y))) ∧ Below w.heap.size w w' := by
 have HE : Hid (([((dg x 0 : Nat) : Int), (dg x 1 : Nat), (dg x 2 : Nat), (dg x 3 : Nat), (dg x 4 : Nat)] == [((dg y 0 : Nat) : Int), (dg y 1 : Nat), (dg y 2 : Nat), (dg y 3 : Nat), (dg y 4 : Nat)]) = decide (x = y)) := by
  refine Lib.hid ?_
  by_cases h : x = y
  ·subst h; simp
  ·rw [decide_eq_false h, beq_eq_false_iff_ne]
   intro h'
   simp only [List.cons.injEq, Int.natCast_inj, and_true] at h'
   refine h (dg_ext hf.lt hg.lt fun i hi => ?_)
   have hh : i = 0 ∨ i = 1 ∨ i = 2 ∨ i = 3 ∨ i = 4 := by omega
   rcases hh with rfl | rfl | rfl | rfl | rfl <;> simp [h']
 have hq : ∀ w : World, (Op.equalIn 10000 50 (.agg #[.int .u64 (dg x 0 : Nat), .int .u64 (dg x 1 : Nat), .int .u64 (dg x 2 : Nat), .int .u64 (dg x 3 : Nat), .int .u64 (dg x 4 : Nat)]) (.agg #[.int .u64 (dg y 0 : Nat), .int .u64 (dg y 1 : Nat), .int .u64 (dg y 2 : Nat), .int .u64 (dg y 3 : Nat), .int .u64 (dg y 4 : Nat)])).run Tryz.prog w = .ok ([((dg x 0 : Nat) : Int), (dg x 1 : Nat), (dg x 2 : Nat), (dg x 3 : Nat), (dg x 4 : Nat)] == [((dg y 0 : Nat) : Int), (dg y 1 : Nat), (dg y 2 : Nat), (dg y 3 : Nat), (dg y 4 : Nat)]) w :=
  fun w => eqArr w 9998 50 45 5 .u64 Tryz.underlying50 Tryz.underlying45 (fun _ => by kernel_rfl) [((dg x 0 : Nat) : Int), (dg x 1 : Nat), (dg x 2 : Nat), (dg x 3 : Nat), (dg x 4 : Nat)] [((dg y 0 : Nat) : Int), (dg y 1 : Nat), (dg y 2 : Nat), (dg y 3 : Nat), (dg y 4 : Nat)] rfl rfl
 generalize ([((dg x 0 : Nat) : Int), (dg x 1 : Nat), (dg x 2 : Nat), (dg x 3 : Nat), (dg x 4 : Nat)] == [((dg y 0 : Nat) : Int), (dg y 1 : Nat), (dg y 2 : Nat), (dg y 3 : Nat), (dg y 4 : Nat)]) = q at *
 have HF := Lib.hid hf; have HG := Lib.hid hg
 clear hf hg
 go_enter Tryz.func94, Tryz.ntmps94
 go_wp2
 refine wp_gen (fun W => (W.cell? ⟨w.heap.size, 0, none⟩ = some (.int .u64 (f 0 : Nat)) ∧ W.cell? ⟨w.heap.size, 1, none⟩ = some (.int .u64 (f 1 : Nat)) ∧ W.cell? ⟨w.heap.size, 2, none⟩ = some (.int .u64 (f 2 : Nat)) ∧ W.cell? ⟨w.heap.size, 3, none⟩ = some (.int .u64 (f 3 : Nat)) ∧ W.cell? ⟨w.heap.size, 4, none⟩ = some (.int .u64 (f 4 : Nat))) ∧ (W.cell? ⟨w.heap.size + 1, 0, none⟩ = some (.int .u64 (g 0 : Nat)) ∧ W.cell? ⟨w.heap.size + 1, 1, none⟩ = some (.int .u64 (g 1 : Nat)) ∧ W.cell? ⟨w.heap.size + 1, 2, none⟩ = some (.int .u64 (g 2 : Nat)) ∧ W.cell? ⟨w.heap.size + 1, 3, none⟩ = some (.int .u64 (g 3 : Nat)) ∧ W.cell? ⟨w.heap.size + 1, 4, none⟩ = some (.int .u64 (g 4 : Nat))) ∧ Below w.heap.size w W) ?_ (fun W0 hW => ?_)
 ·exact ⟨⟨((Blk.new w _ _).alloc _).cell 0, ((Blk.new w _ _).alloc _).cell 1, ((Blk.new w _ _).alloc _).cell 2, ((Blk.new w _ _).alloc _).cell 3, ((Blk.new w _ _).alloc _).cell 4⟩, ⟨(Blk.new' (by simp)).cell 0, (Blk.new' (by simp)).cell 1, (Blk.new' (by simp)).cell 2, (Blk.new' (by simp)).cell 3, (Blk.new' (by simp)).cell 4⟩, belowBy⟩
 have hst : ∀ W W' : World, ((W.cell? ⟨w.heap.size, 0, none⟩ = some (.int .u64 (f 0 : Nat)) ∧ W.cell? ⟨w.heap.size, 1, none⟩ = some (.int .u64 (f 1 : Nat)) ∧ W.cell? ⟨w.heap.size, 2, none⟩ = some (.int .u64 (f 2 : Nat)) ∧ W.cell? ⟨w.heap.size, 3, none⟩ = some (.int .u64 (f 3 : Nat)) ∧ W.cell? ⟨w.heap.size, 4, none⟩ = some (.int .u64 (f 4 : Nat))) ∧ (W.cell? ⟨w.heap.size + 1, 0, none⟩ = some (.int .u64 (g 0 : Nat)) ∧ W.cell? ⟨w.heap.size + 1, 1, none⟩ = some (.int .u64 (g 1 : Nat)) ∧ W.cell? ⟨w.heap.size + 1, 2, none⟩ = some (.int .u64 (g 2 : Nat)) ∧ W.cell? ⟨w.heap.size + 1, 3, none⟩ = some (.int .u64 (g 3 : Nat)) ∧ W.cell? ⟨w.heap.size + 1, 4, none⟩ = some (.int .u64 (g 4 : Nat))) ∧ Below w.heap.size w W) → Below W.heap.size W W' → ((W'.cell? ⟨w.heap.size, 0, none⟩ = some (.int .u64 (f 0 : Nat)) ∧ W'.cell? ⟨w.heap.size, 1, none⟩ = some (.int .u64 (f 1 : Nat)) ∧ W'.cell? ⟨w.heap.size, 2, none⟩ = some (.int .u64 (f 2 : Nat)) ∧ W'.cell? ⟨w.heap.size, 3, none⟩ = some (.int .u64 (f 3 : Nat)) ∧ W'.cell? ⟨w.heap.size, 4, none⟩ = some (.int .u64 (f 4 : Nat))) ∧ (W'.cell? ⟨w.heap.size + 1, 0, none⟩ = some (.int .u64 (g 0 : Nat)) ∧ W'.cell? ⟨w.heap.size + 1, 1, none⟩ = some (.int .u64 (g 1 : Nat)) ∧ W'.cell? ⟨w.heap.size + 1, 2, none⟩ = some (.int .u64 (g 2 : Nat)) ∧ W'.cell? ⟨w.heap.size + 1, 3, none⟩ = some (.int .u64 (g 3 : Nat)) ∧ W'.cell? ⟨w.heap.size + 1, 4, none⟩ = some (.int .u64 (g 4 : Nat))) ∧ Below w.heap.size w W') := by
  rintro W W' ⟨h1, h2, h3⟩ hb
  exact ⟨keep5 _ _ h1 hb, keep5 _ _ h2 hb, Below.call h3 hb⟩
 have hst' := Lib.hid hst; have HS0 := Lib.hid (show (fun W => (W.cell? ⟨w.heap.size, 0, none⟩ = some (.int .u64 (f 0 : Nat)) ∧ W.cell? ⟨w.heap.size, 1, none⟩ = some (.int .u64 (f 1 : Nat)) ∧ W.cell? ⟨w.heap.size, 2, none⟩ = some (.int .u64 (f 2 : Nat)) ∧ W.cell? ⟨w.heap.size, 3, none⟩ = some (.int .u64 (f 3 : Nat)) ∧ W.cell? ⟨w.heap.size, 4, none⟩ = some (.int .u64 (f 4 : Nat))) ∧ (W.cell? ⟨w.heap.size + 1, 0, none⟩ = some (.int .u64 (g 0 : Nat)) ∧ W.cell? ⟨w.heap.size + 1, 1, none⟩ = some (.int .u64 (g 1 : Nat)) ∧ W.cell? ⟨w.heap.size + 1, 2, none⟩ = some (.int .u64 (g 2 : Nat)) ∧ W.cell? ⟨w.heap.size + 1, 3, none⟩ = some (.int .u64 (g 3 : Nat)) ∧ W.cell? ⟨w.heap.size + 1, 4, none⟩ = some (.int .u64 (g 4 : Nat))) ∧ Below w.heap.size w W) W0.drew from ⟨hW.1, hW.2.1, hW.2.2.drew⟩)
 clear hst hW
 have hst := hst'
 clear hst'
 go_region_held3 (fun W => (W.cell? ⟨w.heap.size, 0, none⟩ = some (.int .u64 (f 0 : Nat)) ∧ W.cell? ⟨w.heap.size, 1, none⟩ = some (.int .u64 (f 1 : Nat)) ∧ W.cell? ⟨w.heap.size, 2, none⟩ = some (.int .u64 (f 2 : Nat)) ∧ W.cell? ⟨w.heap.size, 3, none⟩ = some (.int .u64 (f 3 : Nat)) ∧ W.cell? ⟨w.heap.size, 4, none⟩ = some (.int .u64 (f 4 : Nat))) ∧ (W.cell? ⟨w.heap.size + 1, 0, none⟩ = some (.int .u64 (g 0 : Nat)) ∧ W.cell? ⟨w.heap.size + 1, 1, none⟩ = some (.int .u64 (g 1 : Nat)) ∧ W.cell? ⟨w.heap.size + 1, 2, none⟩ = some (.int .u64 (g 2 : Nat)) ∧ W.cell? ⟨w.heap.size + 1, 3, none⟩ = some (.int .u64 (g 3 : Nat)) ∧ W.cell? ⟨w.heap.size + 1, 4, none⟩ = some (.int .u64 (g 4 : Nat))) ∧ Below w.heap.size w W) (first | (exact HS0.out) | (first | assumption | (refine hst.out _ _ ?_ hb; assumption) | (refine hst.out _ _ ?_ (Below.alloc' (Below.refl _ _) _); assumption) | (refine hst.out _ _ ?_ (Below.drew (Below.refl _ _)); assumption))) ((go_at_call 114; first | ((with_reducible refine (whole_any HF.out _).mono ?_); rintro e w1 ⟨rfl, hb⟩) | ((with_reducible refine (whole_any HG.out _).mono ?_); rintro e w1 ⟨rfl, hb⟩)))
 go_wp2
 go_ret
 have hf : ∀ W : World, ((W.cell? ⟨w.heap.size, 0, none⟩ = some (.int .u64 (f 0 : Nat)) ∧ W.cell? ⟨w.heap.size, 1, none⟩ = some (.int .u64 (f 1 : Nat)) ∧ W.cell? ⟨w.heap.size, 2, none⟩ = some (.int .u64 (f 2 : Nat)) ∧ W.cell? ⟨w.heap.size, 3, none⟩ = some (.int .u64 (f 3 : Nat)) ∧ W.cell? ⟨w.heap.size, 4, none⟩ = some (.int .u64 (f 4 : Nat))) ∧ (W.cell? ⟨w.heap.size + 1, 0, none⟩ = some (.int .u64 (g 0 : Nat)) ∧ W.cell? ⟨w.heap.size + 1, 1, none⟩ = some (.int .u64 (g 1 : Nat)) ∧ W.cell? ⟨w.heap.size + 1, 2, none⟩ = some (.int .u64 (g 2 : Nat)) ∧ W.cell? ⟨w.heap.size + 1, 3, none⟩ = some (.int .u64 (g 3 : Nat)) ∧ W.cell? ⟨w.heap.size + 1, 4, none⟩ = some (.int .u64 (g 4 : Nat))) ∧ Below w.heap.size w W) → Below w.heap.size w W := fun W h => h.2.2
 exact ⟨ret_bool HE.out, hf _ (by assumption)⟩
theorem limb_or (x y : Nat) (s t : Nat) (hs : s ≤ 64) (ht : t + s = 64) (hx : x < 18446744073709551616) :
  bits BinOp.and IntKind.u64 (bits BinOp.or IntKind.u64 ((x : Int) / 2 ^ s) (IntKind.u64.wrap ((y : Int) * 2 ^ t))) 2251799813685247 = ((x / 2 ^ s + y * 2 ^ t % 18446744073709551616) % 2251799813685248 : Nat) := by
 have h0 : x / 2 ^ s < 2 ^ t := by
  apply Nat.div_lt_of_lt_mul
  rw [← Nat.pow_add, show s + t = 64 from by omega]; exact hx
 have h1 : 2 ^ t ≤ 2 ^ 64 := Nat.pow_le_pow_right (by omega) (by omega)
 rw [wrapU, show ((x : Int) / 2 ^ s) = ((x / 2 ^ s : Nat) : Int) from by simp, show ((y : Int) * 2 ^ t) % 18446744073709551616 = ((y * 2 ^ t % 18446744073709551616 : Nat) : Int) from by simp, u64_or_nat _ _ (by omega) (Nat.mod_lt _ (by omega))]
 have e : y * 2 ^ t % 18446744073709551616 = (y % 2 ^ s) * 2 ^ t := by
  rw [show (18446744073709551616 : Nat) = 2 ^ t * 2 ^ s from by rw [← Nat.pow_add, ht], Nat.mul_comm y, Nat.mul_mod_mul_left, Nat.mul_comm]
 have h2 : y % 2 ^ s * 2 ^ t < 18446744073709551616 := by rw [← e]; exact Nat.mod_lt _ (by omega)
 have h3 : x / 2 ^ s ||| y % 2 ^ s * 2 ^ t = x / 2 ^ s + y % 2 ^ s * 2 ^ t := by
  have h4 := Nat.shiftLeft_add_eq_or_of_lt h0 (y % 2 ^ s)
  rw [Nat.shiftLeft_eq] at h4
  rw [Nat.or_comm, ← h4, Nat.add_comm]
 rw [e, h3]
 apply and51
 rw [← h3]
 exact Nat.or_lt_two_pow (n := 64) (by omega) h2
theorem of0 (n : Nat) : bits BinOp.and IntKind.u64 (lw n 0 : Nat) 2251799813685247 = (dg n 0 : Nat) := by
 rw [and51 _ (lw_lt _ _)]; simp only [lw, dg, Nat.mul_zero, Nat.pow_zero, Nat.div_one]; omega
theorem of1 (n : Nat) : bits BinOp.and IntKind.u64 (bits BinOp.or IntKind.u64 ((lw n 0 : Nat) / 2251799813685248) (IntKind.u64.wrap ((lw n 1 : Nat) * 8192))) 2251799813685247 = (dg n 1 : Nat) := by
 have h := limb_or (lw n 0) (lw n 1) 51 13 (by omega) (by omega) (lw_lt _ _)
 have e : (((lw n 0 : Nat) : Int) / 2 ^ 51) = (lw n 0 : Nat) / 2251799813685248 := rfl
 refine Eq.trans (show _ = _ from h) ?_
 congr 1
 simp only [lw, dg, Nat.reduceMul, Nat.reducePow]; omega
theorem of2 (n : Nat) : bits BinOp.and IntKind.u64 (bits BinOp.or IntKind.u64 ((lw n 1 : Nat) / 274877906944) (IntKind.u64.wrap ((lw n 2 : Nat) * 67108864))) 2251799813685247 = (dg n 2 : Nat) := by
 have h := limb_or (lw n 1) (lw n 2) 38 26 (by omega) (by omega) (lw_lt _ _)
 refine Eq.trans (show _ = _ from h) ?_
 congr 1
 simp only [lw, dg, Nat.reduceMul, Nat.reducePow]; omega
theorem of3 (n : Nat) : bits BinOp.and IntKind.u64 (bits BinOp.or IntKind.u64 ((lw n 2 : Nat) / 33554432) (IntKind.u64.wrap ((lw n 3 : Nat) * 549755813888))) 2251799813685247 = (dg n 3 : Nat) := by
 have h := limb_or (lw n 2) (lw n 3) 25 39 (by omega) (by omega) (lw_lt _ _)
 refine Eq.trans (show _ = _ from h) ?_
 congr 1
 simp only [lw, dg, Nat.reduceMul, Nat.reducePow]; omega
theorem of4 (n : Nat) : bits BinOp.and IntKind.u64 ((lw n 3 : Nat) / 4096) 2251799813685247 = (dg n 4 : Nat) := by
 have := lw_lt n 3
 rw [show ((lw n 3 : Nat) : Int) / 4096 = ((lw n 3 / 4096 : Nat) : Int) from by simp, and51 _ (by omega)]
 simp only [lw, dg, Nat.reduceMul, Nat.reducePow]; omega
theorem dg_val (n : Nat) : val (dg n) = n % 57896044618658097711785492504343953926634992332820282019728792003956564819968 := by
 simp only [val, dg, Nat.reduceMul, Nat.reducePow]; omega
theorem FE.of (n : Nat) : FE (dg n) (n % 57896044618658097711785492504343953926634992332820282019728792003956564819968 % Pq) :=
 ⟨⟨by have := dg_lt n 0; omega, dg_lt _ _, dg_lt _ _, dg_lt _ _, dg_lt _ _⟩, by rw [dg_val]⟩
theorem row4_zero : row 4 (wV 0) = [.int .u64 0, .int .u64 0, .int .u64 0, .int .u64 0] := by simp only [row4, wV0]
set_option maxHeartbeats 1000000 in
theorem feof_any {a : Option Addr} {n cap : Nat} {l : List UInt8} (w : World) (h : RdB w a n cap l) :
  Calls Tryz.prog 110 #[.slice a n cap] w fun e w' => e = .returned (.agg #[.int .u64 (dg (leN (first l 32)) 0 : Nat), .int .u64 (dg (leN (first l 32)) 1 : Nat), .int .u64 (dg (leN (first l 32)) 2 : Nat), .int .u64 (dg (leN (first l 32)) 3 : Nat), .int .u64 (dg (leN (first l 32)) 4 : Nat)]) ∧ Below w.heap.size w w' := by
 have hlen := first_len l 32
 generalize hfl : first l 32 = fl at *
 have HF := Lib.hid hfl; have HL := Lib.hid hlen
 clear hfl hlen
 go_enter Tryz.func110, Tryz.ntmps110
 go_wp2_with (go_at_call 55; go_must (refine (first_any 32 (by omega) _ (h.below belowBy)).mono ?_; rintro e w1 ⟨rfl, hB, hb⟩))
 rw [HF.out] at hB
 have hB1 : Blk w1 (w.heap.size + 1) (fl.map bV) 5 := by simpa using hB
 clear hB
 have hg : w.heap.size + 1 < w1.heap.size := hB1.lt
 refine wp_gen (fun W => Blk W w1.heap.size (row 4 (wV (leN (fl.take 0)))) 46 ∧ Blk W w.heap.size [.int .u64 0, .int .u64 0, .int .u64 0, .int .u64 0, .int .u64 0] 52 ∧ Blk W (w.heap.size + 1) (fl.map bV) 5 ∧ Below w.heap.size w W) ?_ (fun W hW => ?_)
 ·refine ⟨?_, ((Blk.new w _ _).below' hb).alloc _, hB1.alloc _, Below.alloc' (Below.call belowBy hb) _⟩
  rw [List.take_zero, show leN [] = 0 from rfl, row4_zero]
  exact Blk.new w1 _ _
 obtain ⟨hA, hO, hB2, hbel⟩ := hW
 clear hb h hB1
 generalize w1.heap.size = g at *
 clear w1
 go_wp2
 go_loopw [9] (fun i wr => ∃ k : Nat, k ≤ 32 ∧ i = .int .i64 k ∧ Blk wr g (row 4 (wV (leN (fl.take k)))) 46 ∧ Blk wr w.heap.size [.int .u64 0, .int .u64 0, .int .u64 0, .int .u64 0, .int .u64 0] 52 ∧ Blk wr (w.heap.size + 1) (fl.map bV) 5 ∧ Below w.heap.size w wr) (fun i _ => 32 - (intOf i).toNat)
 case atStart => exact ⟨0, by omega, rfl, hA, hO, hB2, hbel⟩
 case round =>
  clear hA hO hB2 hbel W
  obtain ⟨k, hk, rfl, hA, hO, hB, hbel⟩ := hrel
  by_cases hlt : k < 32
  ·have hkl : k < fl.length := by rw [HL.out]; exact hlt
   have hcb : wr.cell? ⟨w.heap.size + 1, k, none⟩ = some (.int .u8 (fl[k].toNat : Int)) := by rw [hB.cell]; simp [hkl, bV]
   have HT := Lib.hid (leN_take fl k hkl)
   have hn := leN_take_lt fl k
   have HC := Lib.hid (fl[k].toNat_lt)
   generalize leN (fl.take k) = x at *
   generalize fl[k].toNat = c at *
   obtain ⟨ci, hci⟩ : ∃ ci : Int, ci = (c : Int) := ⟨_, rfl⟩
   have HI := Lib.hid hci
   rw [← hci] at hcb
   have hc0 : 0 ≤ ci := by omega
   have hc1 : ci < 256 := by have := HC.out; omega
   clear hci
   have hq : k / 8 < 4 := by omega
   have ca : wr.cell? ⟨g, k / 8, none⟩ = some (.int .u64 (lw x (k / 8) : Nat)) := hA.at hq
   have cf := hA.frozen (k / 8)
   have HN := Lib.hid hn
   have HS := Lib.hid (or_byteI x k c ci HI.out HN.out HC.out)
   have HO := Lib.hid hO; have HB := Lib.hid hB; have HA := Lib.hid hA
   clear hn hO hB hA
   go_wp2
   go_region
   rw [HS.out]
   have hA2 := HA.out.set (k / 8) (wV (x + c * 256 ^ k) (k / 8))
   rw [row_set (g := wV (x + c * 256 ^ k)) _ _ rfl (fun i _ hi => by unfold wV; rw [or_other x k c i HN.out HC.out hi])] at hA2
   have hO2 := HO.out.other ⟨g, k / 8, none⟩ (by simp; omega) (wV (x + c * 256 ^ k) (k / 8))
   have hB2 := HB.out.other ⟨g, k / 8, none⟩ (by simp; omega) (wV (x + c * 256 ^ k) (k / 8))
   have HA2 := Lib.hid hA2; have HO2 := Lib.hid hO2; have HB2 := Lib.hid hB2
   clear hA2 hO2 hB2 ca cf hcb
   go_wp2
   go_roundw
   case rel => exact ⟨k + 1, by omega, by go_num, by rw [HT.out]; exact HA2.out.drew, HO2.out.drew, HB2.out.drew, belowBy⟩
   case measure => simp [intOf] <;> omega
  ·obtain rfl : k = 32 := by omega
   rw [List.take_of_length_le (by rw [HL.out]; omega)] at hA
   clear hB hlt hk
   generalize hx : leN fl = x at *
   have HX := Lib.hid hx
   clear hx
   have g0 : wr.cell? ⟨g, 0, none⟩ = some (.int .u64 (lw x 0 : Nat)) := hA.at (by omega); have g1 : wr.cell? ⟨g, 1, none⟩ = some (.int .u64 (lw x 1 : Nat)) := hA.at (by omega); have g2 : wr.cell? ⟨g, 2, none⟩ = some (.int .u64 (lw x 2 : Nat)) := hA.at (by omega); have g3 : wr.cell? ⟨g, 3, none⟩ = some (.int .u64 (lw x 3 : Nat)) := hA.at (by omega)
   have hOc := hO.cell; have hOf := hO.frozen
   have e0 := of0 x; have e1 := of1 x; have e2 := of2 x; have e3 := of3 x; have e4 := of4 x
   clear hA hO
   go_wp2
   exact bodyPost_ret (v := .agg #[.int .u64 (dg x 0 : Nat), .int .u64 (dg x 1 : Nat), .int .u64 (dg x 2 : Nat), .int .u64 (dg x 3 : Nat), .int .u64 (dg x 4 : Nat)]) (by simp [results, Tryz.results110, go_sem, hOc]) rfl ⟨by rw [HX.out], belowBy⟩
theorem or_shl (a b t : Nat) (ht : t ≤ 64) (ha : a < 2 ^ t) : bits BinOp.or IntKind.u64 (a : Int) (IntKind.u64.wrap ((b : Int) * 2 ^ t)) = ((a + b * 2 ^ t) % 18446744073709551616 : Nat) := by
 obtain ⟨s, hs⟩ : ∃ s, t + s = 64 := ⟨64 - t, by omega⟩
 have h1 : 2 ^ t ≤ 2 ^ 64 := Nat.pow_le_pow_right (by omega) ht
 have e : b * 2 ^ t % 18446744073709551616 = (b % 2 ^ s) * 2 ^ t := by
  rw [show (18446744073709551616 : Nat) = 2 ^ t * 2 ^ s from by rw [← Nat.pow_add, hs], Nat.mul_comm b, Nat.mul_mod_mul_left, Nat.mul_comm]
 have h2 : b % 2 ^ s * 2 ^ t < 18446744073709551616 := by rw [← e]; exact Nat.mod_lt _ (by omega)
 have h3 : a ||| b % 2 ^ s * 2 ^ t = a + b % 2 ^ s * 2 ^ t := by
  have h4 := Nat.shiftLeft_add_eq_or_of_lt ha (b % 2 ^ s)
  rw [Nat.shiftLeft_eq] at h4
  rw [Nat.or_comm, ← h4, Nat.add_comm]
 have h5 : a ||| b % 2 ^ s * 2 ^ t < 18446744073709551616 := Nat.or_lt_two_pow (n := 64) (by omega) h2
 rw [h3] at h5
 rw [wrapU, show ((b : Int) * 2 ^ t) % 18446744073709551616 = ((b * 2 ^ t % 18446744073709551616 : Nat) : Int) from by simp, u64_or_nat _ _ (by omega) (Nat.mod_lt _ (by omega)), Nat.add_mod, e, h3, Nat.mod_eq_of_lt (show a < 18446744073709551616 by omega), Nat.mod_eq_of_lt h5]
theorem by0 (n : Nat) : bits BinOp.or IntKind.u64 (dg n 0 : Nat) (IntKind.u64.wrap ((dg n 1 : Nat) * 2251799813685248)) = (lw n 0 : Nat) := by
 have h := or_shl (dg n 0) (dg n 1) 51 (by omega) (dg_lt _ _)
 refine Eq.trans (show _ = _ from h) ?_
 congr 1
 simp only [lw, dg, Nat.reduceMul, Nat.reducePow]; omega
theorem by1 (n : Nat) : bits BinOp.or IntKind.u64 ((dg n 1 : Nat) / 8192) (IntKind.u64.wrap ((dg n 2 : Nat) * 274877906944)) = (lw n 1 : Nat) := by
 have := dg_lt n 1
 have h := or_shl (dg n 1 / 8192) (dg n 2) 38 (by omega) (by omega)
 refine Eq.trans (show _ = _ from h) ?_
 congr 1
 simp only [lw, dg, Nat.reduceMul, Nat.reducePow]; omega
theorem by2 (n : Nat) : bits BinOp.or IntKind.u64 ((dg n 2 : Nat) / 67108864) (IntKind.u64.wrap ((dg n 3 : Nat) * 33554432)) = (lw n 2 : Nat) := by
 have := dg_lt n 2
 have h := or_shl (dg n 2 / 67108864) (dg n 3) 25 (by omega) (by omega)
 refine Eq.trans (show _ = _ from h) ?_
 congr 1
 simp only [lw, dg, Nat.reduceMul, Nat.reducePow]; omega
theorem by3 (n : Nat) (hn : n < Pq) : bits BinOp.or IntKind.u64 ((dg n 3 : Nat) / 549755813888) (IntKind.u64.wrap ((dg n 4 : Nat) * 4096)) = (lw n 3 : Nat) := by
 have := dg_lt n 3
 have h := or_shl (dg n 3 / 549755813888) (dg n 4) 12 (by omega) (by omega)
 refine Eq.trans (show _ = _ from h) ?_
 congr 1
 unfold Pq at hn
 simp only [lw, dg, Nat.reduceMul, Nat.reducePow]; omega
theorem by_flat (n : Nat) : [leB 8 (lw n 0), leB 8 (lw n 1), leB 8 (lw n 2), leB 8 (lw n 3)].flatten = leB 32 n := by
 rw [show (32 : Nat) = 8 * (3 + 1) from rfl, leB_words, show 8 * 3 = 8 * (2 + 1) from rfl, leB_words, show 8 * 2 = 8 * (1 + 1) from rfl, leB_words, show 8 * 1 = 8 * (0 + 1) from rfl, leB_words]
 simp [leB]
theorem RdB.of8 {w : World} {g : Nat} {n : Nat} (h : Blk w g ((leB 8 n).map bV) 5) : RdB w (some ⟨g, 0, none⟩) 8 8 (leB 8 n) :=
 RdB.blk [] (by rw [List.append_nil]; exact h) (leB_len _ _) (Nat.le_refl _) (by unfold maxLen; omega)
theorem own_base {w : World} {B' B E n : Nat} {v : Value} {xs : List Value} (h : w.ownsRow B' E 1 v n xs) (hB : B ≤ B') : w.ownsRow B E 1 v n xs := by
 obtain ⟨h1, h2⟩ := h
 refine ⟨h1, ?_⟩
 rcases h2 with h2 | ⟨g, cap, cur, hv, hg, r⟩
 ·exact .inl h2
 ·exact .inr ⟨g, cap, cur, hv, Nat.le_trans hB hg, r⟩
set_option maxHeartbeats 1000000 in
theorem febytes_own {f : Nat → Nat} {x : Nat} (hf : FE f x) (w : World) :
  Calls Tryz.prog 64 #[.agg #[.int .u64 (f 0 : Nat), .int .u64 (f 1 : Nat), .int .u64 (f 2 : Nat), .int .u64 (f 3 : Nat), .int .u64 (f 4 : Nat)]] w fun e w' => ∃ v, e = .returned v ∧ w'.ownsRow w.heap.size 5 1 v 32 ((leB 32 x).map bV) ∧ Below w.heap.size w w' := by
 have e0 := by0 x; have e1 := by1 x; have e2 := by2 x; have e3 := by3 x hf.lt
 have HFL := Lib.hid (by_flat x)
 have HW0 := Lib.hid (lw_lt x 0); have HW1 := Lib.hid (lw_lt x 1); have HW2 := Lib.hid (lw_lt x 2); have HW3 := Lib.hid (lw_lt x 3)
 have HF := Lib.hid hf
 clear hf
 go_enter Tryz.func64, Tryz.ntmps64
 go_upto_region 2 with (go_at_call 114; go_must (refine (whole_any HF.out _).mono ?_; rintro e w1 ⟨rfl, hb⟩; have hbel : Below w.heap.size w w1 := Below.call belowBy hb; clear hb))
 refine wp_gen (fun W => (W.cell? ⟨w1.heap.size, 0, none⟩ = some (.int .u64 (dg x 0 : Nat)) ∧ W.cell? ⟨w1.heap.size, 1, none⟩ = some (.int .u64 (dg x 1 : Nat)) ∧ W.cell? ⟨w1.heap.size, 2, none⟩ = some (.int .u64 (dg x 2 : Nat)) ∧ W.cell? ⟨w1.heap.size, 3, none⟩ = some (.int .u64 (dg x 3 : Nat)) ∧ W.cell? ⟨w1.heap.size, 4, none⟩ = some (.int .u64 (dg x 4 : Nat))) ∧ Below w.heap.size w W) ?_ (fun W0 hW => ?_)
 ·exact ⟨⟨(Blk.new w1 _ _).cell 0, (Blk.new w1 _ _).cell 1, (Blk.new w1 _ _).cell 2, (Blk.new w1 _ _).cell 3, (Blk.new w1 _ _).cell 4⟩, belowBy⟩
 clear hbel
 generalize w1.heap.size = g at *
 clear w1
 have hst : ∀ W W' : World, ((W.cell? ⟨g, 0, none⟩ = some (.int .u64 (dg x 0 : Nat)) ∧ W.cell? ⟨g, 1, none⟩ = some (.int .u64 (dg x 1 : Nat)) ∧ W.cell? ⟨g, 2, none⟩ = some (.int .u64 (dg x 2 : Nat)) ∧ W.cell? ⟨g, 3, none⟩ = some (.int .u64 (dg x 3 : Nat)) ∧ W.cell? ⟨g, 4, none⟩ = some (.int .u64 (dg x 4 : Nat))) ∧ Below w.heap.size w W) → Below W.heap.size W W' → ((W'.cell? ⟨g, 0, none⟩ = some (.int .u64 (dg x 0 : Nat)) ∧ W'.cell? ⟨g, 1, none⟩ = some (.int .u64 (dg x 1 : Nat)) ∧ W'.cell? ⟨g, 2, none⟩ = some (.int .u64 (dg x 2 : Nat)) ∧ W'.cell? ⟨g, 3, none⟩ = some (.int .u64 (dg x 3 : Nat)) ∧ W'.cell? ⟨g, 4, none⟩ = some (.int .u64 (dg x 4 : Nat))) ∧ Below w.heap.size w W') := by
  rintro W W' ⟨h1, h3⟩ hb
  exact ⟨keep5 _ _ h1 hb, Below.call h3 hb⟩
 have hst' := Lib.hid hst; have HS0 := Lib.hid (show (fun W => (W.cell? ⟨g, 0, none⟩ = some (.int .u64 (dg x 0 : Nat)) ∧ W.cell? ⟨g, 1, none⟩ = some (.int .u64 (dg x 1 : Nat)) ∧ W.cell? ⟨g, 2, none⟩ = some (.int .u64 (dg x 2 : Nat)) ∧ W.cell? ⟨g, 3, none⟩ = some (.int .u64 (dg x 3 : Nat)) ∧ W.cell? ⟨g, 4, none⟩ = some (.int .u64 (dg x 4 : Nat))) ∧ Below w.heap.size w W) W0.drew from ⟨hW.1, hW.2.drew⟩)
 clear hst hW
 have hst := hst'
 clear hst'
 have hF : ∀ W : World, ((W.cell? ⟨g, 0, none⟩ = some (.int .u64 (dg x 0 : Nat)) ∧ W.cell? ⟨g, 1, none⟩ = some (.int .u64 (dg x 1 : Nat)) ∧ W.cell? ⟨g, 2, none⟩ = some (.int .u64 (dg x 2 : Nat)) ∧ W.cell? ⟨g, 3, none⟩ = some (.int .u64 (dg x 3 : Nat)) ∧ W.cell? ⟨g, 4, none⟩ = some (.int .u64 (dg x 4 : Nat))) ∧ Below w.heap.size w W) → Below w.heap.size w W := fun W h => h.2
 go_region_held3 (fun W => (W.cell? ⟨g, 0, none⟩ = some (.int .u64 (dg x 0 : Nat)) ∧ W.cell? ⟨g, 1, none⟩ = some (.int .u64 (dg x 1 : Nat)) ∧ W.cell? ⟨g, 2, none⟩ = some (.int .u64 (dg x 2 : Nat)) ∧ W.cell? ⟨g, 3, none⟩ = some (.int .u64 (dg x 3 : Nat)) ∧ W.cell? ⟨g, 4, none⟩ = some (.int .u64 (dg x 4 : Nat))) ∧ Below w.heap.size w W) (first | (exact HS0.out) | (first | assumption | (refine hst.out _ _ ?_ hb; assumption) | (refine hst.out _ _ ?_ (Below.alloc' (Below.refl _ _) _); assumption) | (refine hst.out _ _ ?_ (Below.drew (Below.refl _ _)); assumption))) ((first | (go_at_call 71; first | ((with_reducible refine (little_any HW0.out _).mono ?_); rintro e w1 ⟨rfl, hB, hb⟩; have C1 := Lib.hid hb.size; have R0 := Lib.hid (RdB.of8 hB); clear hB) | ((with_reducible refine (little_any HW1.out _).mono ?_); rintro e w2 ⟨rfl, hB, hb⟩; have C2 := Lib.hid hb.size; have R1 := Lib.hid (RdB.of8 hB); have Q0 := Lib.hid (R0.out.below hb); clear hB) | ((with_reducible refine (little_any HW2.out _).mono ?_); rintro e w3 ⟨rfl, hB, hb⟩; have C3 := Lib.hid hb.size; have R2 := Lib.hid (RdB.of8 hB); have Q1 := Lib.hid (R1.out.below hb); have P0 := Lib.hid (Q0.out.below hb); clear hB) | ((with_reducible refine (little_any HW3.out _).mono ?_); rintro e w4 ⟨rfl, hB, hb⟩; have C4 := Lib.hid hb.size; have R3 := Lib.hid (RdB.of8 hB); have Q2 := Lib.hid (R2.out.below hb); have P1 := Lib.hid (Q1.out.below hb); have N0 := Lib.hid (P0.out.below hb); clear hB)) | (go_at_call 25; refine (cat_any (ls := [leB 8 (lw x 0), leB 8 (lw x 1), leB 8 (lw x 2), leB 8 (lw x 3)]) _ (RdRows.blk (n := 4) (Blk.new _ _ _) (Rows.cons (N0.out.below (Below.alloc' (Below.refl _ _) _)) (Rows.cons (P1.out.below (Below.alloc' (Below.refl _ _) _)) (Rows.cons (Q2.out.below (Below.alloc' (Below.refl _ _) _)) (Rows.cons (R3.out.below (Below.alloc' (Below.refl _ _) _)) Rows.nil)))) rfl (by unfold maxLen; omega)) (by rw [HFL.out, leB_len]; omega)).mono ?_; rintro e w5 ⟨v, rfl, ho, hb⟩; rw [HFL.out, leB_len] at ho; replace ho := own_base (B := w4.heap.size) ho (Below.alloc' (Below.refl _ _) _).size; have HO := Lib.hid ho; clear ho)))
 all_goals
  go_wp2
  go_ret
  refine ⟨v, rfl, own_base HO.out ?_, hF _ (by assumption)⟩
  have c0 := HS0.out.2.size; have c1 := C1.out; have c2 := C2.out; have c3 := C3.out; have c4 := C4.out
  omega
theorem febytes_any {f : Nat → Nat} {x : Nat} (hf : FE f x) (w : World) :
  Calls Tryz.prog 64 #[.agg #[.int .u64 (f 0 : Nat), .int .u64 (f 1 : Nat), .int .u64 (f 2 : Nat), .int .u64 (f 3 : Nat), .int .u64 (f 4 : Nat)]] w fun e w' => ∃ g cap r, e = .returned (.slice (some ⟨g, 0, none⟩) 32 cap) ∧ w.heap.size ≤ g ∧ Blk w' g ((leB 32 x).map bV ++ r) 5 ∧ 32 ≤ cap ∧ cap ≤ maxLen ∧ Below w.heap.size w w' := by
 refine (febytes_own hf w).mono ?_
 rintro e w' ⟨v, rfl, ho, hb⟩
 obtain ⟨g, cap, r, rfl, hg, hB, _, hc, hm⟩ := own_rdb ho (by omega)
 exact ⟨g, cap, r, rfl, hg, hB, hc, hm, hb⟩
def FF (f : Nat → Nat) (x : F) : Prop := FE f x.val
theorem FF.mk {f : Nat → Nat} {n : Nat} {x : F} (h : FE f n) (e : n = x.val) : FF f x := by subst e; exact h
def feF (l : List UInt8) : F := fn (leN (first l 32) % 57896044618658097711785492504343953926634992332820282019728792003956564819968)
theorem faddM {f g : Nat → Nat} {x y : F} (hf : FF f x) (hg : FF g y) (w : World) :
  Calls Tryz.prog 92 #[.agg #[.int .u64 (f 0 : Nat), .int .u64 (f 1 : Nat), .int .u64 (f 2 : Nat), .int .u64 (f 3 : Nat), .int .u64 (f 4 : Nat)], .agg #[.int .u64 (g 0 : Nat), .int .u64 (g 1 : Nat), .int .u64 (g 2 : Nat), .int .u64 (g 3 : Nat), .int .u64 (g 4 : Nat)]] w fun e w' => ∃ h, e = .returned (.agg #[.int .u64 (h 0 : Nat), .int .u64 (h 1 : Nat), .int .u64 (h 2 : Nat), .int .u64 (h 3 : Nat), .int .u64 (h 4 : Nat)]) ∧ FF h (x + y) ∧ Below w.heap.size w w' := feadd_any hf hg w
theorem fsub_val (x y : F) : (x.val + (Pq - y.val)) % Pq = (x - y).val := by rw [Fin.sub_def, Nat.add_comm]
theorem fsubM {f g : Nat → Nat} {x y : F} (hf : FF f x) (hg : FF g y) (w : World) :
  Calls Tryz.prog 90 #[.agg #[.int .u64 (f 0 : Nat), .int .u64 (f 1 : Nat), .int .u64 (f 2 : Nat), .int .u64 (f 3 : Nat), .int .u64 (f 4 : Nat)], .agg #[.int .u64 (g 0 : Nat), .int .u64 (g 1 : Nat), .int .u64 (g 2 : Nat), .int .u64 (g 3 : Nat), .int .u64 (g 4 : Nat)]] w fun e w' => ∃ h, e = .returned (.agg #[.int .u64 (h 0 : Nat), .int .u64 (h 1 : Nat), .int .u64 (h 2 : Nat), .int .u64 (h 3 : Nat), .int .u64 (h 4 : Nat)]) ∧ FF h (x - y) ∧ Below w.heap.size w w' := by
 refine (fesub_any hf hg w).mono ?_
 rintro e w' ⟨h, rfl, hh, hb⟩
 exact ⟨h, rfl, FF.mk hh (fsub_val x y), hb⟩
theorem fnegM {f : Nat → Nat} {x : F} (hf : FF f x) (w : World) :
  Calls Tryz.prog 97 #[.agg #[.int .u64 (f 0 : Nat), .int .u64 (f 1 : Nat), .int .u64 (f 2 : Nat), .int .u64 (f 3 : Nat), .int .u64 (f 4 : Nat)]] w fun e w' => ∃ h, e = .returned (.agg #[.int .u64 (h 0 : Nat), .int .u64 (h 1 : Nat), .int .u64 (h 2 : Nat), .int .u64 (h 3 : Nat), .int .u64 (h 4 : Nat)]) ∧ FF h (-x) ∧ Below w.heap.size w w' := feneg_any hf w
theorem fmulM {f g : Nat → Nat} {x y : F} (hf : FF f x) (hg : FF g y) (w : World) :
  Calls Tryz.prog 63 #[.agg #[.int .u64 (f 0 : Nat), .int .u64 (f 1 : Nat), .int .u64 (f 2 : Nat), .int .u64 (f 3 : Nat), .int .u64 (f 4 : Nat)], .agg #[.int .u64 (g 0 : Nat), .int .u64 (g 1 : Nat), .int .u64 (g 2 : Nat), .int .u64 (g 3 : Nat), .int .u64 (g 4 : Nat)]] w fun e w' => ∃ h, e = .returned (.agg #[.int .u64 (h 0 : Nat), .int .u64 (h 1 : Nat), .int .u64 (h 2 : Nat), .int .u64 (h 3 : Nat), .int .u64 (h 4 : Nat)]) ∧ FF h (x * y) ∧ Below w.heap.size w w' := femul_any hf hg w
theorem finvM {f : Nat → Nat} {x : F} (hf : FF f x) (w : World) :
  Calls Tryz.prog 62 #[.agg #[.int .u64 (f 0 : Nat), .int .u64 (f 1 : Nat), .int .u64 (f 2 : Nat), .int .u64 (f 3 : Nat), .int .u64 (f 4 : Nat)]] w fun e w' => ∃ h, e = .returned (.agg #[.int .u64 (h 0 : Nat), .int .u64 (h 1 : Nat), .int .u64 (h 2 : Nat), .int .u64 (h 3 : Nat), .int .u64 (h 4 : Nat)]) ∧ FF h (finv x) ∧ Below w.heap.size w w' := feinv_any hf w
theorem fsmallM {n : Nat} (hn : n < 18446744073709551616) (w : World) :
  Calls Tryz.prog 89 #[.int .u64 n] w fun e w' => ∃ h, e = .returned (.agg #[.int .u64 (h 0 : Nat), .int .u64 (h 1 : Nat), .int .u64 (h 2 : Nat), .int .u64 (h 3 : Nat), .int .u64 (h 4 : Nat)]) ∧ FF h (fn n) ∧ Below w.heap.size w w' := by
 refine (fesmall_any hn w).mono ?_
 rintro e w' ⟨rfl, hb⟩
 exact ⟨_, rfl, FF.mk (FE.small hn) (by rw [fn_val, Nat.mod_eq_of_lt]; unfold Pq; omega), hb⟩
theorem fofM {a : Option Addr} {n cap : Nat} {l : List UInt8} (w : World) (h : RdB w a n cap l) :
  Calls Tryz.prog 110 #[.slice a n cap] w fun e w' => ∃ h, e = .returned (.agg #[.int .u64 (h 0 : Nat), .int .u64 (h 1 : Nat), .int .u64 (h 2 : Nat), .int .u64 (h 3 : Nat), .int .u64 (h 4 : Nat)]) ∧ FF h (feF l) ∧ Below w.heap.size w w' := by
 refine (feof_any w h).mono ?_
 rintro e w' ⟨rfl, hb⟩
 exact ⟨_, rfl, FE.of _, hb⟩
theorem fsameM {f g : Nat → Nat} {x y : F} (hf : FF f x) (hg : FF g y) (w : World) :
  Calls Tryz.prog 94 #[.agg #[.int .u64 (f 0 : Nat), .int .u64 (f 1 : Nat), .int .u64 (f 2 : Nat), .int .u64 (f 3 : Nat), .int .u64 (f 4 : Nat)], .agg #[.int .u64 (g 0 : Nat), .int .u64 (g 1 : Nat), .int .u64 (g 2 : Nat), .int .u64 (g 3 : Nat), .int .u64 (g 4 : Nat)]] w fun e w' => e = .returned (.bool (decide (x = y))) ∧ Below w.heap.size w w' := by
 refine (fesame_any hf hg w).mono ?_
 rintro e w' ⟨rfl, hb⟩
 exact ⟨ret_bool (by by_cases h : x = y <;> simp [h, Fin.val_inj]), hb⟩
theorem fsameT {f g : Nat → Nat} {x y : F} (hf : FF f x) (hg : FF g y) (h : x = y) (w : World) :
  Calls Tryz.prog 94 #[.agg #[.int .u64 (f 0 : Nat), .int .u64 (f 1 : Nat), .int .u64 (f 2 : Nat), .int .u64 (f 3 : Nat), .int .u64 (f 4 : Nat)], .agg #[.int .u64 (g 0 : Nat), .int .u64 (g 1 : Nat), .int .u64 (g 2 : Nat), .int .u64 (g 3 : Nat), .int .u64 (g 4 : Nat)]] w fun e w' => e = .returned (.bool true) ∧ Below w.heap.size w w' := by
 refine (fsameM hf hg w).mono ?_
 rintro e w' ⟨rfl, hb⟩
 exact ⟨ret_bool (by simp [h]), hb⟩
theorem fsameF {f g : Nat → Nat} {x y : F} (hf : FF f x) (hg : FF g y) (h : x ≠ y) (w : World) :
  Calls Tryz.prog 94 #[.agg #[.int .u64 (f 0 : Nat), .int .u64 (f 1 : Nat), .int .u64 (f 2 : Nat), .int .u64 (f 3 : Nat), .int .u64 (f 4 : Nat)], .agg #[.int .u64 (g 0 : Nat), .int .u64 (g 1 : Nat), .int .u64 (g 2 : Nat), .int .u64 (g 3 : Nat), .int .u64 (g 4 : Nat)]] w fun e w' => e = .returned (.bool false) ∧ Below w.heap.size w w' := by
 refine (fsameM hf hg w).mono ?_
 rintro e w' ⟨rfl, hb⟩
 exact ⟨ret_bool (by simp [h]), hb⟩
theorem foddM {f : Nat → Nat} {x : F} (hf : FF f x) (w : World) :
  Calls Tryz.prog 65 #[.agg #[.int .u64 (f 0 : Nat), .int .u64 (f 1 : Nat), .int .u64 (f 2 : Nat), .int .u64 (f 3 : Nat), .int .u64 (f 4 : Nat)]] w fun e w' => e = .returned (.bool (decide (x.val % 2 = 1))) ∧ Below w.heap.size w w' := feodd_any hf w
theorem fbytesM {f : Nat → Nat} {x : F} (hf : FF f x) (w : World) :
  Calls Tryz.prog 64 #[.agg #[.int .u64 (f 0 : Nat), .int .u64 (f 1 : Nat), .int .u64 (f 2 : Nat), .int .u64 (f 3 : Nat), .int .u64 (f 4 : Nat)]] w fun e w' => ∃ g cap r, e = .returned (.slice (some ⟨g, 0, none⟩) 32 cap) ∧ w.heap.size ≤ g ∧ Blk w' g ((leB 32 x.val).map bV ++ r) 5 ∧ 32 ≤ cap ∧ cap ≤ maxLen ∧ Below w.heap.size w w' := febytes_any hf w
theorem fpowM {f : Nat → Nat} {x : F} (N T : Nat) (hT1 : T ≤ 256) (hT2 : 256 ≤ T) (hN : N < 2 ^ T) (hf : FF f x) (w : World) :
  Calls Tryz.prog 111 #[.agg #[.int .u64 (f 0 : Nat), .int .u64 (f 1 : Nat), .int .u64 (f 2 : Nat), .int .u64 (f 3 : Nat), .int .u64 (f 4 : Nat)], .agg #[.int .u64 (lw N 0 : Nat), .int .u64 (lw N 1 : Nat), .int .u64 (lw N 2 : Nat), .int .u64 (lw N 3 : Nat)]] w fun e w' => ∃ h, e = .returned (.agg #[.int .u64 (h 0 : Nat), .int .u64 (h 1 : Nat), .int .u64 (h 2 : Nat), .int .u64 (h 3 : Nat), .int .u64 (h 4 : Nat)]) ∧ FF h (fpow x N) ∧ Below w.heap.size w w' := power_any N T hT1 hT2 hN hf w
def feOk (l : List UInt8) : Bool := decide (l.length = 32) && decide (leN l < Pq)
theorem feF_ok {l : List UInt8} (h : feOk l = true) : (feF l).val = leN l := by
 simp only [feOk, Bool.and_eq_true, decide_eq_true_eq] at h
 have h2 := h.2
 unfold feF
 rw [fn_val, leN_first, List.take_of_length_le (by omega)]
 unfold Pq at *
 omega
theorem feOk_back (l : List UInt8) : decide (leB 32 (feF l).val = l) = feOk l := by
 by_cases h : feOk l = true
 ·rw [h, feF_ok h]
  simp only [feOk, Bool.and_eq_true, decide_eq_true_eq] at h
  rw [← h.1, leB_leN]; simp
 ·rw [Bool.not_eq_true] at h
  rw [h, decide_eq_false]
  intro e
  have h1 : l.length = 32 := by rw [← e, leB_len]
  have h2 : leN l < Pq := by
   rw [← e, leN_leB]
   exact Nat.lt_of_le_of_lt (Nat.mod_le _ _) (feF l).isLt
  simp [feOk, h1, h2] at h
set_option maxHeartbeats 1000000 in
theorem fstrict_yes {a : Option Addr} {n cap : Nat} {l : List UInt8} (w : World) (h : RdB w a n cap l) (hok : feOk l = true) :
  Calls Tryz.prog 88 #[.slice a n cap] w fun e w' => ∃ h, e = .returned (.tuple #[.agg #[.int .u64 (h 0 : Nat), .int .u64 (h 1 : Nat), .int .u64 (h 2 : Nat), .int .u64 (h 3 : Nat), .int .u64 (h 4 : Nat)], .int .i64 0]) ∧ FF h (feF l) ∧ Below w.heap.size w w' := by
 have HQ : Hid (decide (leB 32 (feF l).val = l) = true) := Lib.hid (by rw [feOk_back, hok])
 clear hok
 go_enter Tryz.func88, Tryz.ntmps88
 go_wp2_with (first | (go_at_call 110; go_must (refine (fofM _ (h.below belowBy)).mono ?_; rintro e w1 ⟨f, rfl, hf, hb1⟩; have hO1 := (Blk.new w _ _).below' hb1; have oc := hO1.cell; have of := hO1.frozen; have hbel1 : Below w.heap.size w w1 := Below.call belowBy hb1; clear hb1))     | (go_at_call 64; go_must (refine (fbytesM hf _).mono ?_; rintro e w2 ⟨g, gc, r, rfl, hg, hB, hc1, hc2, hb2⟩; have hR := RdB.blk r hB (leB_len _ _) hc1 hc2; have hS2 := (Blk.new w1 _ _).below' hb2; have hO2 := (hO1.alloc _).below' hb2; have hbel2 := Below.call (show Below w.heap.size w _ from belowBy) hb2; clear hb2 hO1 hbel1 hB))     | (go_at_call 99; go_must (refine (equal_any _ hR (h.below hbel2)).mono ?_; rintro e w3 ⟨rfl, hb3⟩; rw [HQ.out]; have hO3 := hO2.below' hb3; have hS3 := hS2.below' hb3; have hbel3 := Below.call hbel2 hb3; clear oc of hO2 hS2 hbel2 hb3 hR; have oc := hO3.cell; have of := hO3.frozen; have sc := hS3.cell)))
 exact bodyPost_ret (v := .tuple #[.agg #[.int .u64 (f 0 : Nat), .int .u64 (f 1 : Nat), .int .u64 (f 2 : Nat), .int .u64 (f 3 : Nat), .int .u64 (f 4 : Nat)], .int .i64 0]) (by simp [results, Tryz.results88, go_sem, oc]) rfl ⟨f, rfl, hf, belowBy⟩
theorem FF.zero : FF (fun _ => 0) 0 := FE.zero
set_option maxHeartbeats 1000000 in
theorem fstrict_no {a : Option Addr} {n cap : Nat} {l : List UInt8} (w : World) (h : RdB w a n cap l) (hok : feOk l = false) :
  Calls Tryz.prog 88 #[.slice a n cap] w fun e w' => ∃ h, e = .returned (.tuple #[.agg #[.int .u64 (h 0 : Nat), .int .u64 (h 1 : Nat), .int .u64 (h 2 : Nat), .int .u64 (h 3 : Nat), .int .u64 (h 4 : Nat)], .int .i64 2]) ∧ FF h 0 ∧ Below w.heap.size w w' := by
 have HQ : Hid (decide (leB 32 (feF l).val = l) = false) := Lib.hid (by rw [feOk_back, hok])
 have hbE := buildE
 clear hok
 go_enter Tryz.func88, Tryz.ntmps88
 go_wp2_with (first | (go_at_call 110; go_must (refine (fofM _ (h.below belowBy)).mono ?_; rintro e w1 ⟨f, rfl, hf, hb1⟩; have hO1 := (Blk.new w _ _).below' hb1; have oc := hO1.cell; have of := hO1.frozen; have hbel1 : Below w.heap.size w w1 := Below.call belowBy hb1; clear hb1))     | (go_at_call 64; go_must (refine (fbytesM hf _).mono ?_; rintro e w2 ⟨g, gc, r, rfl, hg, hB, hc1, hc2, hb2⟩; have hR := RdB.blk r hB (leB_len _ _) hc1 hc2; have hS2 := (Blk.new w1 _ _).below' hb2; have hO2 := (hO1.alloc _).below' hb2; have hbel2 := Below.call (show Below w.heap.size w _ from belowBy) hb2; clear hb2 hO1 hbel1 hB))     | (go_at_call 99; go_must (refine (equal_any _ hR (h.below hbel2)).mono ?_; rintro e w3 ⟨rfl, hb3⟩; rw [HQ.out]; have hO3 := hO2.below' hb3; have hS3 := hS2.below' hb3; have hbel3 := Below.call hbel2 hb3; clear oc of hO2 hS2 hbel2 hb3 hR; have oc := hO3.cell; have of := hO3.frozen; have sc := hS3.cell)))
 exact bodyPost_ret (v := .tuple #[.agg #[.int .u64 0, .int .u64 0, .int .u64 0, .int .u64 0, .int .u64 0], .int .i64 2]) (by simp [results, Tryz.results88, go_sem, oc]) rfl ⟨fun _ => 0, rfl, FF.zero, belowBy⟩
end Go.Proofs.YtielgpefoameiaaGreat
namespace Go.Proofs.YtielgpefoameiaaGreat
open Go Go.RowKit
def repE (x : F) (cs : List Value) : Prop := ∃ h, FF h x ∧ cs = [.int .u64 (h 0 : Nat), .int .u64 (h 1 : Nat), .int .u64 (h 2 : Nat), .int .u64 (h 3 : Nat), .int .u64 (h 4 : Nat)]
def rE : Rp F where
 n := 5
 rep := repE
 pos := by omega
 len := fun _ _ h => by obtain ⟨h, _, rfl⟩ := h; rfl
 one := fun _ _ h v hv => by
  obtain ⟨h, _, rfl⟩ := h
  simp at hv
  rcases hv with rfl | rfl | rfl | rfl | rfl <;> rfl
theorem isE {f : Nat → Nat} {x : F} (h : FF f x) : IsFs rE (.agg #[.int .u64 (f 0 : Nat), .int .u64 (f 1 : Nat), .int .u64 (f 2 : Nat), .int .u64 (f 3 : Nat), .int .u64 (f 4 : Nat)]) [x] := ⟨_, rfl, Lims.single (R := rE) ⟨f, h, rfl⟩⟩
theorem of_isE {v : Value} {x : F} (h : IsFs rE v [x]) : ∃ f, v = .agg #[.int .u64 (f 0 : Nat), .int .u64 (f 1 : Nat), .int .u64 (f 2 : Nat), .int .u64 (f 3 : Nat), .int .u64 (f 4 : Nat)] ∧ FF f x := by
 obtain ⟨cs, rfl, hc⟩ := h
 obtain ⟨f, hf, rfl⟩ := Lims.of_single hc
 exact ⟨f, rfl, hf⟩
theorem cAdd {v v' : Value} {x y : F} (h : IsFs rE v [x]) (h' : IsFs rE v' [y]) (w : World) :
  Calls Tryz.prog 92 #[v, v'] w fun e w' => ∃ r, e = .returned r ∧ IsFs rE r [x + y] ∧ Below w.heap.size w w' := by
 obtain ⟨f, rfl, hf⟩ := of_isE h; obtain ⟨g, rfl, hg⟩ := of_isE h'
 exact (faddM hf hg w).mono fun e w' ⟨k, he, hk, hb⟩ => ⟨_, he, isE hk, hb⟩
theorem cSub {v v' : Value} {x y : F} (h : IsFs rE v [x]) (h' : IsFs rE v' [y]) (w : World) :
  Calls Tryz.prog 90 #[v, v'] w fun e w' => ∃ r, e = .returned r ∧ IsFs rE r [x - y] ∧ Below w.heap.size w w' := by
 obtain ⟨f, rfl, hf⟩ := of_isE h; obtain ⟨g, rfl, hg⟩ := of_isE h'
 exact (fsubM hf hg w).mono fun e w' ⟨k, he, hk, hb⟩ => ⟨_, he, isE hk, hb⟩
theorem cMul {v v' : Value} {x y : F} (h : IsFs rE v [x]) (h' : IsFs rE v' [y]) (w : World) :
  Calls Tryz.prog 63 #[v, v'] w fun e w' => ∃ r, e = .returned r ∧ IsFs rE r [x * y] ∧ Below w.heap.size w w' := by
 obtain ⟨f, rfl, hf⟩ := of_isE h; obtain ⟨g, rfl, hg⟩ := of_isE h'
 exact (fmulM hf hg w).mono fun e w' ⟨k, he, hk, hb⟩ => ⟨_, he, isE hk, hb⟩
theorem cNeg {v : Value} {x : F} (h : IsFs rE v [x]) (w : World) :
  Calls Tryz.prog 97 #[v] w fun e w' => ∃ r, e = .returned r ∧ IsFs rE r [-x] ∧ Below w.heap.size w w' := by
 obtain ⟨f, rfl, hf⟩ := of_isE h
 exact (fnegM hf w).mono fun e w' ⟨k, he, hk, hb⟩ => ⟨_, he, isE hk, hb⟩
theorem cInv {v : Value} {x : F} (h : IsFs rE v [x]) (w : World) :
  Calls Tryz.prog 62 #[v] w fun e w' => ∃ r, e = .returned r ∧ IsFs rE r [finv x] ∧ Below w.heap.size w w' := by
 obtain ⟨f, rfl, hf⟩ := of_isE h
 exact (finvM hf w).mono fun e w' ⟨k, he, hk, hb⟩ => ⟨_, he, isE hk, hb⟩
theorem cSmall {n : Nat} (hn : n < 18446744073709551616) (w : World) :
  Calls Tryz.prog 89 #[.int .u64 n] w fun e w' => ∃ r, e = .returned r ∧ IsFs rE r [fn n] ∧ Below w.heap.size w w' :=
 (fsmallM hn w).mono fun _ _ ⟨_, he, hk, hb⟩ => ⟨_, he, isE hk, hb⟩
theorem cSmallI {n : Nat} {z : Int} (hz : z = (n : Nat)) (hn : n < 18446744073709551616) (w : World) :
  Calls Tryz.prog 89 #[.int .u64 z] w fun e w' => ∃ r, e = .returned r ∧ IsFs rE r [fn n] ∧ Below w.heap.size w w' := by subst hz; exact cSmall hn w
theorem buildE0 (w : World) : ∃ r, (Instr.build 52 #[]).run Tryz.prog w = .ok r w ∧ IsFs rE r [0] :=
 ⟨_, by kernel_rfl, isE (f := fun _ => 0) FF.zero⟩
theorem cOf {a : Option Addr} {n cap : Nat} {l : List UInt8} {w : World} (h : RdB w a n cap l) :
  Calls Tryz.prog 110 #[.slice a n cap] w fun e w' => ∃ r, e = .returned r ∧ IsFs rE r [feF l] ∧ Below w.heap.size w w' :=
 (fofM w h).mono fun _ _ ⟨_, he, hk, hb⟩ => ⟨_, he, isE hk, hb⟩
theorem cBytes {v : Value} {x : F} (h : IsFs rE v [x]) (w : World) :
  Calls Tryz.prog 64 #[v] w fun e w' => ∃ g n cap r, e = .returned (.slice (some ⟨g, 0, none⟩) n cap) ∧ w.heap.size ≤ g ∧ Blk w' g ((leB 32 x.val).map bV ++ r) 5 ∧ (leB 32 x.val).length = n ∧ n ≤ cap ∧ cap ≤ maxLen ∧ Below w.heap.size w w' := by
 obtain ⟨f, rfl, hf⟩ := of_isE h
 exact (fbytesM hf w).mono fun _ _ ⟨g, cap, r, he, hg, hB, h1, h2, hb⟩ => ⟨g, 32, cap, r, he, hg, hB, leB_len _ _, h1, h2, hb⟩
theorem tyE : TyOk rE 52 1 := ⟨⟨_, Tryz.underlying52, rfl⟩, by kernel_rfl⟩
theorem allocE (w : World) : (Instr.alloc 52 true (.tuple #[])).run Tryz.prog w = .ok (.pointer (some ⟨w.heap.size, 0, none⟩)) (w.alloc (.cells #[.int .u64 0, .int .u64 0, .int .u64 0, .int .u64 0, .int .u64 0] 52)) := by kernel_rfl
end Go.Proofs.YtielgpefoameiaaGreat
namespace Go.Proofs.YtielgpefoameiaaGreat
open Go.RowKit
def turnF (i : Nat) : Nat := if i = 0 then 1718705420411056 else if i = 1 then 234908883556509 else if i = 2 then 2233514472574048 else if i = 3 then 2117202627021982 else 765476049583133
theorem FF.turn : FF turnF sqm1 := ⟨⟨by decide, by decide, by decide, by decide, by decide⟩, by decide +kernel⟩
theorem fturnM (w : World) : Calls Tryz.prog 122 #[] w fun e w' => ∃ h, e = .returned (.agg #[.int .u64 (h 0 : Nat), .int .u64 (h 1 : Nat), .int .u64 (h 2 : Nat), .int .u64 (h 3 : Nat), .int .u64 (h 4 : Nat)]) ∧ FF h sqm1 ∧ Below w.heap.size w w' := by
 go_enter Tryz.func122, Tryz.ntmps122
 go_wp2
 exact bodyPost_ret (v := .agg #[.int .u64 1718705420411056, .int .u64 234908883556509, .int .u64 2233514472574048, .int .u64 2117202627021982, .int .u64 765476049583133]) (by simp [results, Tryz.results122, go_sem]) rfl ⟨turnF, rfl, FF.turn, belowBy⟩
theorem fpow8 {f : Nat → Nat} {x : F} (hf : FF f x) (w : World) :
  Calls Tryz.prog 111 #[.agg #[.int .u64 (f 0 : Nat), .int .u64 (f 1 : Nat), .int .u64 (f 2 : Nat), .int .u64 (f 3 : Nat), .int .u64 (f 4 : Nat)], .agg #[.int .u64 18446744073709551614, .int .u64 18446744073709551615, .int .u64 18446744073709551615, .int .u64 1152921504606846975]] w fun e w' => ∃ h, e = .returned (.agg #[.int .u64 (h 0 : Nat), .int .u64 (h 1 : Nat), .int .u64 (h 2 : Nat), .int .u64 (h 3 : Nat), .int .u64 (h 4 : Nat)]) ∧ FF h (fpow x exp8) ∧ Below w.heap.size w w' := by
 have hP := fpowM exp8 (8 * 32) (by omega) (by omega) (by decide +kernel) hf w
 rw [show lw exp8 0 = 18446744073709551614 from by decide +kernel, show lw exp8 1 = 18446744073709551615 from by decide +kernel, show lw exp8 2 = 18446744073709551615 from by decide +kernel, show lw exp8 3 = 1152921504606846975 from by decide +kernel] at hP
 exact hP
theorem root_keep {f r : Nat → Nat} {A g o : Nat} {w : World} : ∀ W W' : World, ((W.cell? ⟨A, 0, none⟩ = some (.int .u64 (f 0 : Nat)) ∧ W.cell? ⟨A, 1, none⟩ = some (.int .u64 (f 1 : Nat)) ∧ W.cell? ⟨A, 2, none⟩ = some (.int .u64 (f 2 : Nat)) ∧ W.cell? ⟨A, 3, none⟩ = some (.int .u64 (f 3 : Nat)) ∧ W.cell? ⟨A, 4, none⟩ = some (.int .u64 (f 4 : Nat))) ∧ (W.cell? ⟨g, 0, none⟩ = some (.int .u64 (r 0 : Nat)) ∧ W.cell? ⟨g, 1, none⟩ = some (.int .u64 (r 1 : Nat)) ∧ W.cell? ⟨g, 2, none⟩ = some (.int .u64 (r 2 : Nat)) ∧ W.cell? ⟨g, 3, none⟩ = some (.int .u64 (r 3 : Nat)) ∧ W.cell? ⟨g, 4, none⟩ = some (.int .u64 (r 4 : Nat))) ∧ Blk W A [.int .u64 (f 0 : Nat), .int .u64 (f 1 : Nat), .int .u64 (f 2 : Nat), .int .u64 (f 3 : Nat), .int .u64 (f 4 : Nat)] 52 ∧ Blk W g [.int .u64 (r 0 : Nat), .int .u64 (r 1 : Nat), .int .u64 (r 2 : Nat), .int .u64 (r 3 : Nat), .int .u64 (r 4 : Nat)] 52 ∧ Blk W (o) [.int .u64 0, .int .u64 0, .int .u64 0, .int .u64 0, .int .u64 0] 52 ∧ Below w.heap.size w W) → Below W.heap.size W W' → ((W'.cell? ⟨A, 0, none⟩ = some (.int .u64 (f 0 : Nat)) ∧ W'.cell? ⟨A, 1, none⟩ = some (.int .u64 (f 1 : Nat)) ∧ W'.cell? ⟨A, 2, none⟩ = some (.int .u64 (f 2 : Nat)) ∧ W'.cell? ⟨A, 3, none⟩ = some (.int .u64 (f 3 : Nat)) ∧ W'.cell? ⟨A, 4, none⟩ = some (.int .u64 (f 4 : Nat))) ∧ (W'.cell? ⟨g, 0, none⟩ = some (.int .u64 (r 0 : Nat)) ∧ W'.cell? ⟨g, 1, none⟩ = some (.int .u64 (r 1 : Nat)) ∧ W'.cell? ⟨g, 2, none⟩ = some (.int .u64 (r 2 : Nat)) ∧ W'.cell? ⟨g, 3, none⟩ = some (.int .u64 (r 3 : Nat)) ∧ W'.cell? ⟨g, 4, none⟩ = some (.int .u64 (r 4 : Nat))) ∧ Blk W' A [.int .u64 (f 0 : Nat), .int .u64 (f 1 : Nat), .int .u64 (f 2 : Nat), .int .u64 (f 3 : Nat), .int .u64 (f 4 : Nat)] 52 ∧ Blk W' g [.int .u64 (r 0 : Nat), .int .u64 (r 1 : Nat), .int .u64 (r 2 : Nat), .int .u64 (r 3 : Nat), .int .u64 (r 4 : Nat)] 52 ∧ Blk W' (o) [.int .u64 0, .int .u64 0, .int .u64 0, .int .u64 0, .int .u64 0] 52 ∧ Below w.heap.size w W') := by
 rintro W W' ⟨h1, h2, h3, h4, h5, h6⟩ hb
 exact ⟨keep5 _ _ h1 hb, keep5 _ _ h2 hb, h3.below' hb, h4.below' hb, h5.below' hb, Below.call h6 hb⟩
theorem root_drew {f r : Nat → Nat} {A g o : Nat} {w W : World} (h : ((W.cell? ⟨A, 0, none⟩ = some (.int .u64 (f 0 : Nat)) ∧ W.cell? ⟨A, 1, none⟩ = some (.int .u64 (f 1 : Nat)) ∧ W.cell? ⟨A, 2, none⟩ = some (.int .u64 (f 2 : Nat)) ∧ W.cell? ⟨A, 3, none⟩ = some (.int .u64 (f 3 : Nat)) ∧ W.cell? ⟨A, 4, none⟩ = some (.int .u64 (f 4 : Nat))) ∧ (W.cell? ⟨g, 0, none⟩ = some (.int .u64 (r 0 : Nat)) ∧ W.cell? ⟨g, 1, none⟩ = some (.int .u64 (r 1 : Nat)) ∧ W.cell? ⟨g, 2, none⟩ = some (.int .u64 (r 2 : Nat)) ∧ W.cell? ⟨g, 3, none⟩ = some (.int .u64 (r 3 : Nat)) ∧ W.cell? ⟨g, 4, none⟩ = some (.int .u64 (r 4 : Nat))) ∧ Blk W A [.int .u64 (f 0 : Nat), .int .u64 (f 1 : Nat), .int .u64 (f 2 : Nat), .int .u64 (f 3 : Nat), .int .u64 (f 4 : Nat)] 52 ∧ Blk W g [.int .u64 (r 0 : Nat), .int .u64 (r 1 : Nat), .int .u64 (r 2 : Nat), .int .u64 (r 3 : Nat), .int .u64 (r 4 : Nat)] 52 ∧ Blk W (o) [.int .u64 0, .int .u64 0, .int .u64 0, .int .u64 0, .int .u64 0] 52 ∧ Below w.heap.size w W)) : ((W.drew.cell? ⟨A, 0, none⟩ = some (.int .u64 (f 0 : Nat)) ∧ W.drew.cell? ⟨A, 1, none⟩ = some (.int .u64 (f 1 : Nat)) ∧ W.drew.cell? ⟨A, 2, none⟩ = some (.int .u64 (f 2 : Nat)) ∧ W.drew.cell? ⟨A, 3, none⟩ = some (.int .u64 (f 3 : Nat)) ∧ W.drew.cell? ⟨A, 4, none⟩ = some (.int .u64 (f 4 : Nat))) ∧ (W.drew.cell? ⟨g, 0, none⟩ = some (.int .u64 (r 0 : Nat)) ∧ W.drew.cell? ⟨g, 1, none⟩ = some (.int .u64 (r 1 : Nat)) ∧ W.drew.cell? ⟨g, 2, none⟩ = some (.int .u64 (r 2 : Nat)) ∧ W.drew.cell? ⟨g, 3, none⟩ = some (.int .u64 (r 3 : Nat)) ∧ W.drew.cell? ⟨g, 4, none⟩ = some (.int .u64 (r 4 : Nat))) ∧ Blk W.drew A [.int .u64 (f 0 : Nat), .int .u64 (f 1 : Nat), .int .u64 (f 2 : Nat), .int .u64 (f 3 : Nat), .int .u64 (f 4 : Nat)] 52 ∧ Blk W.drew g [.int .u64 (r 0 : Nat), .int .u64 (r 1 : Nat), .int .u64 (r 2 : Nat), .int .u64 (r 3 : Nat), .int .u64 (r 4 : Nat)] 52 ∧ Blk W.drew (o) [.int .u64 0, .int .u64 0, .int .u64 0, .int .u64 0, .int .u64 0] 52 ∧ Below w.heap.size w W.drew) := root_keep _ _ h (Below.drew (Below.refl _ _))
theorem root_mk {f r : Nat → Nat} {A g o : Nat} {w W : World} (h3 : Blk W A [.int .u64 (f 0 : Nat), .int .u64 (f 1 : Nat), .int .u64 (f 2 : Nat), .int .u64 (f 3 : Nat), .int .u64 (f 4 : Nat)] 52) (h4 : Blk W g [.int .u64 (r 0 : Nat), .int .u64 (r 1 : Nat), .int .u64 (r 2 : Nat), .int .u64 (r 3 : Nat), .int .u64 (r 4 : Nat)] 52) (h5 : Blk W o [.int .u64 0, .int .u64 0, .int .u64 0, .int .u64 0, .int .u64 0] 52) (h6 : Below w.heap.size w W) : ((W.cell? ⟨A, 0, none⟩ = some (.int .u64 (f 0 : Nat)) ∧ W.cell? ⟨A, 1, none⟩ = some (.int .u64 (f 1 : Nat)) ∧ W.cell? ⟨A, 2, none⟩ = some (.int .u64 (f 2 : Nat)) ∧ W.cell? ⟨A, 3, none⟩ = some (.int .u64 (f 3 : Nat)) ∧ W.cell? ⟨A, 4, none⟩ = some (.int .u64 (f 4 : Nat))) ∧ (W.cell? ⟨g, 0, none⟩ = some (.int .u64 (r 0 : Nat)) ∧ W.cell? ⟨g, 1, none⟩ = some (.int .u64 (r 1 : Nat)) ∧ W.cell? ⟨g, 2, none⟩ = some (.int .u64 (r 2 : Nat)) ∧ W.cell? ⟨g, 3, none⟩ = some (.int .u64 (r 3 : Nat)) ∧ W.cell? ⟨g, 4, none⟩ = some (.int .u64 (r 4 : Nat))) ∧ Blk W A [.int .u64 (f 0 : Nat), .int .u64 (f 1 : Nat), .int .u64 (f 2 : Nat), .int .u64 (f 3 : Nat), .int .u64 (f 4 : Nat)] 52 ∧ Blk W g [.int .u64 (r 0 : Nat), .int .u64 (r 1 : Nat), .int .u64 (r 2 : Nat), .int .u64 (r 3 : Nat), .int .u64 (r 4 : Nat)] 52 ∧ Blk W (o) [.int .u64 0, .int .u64 0, .int .u64 0, .int .u64 0, .int .u64 0] 52 ∧ Below w.heap.size w W) :=
 ⟨⟨h3.cell 0, h3.cell 1, h3.cell 2, h3.cell 3, h3.cell 4⟩, ⟨h4.cell 0, h4.cell 1, h4.cell 2, h4.cell 3, h4.cell 4⟩, h3, h4, h5, h6⟩
set_option maxHeartbeats 1000000 in
theorem rootM {f : Nat → Nat} {x : F} (hf : FF f x) (w : World) :
  Calls Tryz.prog 93 #[.agg #[.int .u64 (f 0 : Nat), .int .u64 (f 1 : Nat), .int .u64 (f 2 : Nat), .int .u64 (f 3 : Nat), .int .u64 (f 4 : Nat)]] w fun e w' => ∃ h, e = .returned (.tuple #[.agg #[.int .u64 (h 0 : Nat), .int .u64 (h 1 : Nat), .int .u64 (h 2 : Nat), .int .u64 (h 3 : Nat), .int .u64 (h 4 : Nat)], .int .i64 (rootC x)]) ∧ FF h (rootV x) ∧ Below w.heap.size w w' := by
 have hbE := buildE
 go_enter Tryz.func93, Tryz.ntmps93
 go_upto_region 2 with (go_at_call 111; go_must (refine (fpow8 hf _).mono ?_; rintro e w1 ⟨r, rfl, hr, hb⟩; have hA := ((Blk.new w #[.int .u64 (f 0 : Nat),.int .u64 (f 1 : Nat),.int .u64 (f 2 : Nat),.int .u64 (f 3 : Nat),.int .u64 (f 4 : Nat)] 52).alloc _).below' hb; have hO := (show Blk _ (w.heap.size + 1) [.int .u64 0, .int .u64 0, .int .u64 0, .int .u64 0, .int .u64 0] 52 from (by repeat (first | (with_reducible refine Blk.drew ?_) | exact Blk.new' (by simp) | (with_reducible refine Blk.alloc ?_ _)))).below' hb; have hbel : Below w.heap.size w w1 := Below.call belowBy hb; clear hb))
 refine wp_gen (fun W => ((W.cell? ⟨w.heap.size, 0, none⟩ = some (.int .u64 (f 0 : Nat)) ∧ W.cell? ⟨w.heap.size, 1, none⟩ = some (.int .u64 (f 1 : Nat)) ∧ W.cell? ⟨w.heap.size, 2, none⟩ = some (.int .u64 (f 2 : Nat)) ∧ W.cell? ⟨w.heap.size, 3, none⟩ = some (.int .u64 (f 3 : Nat)) ∧ W.cell? ⟨w.heap.size, 4, none⟩ = some (.int .u64 (f 4 : Nat))) ∧ (W.cell? ⟨w1.heap.size, 0, none⟩ = some (.int .u64 (r 0 : Nat)) ∧ W.cell? ⟨w1.heap.size, 1, none⟩ = some (.int .u64 (r 1 : Nat)) ∧ W.cell? ⟨w1.heap.size, 2, none⟩ = some (.int .u64 (r 2 : Nat)) ∧ W.cell? ⟨w1.heap.size, 3, none⟩ = some (.int .u64 (r 3 : Nat)) ∧ W.cell? ⟨w1.heap.size, 4, none⟩ = some (.int .u64 (r 4 : Nat))) ∧ Blk W w.heap.size [.int .u64 (f 0 : Nat), .int .u64 (f 1 : Nat), .int .u64 (f 2 : Nat), .int .u64 (f 3 : Nat), .int .u64 (f 4 : Nat)] 52 ∧ Blk W w1.heap.size [.int .u64 (r 0 : Nat), .int .u64 (r 1 : Nat), .int .u64 (r 2 : Nat), .int .u64 (r 3 : Nat), .int .u64 (r 4 : Nat)] 52 ∧ Blk W (w.heap.size + 1) [.int .u64 0, .int .u64 0, .int .u64 0, .int .u64 0, .int .u64 0] 52 ∧ Below w.heap.size w W)) ?_ (fun W0 hW => ?_)
 ·exact root_mk (hA.alloc _) (Blk.new w1 _ _) (hO.alloc _) (Below.alloc' hbel _)
 have hg1 : w.heap.size + 1 < w1.heap.size := hO.lt
 clear hA hO hbel
 generalize w1.heap.size = g at *
 clear w1
 have hst1 := Lib.hid (root_keep (f := f) (r := r) (A := w.heap.size) (g := g) (o := w.heap.size + 1) (w := w))
 have HS1 := Lib.hid (root_drew hW)
 clear hW
 have hst := hst1
 by_cases e1 : fpow x exp8 * fpow x exp8 = x
 ·have E1 := Lib.hid e1
  have HC : Hid (cand x = fpow x exp8) := Lib.hid (by unfold cand; rw [if_pos e1])
  have HR : Hid (rootC x = 0) := Lib.hid (by unfold rootC; rw [HC.out, if_pos e1])
  have E2 := E1
  clear e1
  generalize fpow x exp8 = y at *
  go_region_held3 (fun W => ((W.cell? ⟨w.heap.size, 0, none⟩ = some (.int .u64 (f 0 : Nat)) ∧ W.cell? ⟨w.heap.size, 1, none⟩ = some (.int .u64 (f 1 : Nat)) ∧ W.cell? ⟨w.heap.size, 2, none⟩ = some (.int .u64 (f 2 : Nat)) ∧ W.cell? ⟨w.heap.size, 3, none⟩ = some (.int .u64 (f 3 : Nat)) ∧ W.cell? ⟨w.heap.size, 4, none⟩ = some (.int .u64 (f 4 : Nat))) ∧ (W.cell? ⟨g, 0, none⟩ = some (.int .u64 (r 0 : Nat)) ∧ W.cell? ⟨g, 1, none⟩ = some (.int .u64 (r 1 : Nat)) ∧ W.cell? ⟨g, 2, none⟩ = some (.int .u64 (r 2 : Nat)) ∧ W.cell? ⟨g, 3, none⟩ = some (.int .u64 (r 3 : Nat)) ∧ W.cell? ⟨g, 4, none⟩ = some (.int .u64 (r 4 : Nat))) ∧ Blk W w.heap.size [.int .u64 (f 0 : Nat), .int .u64 (f 1 : Nat), .int .u64 (f 2 : Nat), .int .u64 (f 3 : Nat), .int .u64 (f 4 : Nat)] 52 ∧ Blk W g [.int .u64 (r 0 : Nat), .int .u64 (r 1 : Nat), .int .u64 (r 2 : Nat), .int .u64 (r 3 : Nat), .int .u64 (r 4 : Nat)] 52 ∧ Blk W (w.heap.size + 1) [.int .u64 0, .int .u64 0, .int .u64 0, .int .u64 0, .int .u64 0] 52 ∧ Below w.heap.size w W)) (first | (exact HS1.out) | (first | assumption | (refine hst.out _ _ ?_ hb; assumption) | (refine hst.out _ _ ?_ (Below.alloc' (Below.refl _ _) _); assumption) | (refine hst.out _ _ ?_ (Below.drew (Below.refl _ _)); assumption))) ((first | (go_at_call 63; (with_reducible refine (fmulM hr hr _).mono ?_); rintro e wm ⟨m1, rfl, hm1, hb⟩) | (go_at_call 94; (with_reducible refine (fsameT hm1 hf E1.out _).mono ?_); rintro e ws ⟨rfl, hb⟩)))
  rename_i hh
  have HS2 := Lib.hid (root_drew hh)
  clear hh HS1 hst1
  go_wp2
  go_region_held3 (fun W => ((W.cell? ⟨w.heap.size, 0, none⟩ = some (.int .u64 (f 0 : Nat)) ∧ W.cell? ⟨w.heap.size, 1, none⟩ = some (.int .u64 (f 1 : Nat)) ∧ W.cell? ⟨w.heap.size, 2, none⟩ = some (.int .u64 (f 2 : Nat)) ∧ W.cell? ⟨w.heap.size, 3, none⟩ = some (.int .u64 (f 3 : Nat)) ∧ W.cell? ⟨w.heap.size, 4, none⟩ = some (.int .u64 (f 4 : Nat))) ∧ (W.cell? ⟨g, 0, none⟩ = some (.int .u64 (r 0 : Nat)) ∧ W.cell? ⟨g, 1, none⟩ = some (.int .u64 (r 1 : Nat)) ∧ W.cell? ⟨g, 2, none⟩ = some (.int .u64 (r 2 : Nat)) ∧ W.cell? ⟨g, 3, none⟩ = some (.int .u64 (r 3 : Nat)) ∧ W.cell? ⟨g, 4, none⟩ = some (.int .u64 (r 4 : Nat))) ∧ Blk W w.heap.size [.int .u64 (f 0 : Nat), .int .u64 (f 1 : Nat), .int .u64 (f 2 : Nat), .int .u64 (f 3 : Nat), .int .u64 (f 4 : Nat)] 52 ∧ Blk W g [.int .u64 (r 0 : Nat), .int .u64 (r 1 : Nat), .int .u64 (r 2 : Nat), .int .u64 (r 3 : Nat), .int .u64 (r 4 : Nat)] 52 ∧ Blk W (w.heap.size + 1) [.int .u64 0, .int .u64 0, .int .u64 0, .int .u64 0, .int .u64 0] 52 ∧ Below w.heap.size w W)) (first | (exact HS2.out) | (first | assumption | (refine hst.out _ _ ?_ hb; assumption) | (refine hst.out _ _ ?_ (Below.alloc' (Below.refl _ _) _); assumption) | (refine hst.out _ _ ?_ (Below.drew (Below.refl _ _)); assumption))) ((first | (go_at_call 63; (with_reducible refine (fmulM hr hr _).mono ?_); rintro e wm ⟨m2, rfl, hm2, hb⟩) | (go_at_call 94; (with_reducible refine (fsameT hm2 hf E2.out _).mono ?_); rintro e ws ⟨rfl, hb⟩)))
  rename_i hh
  have hhH := Lib.hid hh
  clear hh hst HS2
  by_cases hp : y.val % 2 = 1
  ·have HV : Hid (rootV x = -y) := Lib.hid (by unfold rootV; rw [HC.out, if_pos E2.out, if_pos hp])
   have HP : Hid (decide (y.val % 2 = 1) = true) := Lib.hid (decide_eq_true hp)
   clear hp
   have c0 := hhH.out.2.1.1; have c1 := hhH.out.2.1.2.1; have c2 := hhH.out.2.1.2.2.1; have c3 := hhH.out.2.1.2.2.2.1; have c4 := hhH.out.2.1.2.2.2.2
   have hne : ¬ g = w.heap.size + 1 := by omega
   have hne2 : ¬ w.heap.size + 1 = g := by omega
   go_wp2_with (first | (go_at_call 65; go_must (refine (foddM hr _).mono ?_; rintro e w2 ⟨rfl, hb⟩; rw [HP.out]; have h2 := Lib.hid (root_keep _ _ hhH.out hb); clear c0 c1 c2 c3 c4 hb; have c0 := h2.out.2.1.1; have c1 := h2.out.2.1.2.1; have c2 := h2.out.2.1.2.2.1; have c3 := h2.out.2.1.2.2.2.1; have c4 := h2.out.2.1.2.2.2.2; have rf := h2.out.2.2.2.1.frozen))         | (go_at_call 97; go_must (refine (fnegM hr _).mono ?_; rintro e w3 ⟨q, rfl, hq, hb⟩; have h3 := root_keep _ _ h2.out hb; have hG := h3.2.2.2.1.frozen; have gc := h3.2.2.2.1.cell; have oc := h3.2.2.2.2.1.cell; have of := h3.2.2.2.2.1.frozen; have hbel := h3.2.2.2.2.2; clear c0 c1 c2 c3 c4 rf hb h2 h3)))
   exact bodyPost_ret (v := .tuple #[.agg #[.int .u64 (q 0 : Nat), .int .u64 (q 1 : Nat), .int .u64 (q 2 : Nat), .int .u64 (q 3 : Nat), .int .u64 (q 4 : Nat)], .int .i64 0]) (by simp [results, Tryz.results93, go_sem, oc]) rfl ⟨q, by rw [HR.out], by rw [HV.out]; exact hq, belowBy⟩
  ·have HV : Hid (rootV x = y) := Lib.hid (by unfold rootV; rw [HC.out, if_pos E2.out, if_neg hp])
   have HP : Hid (decide (y.val % 2 = 1) = false) := Lib.hid (decide_eq_false hp)
   clear hp
   have c0 := hhH.out.2.1.1; have c1 := hhH.out.2.1.2.1; have c2 := hhH.out.2.1.2.2.1; have c3 := hhH.out.2.1.2.2.2.1; have c4 := hhH.out.2.1.2.2.2.2
   have hne : ¬ g = w.heap.size + 1 := by omega
   have hne2 : ¬ w.heap.size + 1 = g := by omega
   go_wp2_with (first | (go_at_call 65; go_must (refine (foddM hr _).mono ?_; rintro e w2 ⟨rfl, hb⟩; rw [HP.out]; have h2 := root_keep _ _ hhH.out hb; clear c0 c1 c2 c3 c4 hb; have gc := h2.2.2.2.1.cell; have oc := h2.2.2.2.2.1.cell; have of := h2.2.2.2.2.1.frozen; have hbel := h2.2.2.2.2.2; clear h2)))
   exact bodyPost_ret (v := .tuple #[.agg #[.int .u64 (r 0 : Nat), .int .u64 (r 1 : Nat), .int .u64 (r 2 : Nat), .int .u64 (r 3 : Nat), .int .u64 (r 4 : Nat)], .int .i64 0]) (by simp [results, Tryz.results93, go_sem, oc]) rfl ⟨r, by rw [HR.out], by rw [HV.out]; exact hr, belowBy⟩
 ·have E1 := Lib.hid e1
  have HC : Hid (cand x = fpow x exp8 * sqm1) := Lib.hid (by unfold cand; rw [if_neg e1])
  clear e1
  go_region_held3 (fun W => ((W.cell? ⟨w.heap.size, 0, none⟩ = some (.int .u64 (f 0 : Nat)) ∧ W.cell? ⟨w.heap.size, 1, none⟩ = some (.int .u64 (f 1 : Nat)) ∧ W.cell? ⟨w.heap.size, 2, none⟩ = some (.int .u64 (f 2 : Nat)) ∧ W.cell? ⟨w.heap.size, 3, none⟩ = some (.int .u64 (f 3 : Nat)) ∧ W.cell? ⟨w.heap.size, 4, none⟩ = some (.int .u64 (f 4 : Nat))) ∧ (W.cell? ⟨g, 0, none⟩ = some (.int .u64 (r 0 : Nat)) ∧ W.cell? ⟨g, 1, none⟩ = some (.int .u64 (r 1 : Nat)) ∧ W.cell? ⟨g, 2, none⟩ = some (.int .u64 (r 2 : Nat)) ∧ W.cell? ⟨g, 3, none⟩ = some (.int .u64 (r 3 : Nat)) ∧ W.cell? ⟨g, 4, none⟩ = some (.int .u64 (r 4 : Nat))) ∧ Blk W w.heap.size [.int .u64 (f 0 : Nat), .int .u64 (f 1 : Nat), .int .u64 (f 2 : Nat), .int .u64 (f 3 : Nat), .int .u64 (f 4 : Nat)] 52 ∧ Blk W g [.int .u64 (r 0 : Nat), .int .u64 (r 1 : Nat), .int .u64 (r 2 : Nat), .int .u64 (r 3 : Nat), .int .u64 (r 4 : Nat)] 52 ∧ Blk W (w.heap.size + 1) [.int .u64 0, .int .u64 0, .int .u64 0, .int .u64 0, .int .u64 0] 52 ∧ Below w.heap.size w W)) (first | (exact HS1.out) | (first | assumption | (refine hst.out _ _ ?_ hb; assumption) | (refine hst.out _ _ ?_ (Below.alloc' (Below.refl _ _) _); assumption) | (refine hst.out _ _ ?_ (Below.drew (Below.refl _ _)); assumption))) ((first | (go_at_call 63; (with_reducible refine (fmulM hr hr _).mono ?_); rintro e wm ⟨m1, rfl, hm1, hb⟩) | (go_at_call 94; (with_reducible refine (fsameF hm1 hf E1.out _).mono ?_); rintro e ws ⟨rfl, hb⟩)))
  rename_i hh
  have HS2 := Lib.hid (root_drew hh)
  have hh' := Lib.hid hh
  clear hh HS1 hst1 HS2
  have c0 := hh'.out.2.1.1; have c1 := hh'.out.2.1.2.1; have c2 := hh'.out.2.1.2.2.1; have c3 := hh'.out.2.1.2.2.2.1; have c4 := hh'.out.2.1.2.2.2.2
  go_wp2
  go_region_with ((first | (go_at_call 122; (with_reducible refine (fturnM _).mono ?_); rintro e wt ⟨t, rfl, ht, hb⟩; have h2 := Lib.hid (root_keep _ _ (root_drew hh'.out) hb); clear c0 c1 c2 c3 c4 hb; have c0 := h2.out.2.1.1; have c1 := h2.out.2.1.2.1; have c2 := h2.out.2.1.2.2.1; have c3 := h2.out.2.1.2.2.2.1; have c4 := h2.out.2.1.2.2.2.2) | (go_at_call 63; (with_reducible refine (fmulM hr ht _).mono ?_); rintro e wm ⟨q, rfl, hq, hb⟩; have h3 := Lib.hid (root_keep _ _ h2.out hb); clear c0 c1 c2 c3 c4 hb; have c0 := h3.out.2.1.1; have c1 := h3.out.2.1.2.1; have c2 := h3.out.2.1.2.2.1; have c3 := h3.out.2.1.2.2.2.1; have c4 := h3.out.2.1.2.2.2.2; have rf := h3.out.2.2.2.1.frozen)))
  all_goals
   go_wp2
   refine wp_gen (fun W => ((W.cell? ⟨w.heap.size, 0, none⟩ = some (.int .u64 (f 0 : Nat)) ∧ W.cell? ⟨w.heap.size, 1, none⟩ = some (.int .u64 (f 1 : Nat)) ∧ W.cell? ⟨w.heap.size, 2, none⟩ = some (.int .u64 (f 2 : Nat)) ∧ W.cell? ⟨w.heap.size, 3, none⟩ = some (.int .u64 (f 3 : Nat)) ∧ W.cell? ⟨w.heap.size, 4, none⟩ = some (.int .u64 (f 4 : Nat))) ∧ (W.cell? ⟨g, 0, none⟩ = some (.int .u64 (q 0 : Nat)) ∧ W.cell? ⟨g, 1, none⟩ = some (.int .u64 (q 1 : Nat)) ∧ W.cell? ⟨g, 2, none⟩ = some (.int .u64 (q 2 : Nat)) ∧ W.cell? ⟨g, 3, none⟩ = some (.int .u64 (q 3 : Nat)) ∧ W.cell? ⟨g, 4, none⟩ = some (.int .u64 (q 4 : Nat))) ∧ Blk W w.heap.size [.int .u64 (f 0 : Nat), .int .u64 (f 1 : Nat), .int .u64 (f 2 : Nat), .int .u64 (f 3 : Nat), .int .u64 (f 4 : Nat)] 52 ∧ Blk W g [.int .u64 (q 0 : Nat), .int .u64 (q 1 : Nat), .int .u64 (q 2 : Nat), .int .u64 (q 3 : Nat), .int .u64 (q 4 : Nat)] 52 ∧ Blk W (w.heap.size + 1) [.int .u64 0, .int .u64 0, .int .u64 0, .int .u64 0, .int .u64 0] 52 ∧ Below w.heap.size w W)) ?_ (fun W hW => ?_)
   ·have hbel := h3.out.2.2.2.2.2
    exact root_mk (((((h3.out.2.2.1.other ⟨g, 0, none⟩ (by simp; omega) (.int .u64 (q 0 : Nat))).other ⟨g, 1, none⟩ (by simp; omega) (.int .u64 (q 1 : Nat))).other ⟨g, 2, none⟩ (by simp; omega) (.int .u64 (q 2 : Nat))).other ⟨g, 3, none⟩ (by simp; omega) (.int .u64 (q 3 : Nat))).other ⟨g, 4, none⟩ (by simp; omega) (.int .u64 (q 4 : Nat))) (((((h3.out.2.2.2.1.set 0 (.int .u64 (q 0 : Nat))).set 1 (.int .u64 (q 1 : Nat))).set 2 (.int .u64 (q 2 : Nat))).set 3 (.int .u64 (q 3 : Nat))).set 4 (.int .u64 (q 4 : Nat))) (((((h3.out.2.2.2.2.1.other ⟨g, 0, none⟩ (by simp; omega) (.int .u64 (q 0 : Nat))).other ⟨g, 1, none⟩ (by simp; omega) (.int .u64 (q 1 : Nat))).other ⟨g, 2, none⟩ (by simp; omega) (.int .u64 (q 2 : Nat))).other ⟨g, 3, none⟩ (by simp; omega) (.int .u64 (q 3 : Nat))).other ⟨g, 4, none⟩ (by simp; omega) (.int .u64 (q 4 : Nat))) (by exact belowBy)
   clear h2 h3 hh' c0 c1 c2 c3 c4 rf hst
   have HS2 := Lib.hid (root_drew hW)
   clear hW
   have hst1 := Lib.hid (root_keep (f := f) (r := q) (A := w.heap.size) (g := g) (o := w.heap.size + 1) (w := w))
   have hst := hst1
   by_cases e2 : (fpow x exp8 * sqm1) * (fpow x exp8 * sqm1) = x
   ·have E2 := Lib.hid e2
    have HR : Hid (rootC x = 0) := Lib.hid (by unfold rootC; rw [HC.out, if_pos e2])
    clear e2
    generalize fpow x exp8 * sqm1 = y at *
    clear hst1
    go_region_held3 (fun W => ((W.cell? ⟨w.heap.size, 0, none⟩ = some (.int .u64 (f 0 : Nat)) ∧ W.cell? ⟨w.heap.size, 1, none⟩ = some (.int .u64 (f 1 : Nat)) ∧ W.cell? ⟨w.heap.size, 2, none⟩ = some (.int .u64 (f 2 : Nat)) ∧ W.cell? ⟨w.heap.size, 3, none⟩ = some (.int .u64 (f 3 : Nat)) ∧ W.cell? ⟨w.heap.size, 4, none⟩ = some (.int .u64 (f 4 : Nat))) ∧ (W.cell? ⟨g, 0, none⟩ = some (.int .u64 (q 0 : Nat)) ∧ W.cell? ⟨g, 1, none⟩ = some (.int .u64 (q 1 : Nat)) ∧ W.cell? ⟨g, 2, none⟩ = some (.int .u64 (q 2 : Nat)) ∧ W.cell? ⟨g, 3, none⟩ = some (.int .u64 (q 3 : Nat)) ∧ W.cell? ⟨g, 4, none⟩ = some (.int .u64 (q 4 : Nat))) ∧ Blk W w.heap.size [.int .u64 (f 0 : Nat), .int .u64 (f 1 : Nat), .int .u64 (f 2 : Nat), .int .u64 (f 3 : Nat), .int .u64 (f 4 : Nat)] 52 ∧ Blk W g [.int .u64 (q 0 : Nat), .int .u64 (q 1 : Nat), .int .u64 (q 2 : Nat), .int .u64 (q 3 : Nat), .int .u64 (q 4 : Nat)] 52 ∧ Blk W (w.heap.size + 1) [.int .u64 0, .int .u64 0, .int .u64 0, .int .u64 0, .int .u64 0] 52 ∧ Below w.heap.size w W)) (first | (exact HS2.out) | (first | assumption | (refine hst.out _ _ ?_ hb; assumption) | (refine hst.out _ _ ?_ (Below.alloc' (Below.refl _ _) _); assumption) | (refine hst.out _ _ ?_ (Below.drew (Below.refl _ _)); assumption))) ((first | (go_at_call 63; (with_reducible refine (fmulM hq hq _).mono ?_); rintro e wm ⟨m2, rfl, hm2, hb⟩) | (go_at_call 94; (with_reducible refine (fsameT hm2 hf E2.out _).mono ?_); rintro e ws ⟨rfl, hb⟩)))
    rename_i hh
    have hhH := Lib.hid hh
    clear hh hst HS2
    by_cases hp : y.val % 2 = 1
    ·have HV : Hid (rootV x = -y) := Lib.hid (by unfold rootV; rw [HC.out, if_pos E2.out, if_pos hp])
     have HP : Hid (decide (y.val % 2 = 1) = true) := Lib.hid (decide_eq_true hp)
     clear hp
     have c0 := hhH.out.2.1.1; have c1 := hhH.out.2.1.2.1; have c2 := hhH.out.2.1.2.2.1; have c3 := hhH.out.2.1.2.2.2.1; have c4 := hhH.out.2.1.2.2.2.2
     have hne : ¬ g = w.heap.size + 1 := by omega
     have hne2 : ¬ w.heap.size + 1 = g := by omega
     go_wp2_with (first | (go_at_call 65; go_must (refine (foddM hq _).mono ?_; rintro e w2 ⟨rfl, hb⟩; rw [HP.out]; have h2 := Lib.hid (root_keep _ _ hhH.out hb); clear c0 c1 c2 c3 c4 hb; have c0 := h2.out.2.1.1; have c1 := h2.out.2.1.2.1; have c2 := h2.out.2.1.2.2.1; have c3 := h2.out.2.1.2.2.2.1; have c4 := h2.out.2.1.2.2.2.2; have rf := h2.out.2.2.2.1.frozen))             | (go_at_call 97; go_must (refine (fnegM hq _).mono ?_; rintro e w3 ⟨z, rfl, hz, hb⟩; have h3 := root_keep _ _ h2.out hb; have hG := h3.2.2.2.1.frozen; have gc := h3.2.2.2.1.cell; have oc := h3.2.2.2.2.1.cell; have of := h3.2.2.2.2.1.frozen; have hbel := h3.2.2.2.2.2; clear c0 c1 c2 c3 c4 rf hb h2 h3)))
     exact bodyPost_ret (v := .tuple #[.agg #[.int .u64 (z 0 : Nat), .int .u64 (z 1 : Nat), .int .u64 (z 2 : Nat), .int .u64 (z 3 : Nat), .int .u64 (z 4 : Nat)], .int .i64 0]) (by simp [results, Tryz.results93, go_sem, oc]) rfl ⟨z, by rw [HR.out], by rw [HV.out]; exact hz, belowBy⟩
    ·have HV : Hid (rootV x = y) := Lib.hid (by unfold rootV; rw [HC.out, if_pos E2.out, if_neg hp])
     have HP : Hid (decide (y.val % 2 = 1) = false) := Lib.hid (decide_eq_false hp)
     clear hp
     have c0 := hhH.out.2.1.1; have c1 := hhH.out.2.1.2.1; have c2 := hhH.out.2.1.2.2.1; have c3 := hhH.out.2.1.2.2.2.1; have c4 := hhH.out.2.1.2.2.2.2
     have hne : ¬ g = w.heap.size + 1 := by omega
     have hne2 : ¬ w.heap.size + 1 = g := by omega
     go_wp2_with (first | (go_at_call 65; go_must (refine (foddM hq _).mono ?_; rintro e w2 ⟨rfl, hb⟩; rw [HP.out]; have h2 := root_keep _ _ hhH.out hb; clear c0 c1 c2 c3 c4 hb; have gc := h2.2.2.2.1.cell; have oc := h2.2.2.2.2.1.cell; have of := h2.2.2.2.2.1.frozen; have hbel := h2.2.2.2.2.2; clear h2)))
     exact bodyPost_ret (v := .tuple #[.agg #[.int .u64 (q 0 : Nat), .int .u64 (q 1 : Nat), .int .u64 (q 2 : Nat), .int .u64 (q 3 : Nat), .int .u64 (q 4 : Nat)], .int .i64 0]) (by simp [results, Tryz.results93, go_sem, oc]) rfl ⟨q, by rw [HR.out], by rw [HV.out]; exact hq, belowBy⟩
   ·have E2 := Lib.hid e2
    have HR : Hid (rootC x = 7) := Lib.hid (by unfold rootC; rw [HC.out, if_neg e2])
    have HV : Hid (rootV x = 0) := Lib.hid (by unfold rootV; rw [HC.out, if_neg e2])
    clear e2 hst1
    generalize fpow x exp8 * sqm1 = y at *
    go_region_held3 (fun W => ((W.cell? ⟨w.heap.size, 0, none⟩ = some (.int .u64 (f 0 : Nat)) ∧ W.cell? ⟨w.heap.size, 1, none⟩ = some (.int .u64 (f 1 : Nat)) ∧ W.cell? ⟨w.heap.size, 2, none⟩ = some (.int .u64 (f 2 : Nat)) ∧ W.cell? ⟨w.heap.size, 3, none⟩ = some (.int .u64 (f 3 : Nat)) ∧ W.cell? ⟨w.heap.size, 4, none⟩ = some (.int .u64 (f 4 : Nat))) ∧ (W.cell? ⟨g, 0, none⟩ = some (.int .u64 (q 0 : Nat)) ∧ W.cell? ⟨g, 1, none⟩ = some (.int .u64 (q 1 : Nat)) ∧ W.cell? ⟨g, 2, none⟩ = some (.int .u64 (q 2 : Nat)) ∧ W.cell? ⟨g, 3, none⟩ = some (.int .u64 (q 3 : Nat)) ∧ W.cell? ⟨g, 4, none⟩ = some (.int .u64 (q 4 : Nat))) ∧ Blk W w.heap.size [.int .u64 (f 0 : Nat), .int .u64 (f 1 : Nat), .int .u64 (f 2 : Nat), .int .u64 (f 3 : Nat), .int .u64 (f 4 : Nat)] 52 ∧ Blk W g [.int .u64 (q 0 : Nat), .int .u64 (q 1 : Nat), .int .u64 (q 2 : Nat), .int .u64 (q 3 : Nat), .int .u64 (q 4 : Nat)] 52 ∧ Blk W (w.heap.size + 1) [.int .u64 0, .int .u64 0, .int .u64 0, .int .u64 0, .int .u64 0] 52 ∧ Below w.heap.size w W)) (first | (exact HS2.out) | (first | assumption | (refine hst.out _ _ ?_ hb; assumption) | (refine hst.out _ _ ?_ (Below.alloc' (Below.refl _ _) _); assumption) | (refine hst.out _ _ ?_ (Below.drew (Below.refl _ _)); assumption))) ((first | (go_at_call 63; (with_reducible refine (fmulM hq hq _).mono ?_); rintro e wm ⟨m2, rfl, hm2, hb⟩) | (go_at_call 94; (with_reducible refine (fsameF hm2 hf E2.out _).mono ?_); rintro e ws ⟨rfl, hb⟩)))
    rename_i hh
    have oc := hh.2.2.2.2.1.cell; have of := hh.2.2.2.2.1.frozen; have hbel := hh.2.2.2.2.2
    clear hh HS2 hst
    go_wp2
    exact bodyPost_ret (v := .tuple #[.agg #[.int .u64 0, .int .u64 0, .int .u64 0, .int .u64 0, .int .u64 0], .int .i64 7]) (by simp [results, Tryz.results93, go_sem, oc]) rfl ⟨fun _ => 0, by rw [HR.out]; rfl, by rw [HV.out]; exact FF.zero, belowBy⟩
end Go.Proofs.YtielgpefoameiaaGreat
namespace Go.Proofs.YtielgpefoameiaaGreat
open Go Go.RowKit
theorem cSame {v v' : Value} {x y : F} {b : Bool} (hq : decide (x = y) = b) (h : IsFs rE v [x]) (h' : IsFs rE v' [y]) (w : World) :
  Calls Tryz.prog 94 #[v, v'] w fun e w' => e = .returned (.bool b) ∧ Below w.heap.size w w' := by
 obtain ⟨f, rfl, hf⟩ := of_isE h; obtain ⟨g, rfl, hg⟩ := of_isE h'
 subst hq
 exact fsameM hf hg w
theorem cOdd {v : Value} {x : F} {b : Bool} (hq : decide (x.val % 2 = 1) = b) (h : IsFs rE v [x]) (w : World) :
  Calls Tryz.prog 65 #[v] w fun e w' => e = .returned (.bool b) ∧ Below w.heap.size w w' := by
 obtain ⟨f, rfl, hf⟩ := of_isE h
 subst hq
 exact foddM hf w
theorem cPick {v v' : Value} {x y z : F} {b : Bool} (hz : (if b then x else y) = z) (h : IsFs rE v [x]) (h' : IsFs rE v' [y]) (w : World) :
  Calls Tryz.prog 96 #[.bool b, v, v'] w fun e w' => ∃ r, e = .returned r ∧ IsFs rE r [z] ∧ Below w.heap.size w w' := by
 subst hz
 obtain ⟨f, rfl, hf⟩ := of_isE h; obtain ⟨g, rfl, hg⟩ := of_isE h'
 refine (fepick_any b f g w).mono ?_
 rintro e w' ⟨rfl, hb⟩
 cases b
 ·exact ⟨_, rfl, isE hg, hb⟩
 ·exact ⟨_, rfl, isE hf, hb⟩
def stV (l : List UInt8) : F := if feOk l then feF l else 0
def stC (l : List UInt8) : Int := if feOk l then 0 else 2
theorem cStrict {a : Option Addr} {n cap : Nat} {l : List UInt8} {w : World} (h : RdB w a n cap l) :
  Calls Tryz.prog 88 #[.slice a n cap] w fun e w' => ∃ r, e = .returned (.tuple #[r, .int .i64 (stC l)]) ∧ IsFs rE r [stV l] ∧ Below w.heap.size w w' := by
 by_cases hok : feOk l = true
 ·refine (fstrict_yes w h hok).mono ?_
  rintro e w' ⟨f, rfl, hf, hb⟩
  rw [stC, stV, if_pos hok, if_pos hok]
  exact ⟨_, rfl, isE hf, hb⟩
 ·refine (fstrict_no w h (by simpa using hok)).mono ?_
  rintro e w' ⟨f, rfl, hf, hb⟩
  rw [stC, stV, if_neg hok, if_neg hok]
  exact ⟨_, rfl, isE hf, hb⟩
theorem cRoot {v : Value} {x : F} (h : IsFs rE v [x]) (w : World) :
  Calls Tryz.prog 93 #[v] w fun e w' => ∃ r, e = .returned (.tuple #[r, .int .i64 (rootC x)]) ∧ IsFs rE r [rootV x] ∧ Below w.heap.size w w' := by
 obtain ⟨f, rfl, hf⟩ := of_isE h
 refine (rootM hf w).mono ?_
 rintro e w' ⟨g, rfl, hg, hb⟩
 exact ⟨_, rfl, isE hg, hb⟩
theorem cOf' {a : Option Addr} {n cap : Nat} {l : List UInt8} {x : F} {w : World} (hx : feF l = x) (h : RdB w a n cap l) :
  Calls Tryz.prog 110 #[.slice a n cap] w fun e w' => ∃ r, e = .returned r ∧ IsFs rE r [x] ∧ Below w.heap.size w w' := by subst hx; exact cOf h
theorem cStrict' {a : Option Addr} {n cap : Nat} {l : List UInt8} {x : F} {c : Int} {w : World} (hx : stV l = x) (hc : stC l = c) (h : RdB w a n cap l) :
  Calls Tryz.prog 88 #[.slice a n cap] w fun e w' => ∃ r, e = .returned (.tuple #[r, .int .i64 c]) ∧ IsFs rE r [x] ∧ Below w.heap.size w w' := by subst hx hc; exact cStrict h
end Go.Proofs.YtielgpefoameiaaGreat
namespace Go.Proofs.YtielgpefoameiaaGreat
def v16 (f : Nat → Nat) : Nat → Nat
 | 0 => 0
 | n + 1 => v16 f n + f n * 65536 ^ n
def cr16 (f : Nat → Nat) : Nat → Nat
 | 0 => 0
 | i + 1 => (f i + cr16 f i) / 65536
def pas16 (f : Nat → Nat) (i : Nat) : Nat := (f i + cr16 f i) % 65536
theorem pas16_v (f : Nat → Nat) : ∀ n, v16 (pas16 f) n + cr16 f n * 65536 ^ n = v16 f n
 | 0 => by simp [v16, cr16]
 | n + 1 => by
  have ih := pas16_v f n
  have e : pas16 f n + 65536 * cr16 f (n + 1) = f n + cr16 f n := by unfold pas16; simp only [cr16]; omega
  have e2 : cr16 f (n + 1) * 65536 ^ (n + 1) = 65536 * cr16 f (n + 1) * 65536 ^ n := by rw [Nat.pow_succ]; grind
  simp only [v16]
  rw [e2]
  have e3 : pas16 f n * 65536 ^ n + 65536 * cr16 f (n + 1) * 65536 ^ n = f n * 65536 ^ n + cr16 f n * 65536 ^ n := by rw [← Nat.add_mul, e, Nat.add_mul]
  omega
theorem pas16_lt (f : Nat → Nat) (i : Nat) : pas16 f i < 65536 := Nat.mod_lt _ (by omega)
theorem v16_lt (f : Nat → Nat) (h : ∀ i, f i < 65536) : ∀ n, v16 f n < 65536 ^ n
 | 0 => by simp [v16]
 | n + 1 => by
  have ih := v16_lt f h n
  have h1 := h n
  have h2 : f n * 65536 ^ n ≤ 65535 * 65536 ^ n := Nat.mul_le_mul_right _ (by omega)
  simp only [v16, Nat.pow_succ]
  omega
theorem v16_congr {f g : Nat → Nat} : ∀ n, (∀ i, i < n → f i = g i) → v16 f n = v16 g n
 | 0, _ => rfl
 | n + 1, h => by simp only [v16]; rw [v16_congr n (fun i hi => h i (by omega)), h n (by omega)]
def rnd16 (f : Nat → Nat) (i : Nat) : Nat :=
 if i = 0 then pas16 f 0 + 38 * cr16 f 16 + 19 * (pas16 f 15 / 32768) else if i = 15 then pas16 f 15 % 32768 else pas16 f i
theorem v16_ends (f : Nat → Nat) : ∀ n, v16 f (n + 2) = f 0 + v16 (fun i => if i = 0 then 0 else f i) (n + 1) + f (n + 1) * 65536 ^ (n + 1)
 | 0 => by simp [v16]
 | n + 1 => by
  rw [v16, v16_ends f n]
  conv => rhs; rw [v16]
  simp only [if_neg (show ¬ n + 1 = 0 by omega)]
  have e : f (n + 2) * 65536 ^ (n + 2) = f (n + 1 + 1) * 65536 ^ (n + 1 + 1) := rfl
  rw [e]
  omega
theorem rnd16_mod (f : Nat → Nat) : v16 (rnd16 f) 16 % Pq = v16 f 16 % Pq := by
 have h1 := pas16_v f 16
 have a := v16_ends (rnd16 f) 14
 have b := v16_ends (pas16 f) 14
 have c : v16 (fun i => if i = 0 then 0 else rnd16 f i) (14 + 1) = v16 (fun i => if i = 0 then 0 else pas16 f i) (14 + 1) := by
  apply v16_congr
  intro i hi
  by_cases h0 : i = 0
  ·simp [h0]
  ·simp only [if_neg h0, rnd16, if_neg (show ¬ i = 15 by omega)]
 rw [c] at a
 have e0 : rnd16 f 0 = pas16 f 0 + 38 * cr16 f 16 + 19 * (pas16 f 15 / 32768) := by simp [rnd16]
 have e15 : rnd16 f (14 + 1) = pas16 f 15 % 32768 := by simp [rnd16]
 rw [e0, e15] at a
 generalize v16 (fun i => if i = 0 then 0 else pas16 f i) (14 + 1) = M at *
 generalize cr16 f 16 = C at *
 have hl := pas16_lt f 15
 simp only [show 14 + 2 = 16 from rfl, show 14 + 1 = 15 from rfl] at *
 generalize pas16 f 15 = L at *
 generalize pas16 f 0 = Z at *
 generalize v16 (rnd16 f) 16 = A at *
 generalize v16 (pas16 f) 16 = Bv at *
 generalize v16 f 16 = V at *
 have hL : L = 32768 * (L / 32768) + L % 32768 := by omega
 generalize L / 32768 = q at *
 generalize L % 32768 = r at *
 simp only [Nat.reducePow] at *
 have key : V + (38 * C + 19 * q) = A + (115792089237316195423570985008687907853269984665640564039457584007913129639936 * C + 57896044618658097711785492504343953926634992332820282019728792003956564819968 * q) := by omega
 have k1 : (38 * C + 19 * q) % Pq = (115792089237316195423570985008687907853269984665640564039457584007913129639936 * C + 57896044618658097711785492504343953926634992332820282019728792003956564819968 * q) % Pq := by
  unfold Pq; omega
 have k2 : (V + (38 * C + 19 * q)) % Pq = (A + (38 * C + 19 * q)) % Pq := by
  rw [key, Nat.add_mod A, ← k1, ← Nat.add_mod]
 have hP := Pq_pos
 unfold Pq at *
 omega
theorem cr16_lt (f : Nat → Nat) (B : Nat) (h : ∀ i, f i ≤ B) : ∀ i, cr16 f i ≤ B / 32768
 | 0 => by simp [cr16]
 | i + 1 => by
  have := cr16_lt f B h i
  have := h i
  simp only [cr16]
  omega
structure Nr (f : Nat → Nat) (B : Nat) : Prop where
 z : f 0 ≤ B
 r : ∀ i, 0 < i → f i < 65536
 t : f 15 < 32768
theorem rnd16_nr (f : Nat → Nat) (C : Nat) (h : cr16 f 16 ≤ C) : Nr (rnd16 f) (65535 + 38 * C + 19) := by
 have h0 := pas16_lt f 0
 have h15 := pas16_lt f 15
 refine ⟨?_, fun i hi => ?_, ?_⟩
 ·simp only [rnd16, if_true]; omega
 ·have hl := pas16_lt f i
  simp only [rnd16, if_neg (show ¬ i = 0 by omega)]
  by_cases e : i = 15
  ·rw [if_pos e]; omega
  ·rw [if_neg e]; exact hl
 ·simp [rnd16]; omega
theorem Nr.cr {f : Nat → Nat} {B : Nat} (h : Nr f B) (hB : B < 4294967296 * 32768) : cr16 f 16 ≤ 1 := by
 have h1 : cr16 f 1 ≤ 2147483648 := by have := h.z; simp only [cr16]; omega
 have h2 : cr16 f 2 ≤ 32768 := by have := h.r 1 (by omega); rw [cr16]; omega
 have h3 : cr16 f 3 ≤ 1 := by have := h.r 2 (by omega); rw [cr16]; omega
 have key : ∀ i, cr16 f (i + 3) ≤ 1 := by
  intro i
  induction i with
  | zero => exact h3
  | succ i ih => have := h.r (i + 3) (by omega); rw [cr16]; omega
 exact key 13
theorem v16_split (f : Nat → Nat) (n : Nat) : v16 f (n + 1) = f 0 + v16 (fun i => if i = 0 then 0 else f i) (n + 1) := by
  cases n with
  | zero => simp [v16]
  | succ n => have := v16_ends f n; rw [this]; conv => rhs; rw [v16]
              simp only [if_neg (show ¬ n + 1 = 0 by omega)]; omega
structure Cn (f : Nat → Nat) : Prop where
 r : ∀ i, f i < 65536
 t : f 15 < 32768
theorem Cn.lt {f : Nat → Nat} (h : Cn f) : v16 f 16 < 57896044618658097711785492504343953926634992332820282019728792003956564819968 := by
 have h1 := v16_lt f h.r 15
 have h2 := h.t
 have h3 : f 15 * 65536 ^ 15 ≤ 32767 * 65536 ^ 15 := Nat.mul_le_mul_right _ (by omega)
 have e : v16 f 16 = v16 f 15 + f 15 * 65536 ^ 15 := rfl
 rw [e, show (57896044618658097711785492504343953926634992332820282019728792003956564819968 : Nat) = 32768 * 65536 ^ 15 from by decide +kernel]
 generalize 65536 ^ 15 = X at *
 omega
theorem rnd_third {f : Nat → Nat} (h : Nr f 65592) : Cn (rnd16 f) := by
  have hc : cr16 f 16 ≤ 1 := h.cr (by omega)
  have hv : v16 f 16 < 57896044618658097711785492504343953926634992332820282019728792003956564819968 + 57 := by
    by_cases hz : f 0 < 65536
    · have hcn : Cn f := ⟨fun i => by by_cases h0 : i = 0
                                      · subst h0; exact hz
                                      · exact h.r i (by omega), h.t⟩
      have := hcn.lt
      omega
    · have e := v16_split f 15
      have hcn : Cn (fun i => if i = 0 then 65535 else f i) := ⟨fun i => by by_cases h0 : i = 0
                                                                            · simp [h0]
                                                                            · simp only [if_neg h0]; exact h.r i (by omega), by simp; exact h.t⟩
      have h1 := hcn.lt
      have e1 := v16_split (fun i => if i = 0 then 65535 else f i) 15
      have e2 : v16 (fun i => if i = 0 then 0 else (fun i => if i = 0 then 65535 else f i) i) (15 + 1) = v16 (fun i => if i = 0 then 0 else f i) (15 + 1) := by
        apply v16_congr; intro i _; by_cases h0 : i = 0 <;> simp [h0]
      rw [e2] at e1
      simp only [if_true] at e1
      have hz2 := h.z
      simp only [show 15 + 1 = 16 from rfl] at *
      omega
  have hp := pas16_v f 16
  have hpl := v16_lt (pas16 f) (pas16_lt f) 15
  have e15 : v16 (pas16 f) 16 = v16 (pas16 f) 15 + pas16 f 15 * 65536 ^ 15 := rfl
  have h15 := pas16_lt f 15
  have hsp := v16_ends (pas16 f) 14
  have h0 := pas16_lt f 0
  simp only [show 14 + 1 = 15 from rfl, show 14 + 2 = 16 from rfl] at hsp
  have hc0 : cr16 f 16 = 0 := by
    simp only [Nat.reducePow] at *
    omega
  have key : pas16 f 0 + 38 * cr16 f 16 + 19 * (pas16 f 15 / 32768) < 65536 := by
    rw [hc0]
    by_cases hq : pas16 f 15 < 32768
    · omega
    · have hz : pas16 f 0 < 57 := by
        simp only [Nat.reducePow] at *
        omega
      omega
  refine ⟨fun i => ?_, ?_⟩
  · by_cases e0 : i = 0
    · subst e0; simp only [rnd16, if_true]; exact key
    · simp only [rnd16, if_neg e0]
      by_cases e : i = 15
      · rw [if_pos e]; omega
      · rw [if_neg e]; exact pas16_lt f i
  · simp [rnd16]; omega
def fin16 (f : Nat → Nat) : Nat → Nat := rnd16 (rnd16 (rnd16 f))
theorem fin16_ok (f : Nat → Nat) (h : ∀ i, f i ≤ 17592186044416) : Cn (fin16 f) ∧ v16 (fin16 f) 16 % Pq = v16 f 16 % Pq := by
 have h1 := rnd16_nr f _ (cr16_lt f _ h 16)
 have h2 := rnd16_nr (rnd16 f) 1 (h1.cr (by omega))
 exact ⟨rnd_third h2, by unfold fin16; rw [rnd16_mod, rnd16_mod, rnd16_mod]⟩
def d16 (n i : Nat) : Nat := n / 65536 ^ i % 65536
theorem d16_lt (n i : Nat) : d16 n i < 65536 := Nat.mod_lt _ (by omega)
theorem d16_of (f : Nat → Nat) (h : ∀ i, f i < 65536) : ∀ n i, i < n → d16 (v16 f n) i = f i
 | 0, i, hi => by omega
 | n + 1, i, hi => by
  have hl := v16_lt f h n
  have hp : 0 < 65536 ^ i := Nat.pow_pos (by omega)
  by_cases e : i = n
  ·subst e
   unfold d16
   rw [v16, Nat.add_mul_div_right _ _ hp, Nat.div_eq_of_lt hl, Nat.zero_add, Nat.mod_eq_of_lt (h i)]
  ·have ih := d16_of f h n i (by omega)
   rw [← ih]
   unfold d16
   rw [v16]
   obtain ⟨j, hj⟩ : ∃ j, n = i + 1 + j := ⟨n - (i + 1), by omega⟩
   have e2 : f n * 65536 ^ n = (f n * 65536 ^ j * 65536) * 65536 ^ i := by
    rw [hj, Nat.pow_add, Nat.pow_add, Nat.pow_one]; grind
   rw [e2, Nat.add_mul_div_right _ _ hp, Nat.add_mul_mod_self_right]
theorem d16_val (x : Nat) : ∀ n, v16 (d16 x) n = x % 65536 ^ n
 | 0 => by simp [v16, Nat.mod_one]
 | n + 1 => by
  rw [v16, d16_val x n, Nat.pow_succ, Nat.mod_mul]
  unfold d16
  rw [Nat.mul_comm (65536 ^ n)]
theorem less16 (x y i : Nat) (h : x / 65536 ^ (i + 1) = y / 65536 ^ (i + 1)) (hne : d16 x i ≠ d16 y i) : decide (x < y) = decide (d16 x i < d16 y i) := by
 have hp : 0 < 65536 ^ i := Nat.pow_pos (by omega)
 unfold d16 at *
 rw [Nat.pow_succ, ← Nat.div_div_eq_div_mul, ← Nat.div_div_eq_div_mul] at h
 have ex := Nat.div_add_mod x (65536 ^ i)
 have ey := Nat.div_add_mod y (65536 ^ i)
 have hx := Nat.mod_lt x hp
 have hy := Nat.mod_lt y hp
 generalize x / 65536 ^ i = a at *
 generalize y / 65536 ^ i = b at *
 generalize x % 65536 ^ i = r at *
 generalize y % 65536 ^ i = s at *
 generalize 65536 ^ i = X at *
 have key : x < y ↔ a < b := by
  constructor
  ·intro hlt
   by_cases hab : a < b
   ·exact hab
   ·exfalso
    have : b + 1 ≤ a ∨ a = b := by omega
    rcases this with h1 | h1
    ·have := Nat.mul_le_mul_left X h1
     rw [Nat.mul_add, Nat.mul_one] at this
     omega
    ·subst h1; exact hne rfl
  ·intro hab
   have := Nat.mul_le_mul_left X (show a + 1 ≤ b from hab)
   rw [Nat.mul_add, Nat.mul_one] at this
   omega
 by_cases hab : a < b
 ·rw [decide_eq_true (key.2 hab), decide_eq_true]; omega
 ·rw [decide_eq_false (fun hh => hab (key.1 hh)), decide_eq_false]; omega
theorem same16 (x y i : Nat) (h : x / 65536 ^ (i + 1) = y / 65536 ^ (i + 1)) (he : d16 x i = d16 y i) : x / 65536 ^ i = y / 65536 ^ i := by
 unfold d16 at he
 rw [Nat.pow_succ, ← Nat.div_div_eq_div_mul, ← Nat.div_div_eq_div_mul] at h
 omega
end Go.Proofs.YtielgpefoameiaaGreat
namespace Go.Proofs.YtielgpefoameiaaGreat
open Go.RowKit
def primeF (i : Nat) : Nat := if i = 0 then 65517 else if i = 15 then 32767 else 65535
theorem primeF_d16 : ∀ i : Fin 16, primeF i.val = d16 Pq i.val := by decide +kernel
theorem row16 (f : Nat → Value) : row 16 f = [f 0, f 1, f 2, f 3, f 4, f 5, f 6, f 7, f 8, f 9, f 10, f 11, f 12, f 13, f 14, f 15] := rfl
set_option maxHeartbeats 1000000 in
theorem rprime_any (w : World) : Calls Tryz.prog 125 #[] w fun e w' => e = .returned (.agg #[.int .u64 (primeF 0 : Nat), .int .u64 (primeF 1 : Nat), .int .u64 (primeF 2 : Nat), .int .u64 (primeF 3 : Nat), .int .u64 (primeF 4 : Nat), .int .u64 (primeF 5 : Nat), .int .u64 (primeF 6 : Nat), .int .u64 (primeF 7 : Nat), .int .u64 (primeF 8 : Nat), .int .u64 (primeF 9 : Nat), .int .u64 (primeF 10 : Nat), .int .u64 (primeF 11 : Nat), .int .u64 (primeF 12 : Nat), .int .u64 (primeF 13 : Nat), .int .u64 (primeF 14 : Nat), .int .u64 (primeF 15 : Nat)]) ∧ Below w.heap.size w w' := by
 go_enter Tryz.func125, Tryz.ntmps125
 go_wp2
 refine wp_loop_rounds 17 ?_
 iterate 16 (rw [rounds_succ]; go_wp2; (try go_region); go_wp2)
 rw [rounds_succ]
 go_wp2
 exact bodyPost_ret (v := .agg #[.int .u64 65517, .int .u64 65535, .int .u64 65535, .int .u64 65535, .int .u64 65535, .int .u64 65535, .int .u64 65535, .int .u64 65535, .int .u64 65535, .int .u64 65535, .int .u64 65535, .int .u64 65535, .int .u64 65535, .int .u64 65535, .int .u64 65535, .int .u64 32767]) (by simp [results, Tryz.results125, go_sem]) rfl ⟨rfl, belowBy⟩
theorem top16 (x : Nat) (h : x < 65536 ^ 16) : x / 65536 ^ 16 = Pq / 65536 ^ 16 := by
 rw [Nat.div_eq_of_lt h, Nat.div_eq_of_lt (by decide +kernel)]
set_option maxHeartbeats 1000000 in
theorem rleast_any (x : Nat) (hx : x < 65536 ^ 16) (w : World) : Calls Tryz.prog 129 #[.agg #[.int .u64 (d16 x 0 : Nat), .int .u64 (d16 x 1 : Nat), .int .u64 (d16 x 2 : Nat), .int .u64 (d16 x 3 : Nat), .int .u64 (d16 x 4 : Nat), .int .u64 (d16 x 5 : Nat), .int .u64 (d16 x 6 : Nat), .int .u64 (d16 x 7 : Nat), .int .u64 (d16 x 8 : Nat), .int .u64 (d16 x 9 : Nat), .int .u64 (d16 x 10 : Nat), .int .u64 (d16 x 11 : Nat), .int .u64 (d16 x 12 : Nat), .int .u64 (d16 x 13 : Nat), .int .u64 (d16 x 14 : Nat), .int .u64 (d16 x 15 : Nat)]] w fun e w' => e = .returned (.bool (decide (x < Pq))) ∧ Below w.heap.size w w' := by
 have HT := Lib.hid (top16 x hx)
 clear hx
 go_enter Tryz.func129, Tryz.ntmps129
 go_upto_region 2 with (go_at_call 125; go_must (refine (rprime_any _).mono ?_; rintro e w1 ⟨rfl, hb⟩; have hA := (Blk.new w #[.int .u64 (d16 x 0 : Nat),.int .u64 (d16 x 1 : Nat),.int .u64 (d16 x 2 : Nat),.int .u64 (d16 x 3 : Nat),.int .u64 (d16 x 4 : Nat),.int .u64 (d16 x 5 : Nat),.int .u64 (d16 x 6 : Nat),.int .u64 (d16 x 7 : Nat),.int .u64 (d16 x 8 : Nat),.int .u64 (d16 x 9 : Nat),.int .u64 (d16 x 10 : Nat),.int .u64 (d16 x 11 : Nat),.int .u64 (d16 x 12 : Nat),.int .u64 (d16 x 13 : Nat),.int .u64 (d16 x 14 : Nat),.int .u64 (d16 x 15 : Nat)] 62).below' hb; have hbel : Below w.heap.size w w1 := Below.call belowBy hb; clear hb))
 refine wp_gen (fun W => Blk W w.heap.size (row 16 (fV (d16 x))) 62 ∧ Blk W w1.heap.size (row 16 (fV primeF)) 62 ∧ Below w.heap.size w W) ?_ (fun W0 hW => ?_)
 ·rw [row16, row16]
  exact ⟨hA.alloc _, Blk.new w1 _ _, belowBy⟩
 clear hA hbel
 generalize w1.heap.size = g at *
 obtain ⟨hA, hP, hbel⟩ := hW
 clear w1
 go_wp2
 go_loopw [4] (fun i wr => ∃ k : Nat, k ≤ 16 ∧ i = .int .i64 ((k : Int) - 1) ∧ x / 65536 ^ k = Pq / 65536 ^ k ∧ Blk wr w.heap.size (row 16 (fV (d16 x))) 62 ∧ Blk wr g (row 16 (fV primeF)) 62 ∧ Below w.heap.size w wr) (fun i _ => (intOf i + 1).toNat)
 case atStart => exact ⟨16, by omega, rfl, HT.out, hA, hP, hbel⟩
 case round =>
  clear hA hP hbel W0
  obtain ⟨k, hk, rfl, hq, hA, hP, hbel⟩ := hrel
  by_cases hk0 : k = 0
  ·subst hk0
   rw [Nat.pow_zero, Nat.div_one, Nat.div_one] at hq
   have HD : Hid (decide (x < Pq) = false) := Lib.hid (by rw [hq]; simp)
   clear hq hA hP
   rw [show (((0 : Nat) : Int) - 1) = -1 from rfl]
   go_wp2
   go_ret
   exact ⟨ret_bool HD.out.symm, hbel⟩
  ·obtain ⟨j, rfl⟩ : ∃ j, k = j + 1 := ⟨k - 1, by omega⟩
   rw [show (((j + 1 : Nat) : Int) - 1) = (j : Int) from by omega]
   have hj : j < 16 := by omega
   have ca : wr.cell? ⟨w.heap.size, j, none⟩ = some (.int .u64 (d16 x j : Nat)) := hA.at hj
   have cp : wr.cell? ⟨g, j, none⟩ = some (.int .u64 (d16 Pq j : Nat)) := by have := hP.at hj; rw [this]; unfold fV; rw [primeF_d16 ⟨j, hj⟩]
   have HA := Lib.hid hA; have HP := Lib.hid hP; have HQ := Lib.hid hq
   clear hA hP hq
   by_cases he : d16 x j = d16 Pq j
   ·have HE := Lib.hid (same16 x Pq j HQ.out he)
    have hne : ((d16 x j : Nat) != (d16 Pq j : Nat)) = false := by simp [he]
    have hneI : (((d16 x j : Nat) : Int) != ((d16 Pq j : Nat) : Int)) = false := by simp [he]
    generalize ((d16 x j : Nat) : Int) = A at *
    generalize ((d16 Pq j : Nat) : Int) = B at *
    clear he hne
    go_wp2
    go_region
    go_wp2
    go_roundw
    case rel => exact ⟨j, by omega, rfl, HE.out, HA.out, HP.out, belowBy⟩
    case measure => simp [intOf] <;> omega
   ·have HE := Lib.hid (less16 x Pq j HQ.out he)
    have hneI : (((d16 x j : Nat) : Int) != ((d16 Pq j : Nat) : Int)) = true := by simp; omega
    have hlt : decide (((d16 x j : Nat) : Int) < ((d16 Pq j : Nat) : Int)) = decide (d16 x j < d16 Pq j) := by simp
    obtain ⟨q, hq⟩ : ∃ q, decide (x < Pq) = q := ⟨_, rfl⟩
    rw [hq] at HE
    rw [← HE.out] at hlt
    have HF := Lib.hid hq
    generalize ((d16 x j : Nat) : Int) = A at *
    generalize ((d16 Pq j : Nat) : Int) = B at *
    clear he hq HE
    go_wp2
    go_region
    go_wp2
    go_region
    go_wp2
    go_ret
    exact ⟨ret_bool HF.out.symm, belowBy⟩
theorem one_row (n : Nat) (f : Nat → Nat) : ∀ v ∈ row n (fV f), v.oneCell' = true := fun v hv => by
  simp [row] at hv
  obtain ⟨i, _, rfl⟩ := hv
  rfl
theorem st_row {B n : Nat} {w0 w : World} {g E : Nat} {old : List Value} (h : Blk w g old E) (hl : old.length = n) (hb : Below B w0 w) (hg : B ≤ g) (f : Nat → Nat) :
    ∃ W, (storeCells ⟨g, 0, none⟩ (row n (fV f))).run Tryz.prog w = .ok () W ∧ Blk W g (row n (fV f)) E ∧ Below B w0 W ∧ W.heap.size = w.heap.size ∧ ∀ k E' cs, k ≠ g → Blk w k cs E' → Blk W k cs E' :=
  ⟨_, st_blk h (by rw [row_len, hl]) (one_row n f), h.row _, below_setRow hb hg _, size_setRow _ _ _, fun _ _ _ hk hB => hB.rowOther _ hk _⟩
theorem infoFe (f : Nat → Nat) : (Tryz.prog.info? 62).map (·.size) = some (row 16 (fV f)).length := by rw [row_len]; kernel_rfl
theorem infoFeA (f : Nat → Nat) : (Tryz.prog.info? 62).map (·.size) = some (row 16 (fV f)).toArray.size := by rw [List.size_toArray]; exact infoFe f
theorem st_new (w : World) (f : Nat → Nat) : (storeCells ⟨w.heap.size, 0, none⟩ (row 16 (fV f))).run Tryz.prog (w.alloc (.cells #[.int .u64 0, .int .u64 0, .int .u64 0, .int .u64 0, .int .u64 0, .int .u64 0, .int .u64 0, .int .u64 0, .int .u64 0, .int .u64 0, .int .u64 0, .int .u64 0, .int .u64 0, .int .u64 0, .int .u64 0, .int .u64 0] 62)) = .ok () (w.alloc (.cells (row 16 (fV f)).toArray 62)) := by
  have h := st_blk (Blk.new w #[.int .u64 0, .int .u64 0, .int .u64 0, .int .u64 0, .int .u64 0, .int .u64 0, .int .u64 0, .int .u64 0, .int .u64 0, .int .u64 0, .int .u64 0, .int .u64 0, .int .u64 0, .int .u64 0, .int .u64 0, .int .u64 0] 62) (cs := row 16 (fV f)) rfl (one_row 16 f)
  rw [World.setRow_alloc_new] at h
  exact h
theorem rleastB (x : Nat) (hx : x < 65536 ^ 16) (b : Bool) (hp : decide (x < Pq) = b) (w : World) : Calls Tryz.prog 129 #[.agg (row 16 (fV (d16 x))).toArray] w fun e w' => e = .returned (.bool b) ∧ Below w.heap.size w w' := by
 refine (rleast_any x hx w).mono ?_
 rintro e w' ⟨rfl, hb⟩
 exact ⟨ret_bool hp, hb⟩
theorem rprimeA (w : World) : Calls Tryz.prog 125 #[] w fun e w' => e = .returned (.agg (row 16 (fV primeF)).toArray) ∧ Below w.heap.size w w' := rprime_any w
def it3 (f : Nat → Nat) : Nat → Nat → Nat
 | 0 => f
 | k + 1 => rnd16 (it3 f k)
theorem it3_three (f : Nat → Nat) : it3 f 3 = fin16 f := rfl
theorem it3_le (f : Nat → Nat) (h : ∀ i, f i ≤ 17592186044416) : ∀ k i, it3 f k i ≤ 17592186044416
 | 0, i => h i
 | k + 1, i => by
  have hn := rnd16_nr (it3 f k) _ (cr16_lt (it3 f k) _ (it3_le f h k) 16)
  show rnd16 (it3 f k) i ≤ _
  by_cases e : i = 0
  ·subst e; have := hn.z; omega
  ·have := hn.r i (by omega); omega
def pV (g : Nat → Nat) (j i : Nat) : Nat := if i < j then pas16 g i else g i
theorem pV_zero (g : Nat → Nat) : row 16 (fV (pV g 0)) = row 16 (fV g) := row_ext fun i _ => by simp [fV, pV]
theorem pV_full (g : Nat → Nat) : row 16 (fV (pV g 16)) = row 16 (fV (pas16 g)) := row_ext fun i hi => by simp [fV, pV, hi]
theorem pV_step (g : Nat → Nat) (j : Nat) : (row 16 (fV (pV g j))).set j (.int .u64 (pas16 g j : Nat)) = row 16 (fV (pV g (j + 1))) := by
 refine row_set j _ (by simp [fV, pV]) (fun i _ hi => ?_)
 unfold fV pV
 by_cases h : i < j
 ·rw [if_pos h, if_pos (by omega)]
 ·rw [if_neg h, if_neg (by omega)]
theorem and16 (x : Nat) (h : x < 18446744073709551616) : bits BinOp.and IntKind.u64 (x : Int) 65535 = ((x % 65536 : Nat) : Int) := by
 rw [show (65535 : Int) = ((65535 : Nat) : Int) from rfl, u64_and_nat x 65535 h (by omega), show x &&& 65535 = x % 65536 from Nat.and_two_pow_sub_one_eq_mod x 16]
theorem and15 (x : Nat) (h : x < 18446744073709551616) : bits BinOp.and IntKind.u64 (x : Int) 32767 = ((x % 32768 : Nat) : Int) := by
 rw [show (32767 : Int) = ((32767 : Nat) : Int) from rfl, u64_and_nat x 32767 h (by omega), show x &&& 32767 = x % 32768 from Nat.and_two_pow_sub_one_eq_mod x 15]
theorem step16 (g : Nat → Nat) (j : Nat) (h : g j + cr16 g j < 18446744073709551616) :
  ∃ s : Nat, IntKind.u64.wrap ((g j : Nat) + (cr16 g j : Nat) : Int) = (s : Int) ∧ bits BinOp.and IntKind.u64 (s : Int) 65535 = (pas16 g j : Nat) ∧ (s : Int) / 65536 = (cr16 g (j + 1) : Nat) := by
 refine ⟨g j + cr16 g j, by rw [wrapU]; omega, ?_, ?_⟩
 ·rw [and16 _ h]; rfl
 ·rw [cr16]; omega
theorem rnd_row (g : Nat → Nat) : ((row 16 (fV (pas16 g))).set 0 (.int .u64 (rnd16 g 0 : Nat))).set 15 (.int .u64 (rnd16 g 15 : Nat)) = row 16 (fV (rnd16 g)) := by
 apply List.ext_getElem
 ·simp [row]
 ·intro i h1 h2
  have hi : i < 16 := by simpa [row] using h2
  rw [List.getElem_set, List.getElem_set]
  by_cases e : 15 = i
  ·subst e; rw [if_pos rfl]; simp [row, fV]
  ·rw [if_neg e]
   by_cases e0 : 0 = i
   ·subst e0; rw [if_pos rfl]; simp [row, fV]
   ·rw [if_neg e0]
    simp only [row, List.getElem_map, List.getElem_range, fV]
    congr 2
    simp only [rnd16, if_neg (show ¬ i = 0 by omega), if_neg (show ¬ i = 15 by omega)]
theorem rnd_facts (g : Nat → Nat) (h : ∀ i, g i ≤ 17592186044416) : ∃ m1 m2 q m3 : Nat,
  IntKind.u64.wrap (38 * ((cr16 g 16 : Nat) : Int)) = (m1 : Int) ∧ IntKind.u64.wrap (((pas16 g 0 : Nat) : Int) + (m1 : Int)) = (m2 : Int) ∧ ((pas16 g 15 : Nat) : Int) / 32768 = (q : Int) ∧
  IntKind.u64.wrap (19 * (q : Int)) = (m3 : Int) ∧ IntKind.u64.wrap ((m2 : Int) + (m3 : Int)) = (rnd16 g 0 : Nat) ∧ bits BinOp.and IntKind.u64 ((pas16 g 15 : Nat) : Int) 32767 = (rnd16 g 15 : Nat) := by
 have h1 := cr16_lt g _ h 16
 have h2 := pas16_lt g 0
 have h3 := pas16_lt g 15
 refine ⟨38 * cr16 g 16, pas16 g 0 + 38 * cr16 g 16, pas16 g 15 / 32768, 19 * (pas16 g 15 / 32768), ?_, ?_, ?_, ?_, ?_, ?_⟩
 ·rw [wrapU]; omega
 ·rw [wrapU]; omega
 ·omega
 ·rw [wrapU]; omega
 ·rw [wrapU]; simp only [rnd16, if_true]; omega
 ·rw [and15 _ (by omega)]; simp [rnd16]
theorem over16 : ∀ d : Fin 19, ∀ i : Fin 16, d16 (Pq + d.val) i.val = primeF i.val + d16 d.val i.val := by decide +kernel
def qV (y d j i : Nat) : Nat := if i < j then d16 d i else d16 y i
theorem qV_zero (y d : Nat) : row 16 (fV (qV y d 0)) = row 16 (fV (d16 y)) := row_ext fun i _ => by simp [fV, qV]
theorem qV_full (y d : Nat) : row 16 (fV (qV y d 16)) = row 16 (fV (d16 d)) := row_ext fun i hi => by simp [fV, qV, hi]
theorem qV_step (y d j : Nat) : (row 16 (fV (qV y d j))).set j (.int .u64 (d16 d j : Nat)) = row 16 (fV (qV y d (j + 1))) := by
 refine row_set j _ (by simp [fV, qV]) (fun i _ hi => ?_)
 unfold fV qV
 by_cases h : i < j
 ·rw [if_pos h, if_pos (by omega)]
 ·rw [if_neg h, if_neg (by omega)]
theorem off16 {y d : Nat} (hd : d < 19) (hy : y = Pq + d) (j : Nat) (hj : j < 16) : ∃ s : Nat,
  IntKind.u64.wrap ((d16 y j : Nat) + 65536 : Int) = ((primeF j + s : Nat) : Int) ∧ IntKind.u64.wrap (((primeF j + s : Nat) : Int) - (primeF j : Nat)) = (s : Int) ∧ IntKind.u64.wrap (s : Int) = (s : Int) ∧ bits BinOp.and IntKind.u64 (s : Int) 65535 = (d16 d j : Nat) ∧ IntKind.u64.wrap (1 - (s : Int) / 65536) = 0 := by
 have h1 := over16 ⟨d, hd⟩ ⟨j, hj⟩
 have h2 := d16_lt d j
 have h3 := d16_lt y j
 rw [← hy] at h1
 simp only at h1
 refine ⟨65536 + d16 d j, ?_, ?_, ?_, ?_, ?_⟩
 ·rw [wrapU]; omega
 ·rw [wrapU]; omega
 ·rw [wrapU]; omega
 ·rw [and16 _ (by omega)]; omega
 ·rw [wrapU]; omega
set_option maxHeartbeats 2000000 in
theorem rcarried_any (f : Nat → Nat) (h : ∀ i, f i ≤ 17592186044416) (w : World) :
  Calls Tryz.prog 117 #[.agg (row 16 (fV f)).toArray] w fun e w' => e = .returned (.agg (row 16 (fV (d16 (v16 f 16 % Pq)))).toArray) ∧ Below w.heap.size w w' := by
 have HLE := Lib.hid (it3_le f h)
 have hok := fin16_ok f h
 generalize v16 f 16 % Pq = R at *
 have HOK := Lib.hid hok
 clear h hok
 go_enter Tryz.func117, Tryz.ntmps117
 go_upto_region 1 with fail
 refine wp_gen (fun W => Blk W w.heap.size (row 16 (fV (it3 f 0))) 62 ∧ Blk W (w.heap.size + 1) [.int .u64 0, .int .u64 0, .int .u64 0, .int .u64 0, .int .u64 0, .int .u64 0, .int .u64 0, .int .u64 0, .int .u64 0, .int .u64 0, .int .u64 0, .int .u64 0, .int .u64 0, .int .u64 0, .int .u64 0, .int .u64 0] 62 ∧ Below w.heap.size w W) ?_ (fun W0 hW => ?_)
 ·rw [row16]
  exact ⟨(Blk.new w _ _).alloc _, Blk.new' (by simp), belowBy⟩
 obtain ⟨hA, hO, hbel⟩ := hW
 go_wp2
 go_loopw [3] (fun i wr => ∃ k : Nat, k ≤ 3 ∧ i = .int .i64 k ∧ Blk wr w.heap.size (row 16 (fV (it3 f k))) 62 ∧ Blk wr (w.heap.size + 1) [.int .u64 0, .int .u64 0, .int .u64 0, .int .u64 0, .int .u64 0, .int .u64 0, .int .u64 0, .int .u64 0, .int .u64 0, .int .u64 0, .int .u64 0, .int .u64 0, .int .u64 0, .int .u64 0, .int .u64 0, .int .u64 0] 62 ∧ Below w.heap.size w wr) (fun i _ => 3 - (intOf i).toNat)
 case atStart => exact ⟨0, by omega, rfl, hA, hO, hbel⟩
 case round =>
  clear hA hO hbel W0
  obtain ⟨k, hk, rfl, hA, hO, hbel⟩ := hrel
  by_cases hlt : k < 3
  ·have hd : decide ((k : Int) < 3) = true := by simp; omega
   have hle : ∀ i, it3 f k i ≤ 17592186044416 := HLE.out k
   have hcr := cr16_lt (it3 f k) _ hle
   obtain ⟨g, hg⟩ : ∃ g, g = it3 f k := ⟨_, rfl⟩
   rw [← hg] at hle hcr hA
   have HG : Hid (it3 f (k + 1) = rnd16 g) := Lib.hid (by rw [hg]; rfl)
   have HS := Lib.hid (fun j => step16 g j (by have := hle j; have := hcr j; omega))
   have HF := Lib.hid (rnd_facts g hle)
   clear hg hle hcr
   obtain ⟨wo, rfl⟩ : ∃ wo : World, wo = wr := ⟨_, rfl⟩
   go_wp2
   go_loopw [4, 5] (fun c i wr => ∃ j : Nat, j ≤ 16 ∧ i = .int .i64 j ∧ c = .int .u64 (cr16 g j : Nat) ∧ Blk wr w.heap.size (row 16 (fV (pV g j))) 62 ∧ Blk wr (w.heap.size + 1) [.int .u64 0, .int .u64 0, .int .u64 0, .int .u64 0, .int .u64 0, .int .u64 0, .int .u64 0, .int .u64 0, .int .u64 0, .int .u64 0, .int .u64 0, .int .u64 0, .int .u64 0, .int .u64 0, .int .u64 0, .int .u64 0] 62 ∧ Below w.heap.size w wr) (fun _ i _ => 16 - (intOf i).toNat)
   case atStart => exact ⟨0, by omega, rfl, rfl, by rw [pV_zero]; exact hA, hO, hbel⟩
   case round =>
    clear hA hO hbel
    obtain ⟨j, hj, rfl, rfl, hA, hO, hbel⟩ := hrel
    by_cases hlj : j < 16
    ·obtain ⟨s, hs, ha, hd2⟩ := HS.out j
     have hcell : wr.cell? ⟨w.heap.size, j, none⟩ = some (.int .u64 (g j : Nat)) := by have := hA.at hlj; rw [this]; simp [fV, pV]
     have hfr := hA.frozen j
     have hA2 := hA.set j (.int .u64 (pas16 g j : Nat))
     rw [pV_step] at hA2
     have HA := Lib.hid hA2
     have HO := Lib.hid (hO.other ⟨w.heap.size, j, none⟩ (by simp) (.int .u64 (pas16 g j : Nat)))
     have HD := Lib.hid hd2
     clear hA hA2 hO hd2
     go_wp2
     go_roundw
     case rel => exact ⟨j + 1, by omega, by go_num, by rw [HD.out], HA.out, HO.out, belowBy⟩
     case measure => simp [intOf]; omega
    ·obtain rfl : j = 16 := by omega
     rw [pV_full] at hA
     obtain ⟨m1, m2, q, m3, f1, f2, f3, f4, f5, f6⟩ := HF.out
     have c0 : wr.cell? ⟨w.heap.size, 0, none⟩ = some (.int .u64 (pas16 g 0 : Nat)) := hA.at (by omega)
     have c15 : wr.cell? ⟨w.heap.size, 15, none⟩ = some (.int .u64 (pas16 g 15 : Nat)) := hA.at (by omega)
     have hfr := hA.frozen
     have hA2 := (hA.set 0 (.int .u64 (rnd16 g 0 : Nat))).set 15 (.int .u64 (rnd16 g 15 : Nat))
     rw [rnd_row] at hA2
     have HA := Lib.hid hA2
     have HO := Lib.hid ((hO.other ⟨w.heap.size, 0, none⟩ (by simp) (.int .u64 (rnd16 g 0 : Nat))).other ⟨w.heap.size, 15, none⟩ (by simp) (.int .u64 (rnd16 g 15 : Nat)))
     clear hA hA2 hO hlj hj
     go_wp2
     go_roundw
     case rel => exact ⟨k + 1, by omega, by go_num, by rw [HG.out]; exact HA.out, HO.out, belowBy⟩
     case measure => simp [intOf]; omega
  ·obtain rfl : k = 3 := by omega
   obtain ⟨hcn, hmod⟩ := HOK.out
   rw [it3_three] at hA
   have hlt2 := hcn.lt
   have hrow : row 16 (fV (fin16 f)) = row 16 (fV (d16 (v16 (fin16 f) 16))) := row_ext fun i hi => by
    unfold fV; rw [d16_of (fin16 f) hcn.r 16 i hi]
   rw [hrow] at hA
   have HR := Lib.hid hmod
   clear hmod
   have HOK2 := HOK
   clear HOK HOK2
   generalize v16 (fin16 f) 16 = y at *
   clear hrow hcn hlt hk HLE
   have HL2 := Lib.hid hlt2
   have HY : Hid (y < 65536 ^ 16) := Lib.hid (Nat.lt_trans hlt2 (by decide +kernel))
   go_wp2
   go_loopg [9] 1 (fun n u wr => ∃ z : Nat, z < 65536 ^ 16 ∧ z % Pq = R ∧ ((n = 1 ∧ ∃ d, d < 19 ∧ z = Pq + d) ∨ z < Pq) ∧ Blk wr w.heap.size (row 16 (fV (d16 z))) 62 ∧ Blk wr (w.heap.size + 1) [.int .u64 0, .int .u64 0, .int .u64 0, .int .u64 0, .int .u64 0, .int .u64 0, .int .u64 0, .int .u64 0, .int .u64 0, .int .u64 0, .int .u64 0, .int .u64 0, .int .u64 0, .int .u64 0, .int .u64 0, .int .u64 0] 62 ∧ Below w.heap.size w wr)
   case atStart =>
    by_cases hp : y < Pq
    ·exact ⟨y, HY.out, HR.out, .inr hp, hA, hO, hbel⟩
    ·refine ⟨y, HY.out, HR.out, .inl ⟨rfl, y - Pq, ?_, ?_⟩, hA, hO, hbel⟩
     ·have := HL2.out; unfold Pq at *; omega
     ·omega
   case round =>
    clear hA hO hbel
    obtain ⟨z, hz, hzR, hcase, hA, hO, hbel⟩ := hrel
    have hAr := hA.range
    have HA := Lib.hid hA; have HO := Lib.hid hO
    have HZ := Lib.hid hz; have HZR := Lib.hid hzR
    clear hA hO hz hzR HL2 HR HY
    by_cases hp : z < Pq
    ·have HD : Hid (decide (z < Pq) = true) := Lib.hid (decide_eq_true hp)
     have HM : Hid (R = z) := Lib.hid (by rw [← HZR.out, Nat.mod_eq_of_lt hp])
     clear hp hcase
     go_wp2_with (first | (refine wpList_load_mid rfl 62 (.tmp 1) rfl w.heap.size 0 rfl (row 16 (fV (d16 z))) _ hAr Tryz.underlying62 rfl (infoFe _) ?_) | (go_at_call 129; (with_reducible refine (rleastB z HZ.out _ HD.out _).mono ?_; rintro e w2 ⟨rfl, hb⟩; obtain ⟨W3, hst3, hB3, hbel3, _, _⟩ := st_row (n := 16) (HO.out.below' hb) rfl (Below.call hbel hb) (Nat.le_succ _) (d16 z); have hA2 := HA.out.below' hb; clear hAr hb; have hAr := hA2.range; have HB3 := Lib.hid hB3; clear hA2 hB3)))
     refine bodyPost_ret (v := .agg (row 16 (fV (d16 z))).toArray) (results_cell_row Tryz.results117 _ _ (w.heap.size + 1) _ _ _ _ ?_ HB3.out Tryz.underlying62 ?_ (infoFeA _)) ?_ ?_
     ·rfl
     ·rfl
     ·rfl
     ·exact ⟨by rw [HM.out], hbel3⟩
    ·obtain ⟨hgk, d, hd19, hy2⟩ : gk = 1 ∧ ∃ d, d < 19 ∧ z = Pq + d := by
      rcases hcase with ⟨h1, h2⟩ | h2
      ·exact ⟨h1, h2⟩
      ·exact absurd h2 hp
     have HGK := Lib.hid hgk
     have HD : Hid (decide (z < Pq) = false) := Lib.hid (decide_eq_false hp)
     have HD2 : Hid (d < Pq) := Lib.hid (by unfold Pq; omega)
     have HM : Hid (d % Pq = R) := Lib.hid (by rw [← HZR.out, hy2, Nat.add_mod_left])
     have HDL : Hid (d < 65536 ^ 16) := Lib.hid (Nat.lt_trans hd19 (by decide +kernel))
     have HOF := Lib.hid (fun j hj => off16 hd19 hy2 j hj)
     clear hp hd19 hy2 hcase HZR hgk
     have hSN := fun W => st_new W primeF
     go_upto_region 15 with (first | (refine wpList_load_mid rfl 62 (.tmp 1) rfl w.heap.size 0 rfl (row 16 (fV (d16 z))) _ hAr Tryz.underlying62 rfl (infoFe _) ?_) | (go_at_call 129; (with_reducible refine (rleastB z HZ.out _ HD.out _).mono ?_; rintro e w2 ⟨rfl, hb⟩; have HO2 := Lib.hid (HO.out.below' hb); have HA2 := Lib.hid (HA.out.below' hb); have hbel2 := Below.call hbel hb; clear hAr hb)) | (go_at_call 125; (with_reducible refine (rprimeA _).mono ?_; rintro e w3 ⟨rfl, hb⟩; have HO3 := Lib.hid (HO2.out.below' hb); have HA3 := Lib.hid (HA2.out.below' hb); have hbel3 := Below.call hbel2 hb; clear hb)))
     refine wp_gen (fun W => Blk W w.heap.size (row 16 (fV (d16 z))) 62 ∧ Blk W (w.heap.size + 1) [.int .u64 0, .int .u64 0, .int .u64 0, .int .u64 0, .int .u64 0, .int .u64 0, .int .u64 0, .int .u64 0, .int .u64 0, .int .u64 0, .int .u64 0, .int .u64 0, .int .u64 0, .int .u64 0, .int .u64 0, .int .u64 0] 62 ∧ Blk W w3.heap.size (row 16 (fV primeF)) 62 ∧ Below w.heap.size w W) ?_ (fun W0 hW => ?_)
     ·exact ⟨HA3.out.alloc _, HO3.out.alloc _, Blk.new w3 _ _, belowBy⟩
     have hg0 : w.heap.size < w3.heap.size := HA3.out.lt
     clear HA3 HO3 hbel3 HO2 HA2 hbel2 HA HO hbel hSN
     obtain ⟨hA, hO, hP, hbel⟩ := hW
     generalize w3.heap.size = g at *
     clear w3 w2 wr
     go_wp2
     go_loopw [8, 9] (fun c i wr => ∃ j : Nat, j ≤ 16 ∧ i = .int .i64 j ∧ c = .int .u64 0 ∧ Blk wr w.heap.size (row 16 (fV (qV z d j))) 62 ∧ Blk wr (w.heap.size + 1) [.int .u64 0, .int .u64 0, .int .u64 0, .int .u64 0, .int .u64 0, .int .u64 0, .int .u64 0, .int .u64 0, .int .u64 0, .int .u64 0, .int .u64 0, .int .u64 0, .int .u64 0, .int .u64 0, .int .u64 0, .int .u64 0] 62 ∧ Blk wr g (row 16 (fV primeF)) 62 ∧ g ≠ w.heap.size ∧ Below w.heap.size w wr) (fun _ i _ => 16 - (intOf i).toNat)
     case atStart => exact ⟨0, by omega, rfl, rfl, by rw [qV_zero]; exact hA, hO, hP, Nat.ne_of_gt hg0, hbel⟩
     case round =>
      clear hA hO hbel hP hg0
      obtain ⟨j, hj, rfl, rfl, hA, hO, hP, hne, hbel⟩ := hrel
      by_cases hlj : j < 16
      ·obtain ⟨s, s1, s2, s3, s4, s5⟩ := HOF.out j hlj
       have ca : wr.cell? ⟨w.heap.size, j, none⟩ = some (.int .u64 (d16 z j : Nat)) := by have := hA.at hlj; rw [this]; simp [fV, qV]
       have cp : wr.cell? ⟨g, j, none⟩ = some (.int .u64 (primeF j : Nat)) := hP.at hlj
       obtain ⟨t, ht⟩ : ∃ t, t = primeF j + s := ⟨_, rfl⟩
       rw [← ht] at s1 s2
       have hfr := hA.frozen j
       have hA2 := hA.set j (.int .u64 (d16 d j : Nat))
       rw [qV_step] at hA2
       have HA := Lib.hid hA2
       have HO := Lib.hid (hO.other ⟨w.heap.size, j, none⟩ (by simp) (.int .u64 (d16 d j : Nat)))
       have HP := Lib.hid (hP.other ⟨w.heap.size, j, none⟩ (by simpa using Ne.symm hne) (.int .u64 (d16 d j : Nat)))
       have HN := Lib.hid hne
       clear hA hA2 hO hP ht hne
       go_wp2
       go_region
       go_wp2
       go_roundw
       case rel => exact ⟨j + 1, by omega, by go_num, rfl, HA.out.drew, HO.out.drew, HP.out.drew, HN.out, belowBy⟩
       case measure => simp [intOf]; omega
      ·obtain rfl : j = 16 := by omega
       rw [qV_full] at hA
       have HA := Lib.hid hA; have HO := Lib.hid hO
       clear hA hO hP hlj hj
       go_wp2
       go_roundg 0
       case rel => exact ⟨d, HDL.out, HM.out, .inr HD2.out, HA.out, HO.out, hbel⟩
       case measure => have := HGK.out; omega
def v8 (f : Nat → Nat) : Nat → Nat
 | 0 => 0
 | n + 1 => v8 f n + f n * 256 ^ n
theorem v8_leN (l : List UInt8) : ∀ n, n ≤ l.length → v8 (byF l) n = leN (l.take n)
 | 0, _ => by simp [v8, leN]
 | n + 1, h => by
  rw [leN_take l n (by omega), v8, v8_leN l n (by omega)]
  simp [byF, show n < l.length from by omega]
theorem v8_congr {f g : Nat → Nat} : ∀ n, (∀ i, i < n → f i = g i) → v8 f n = v8 g n
 | 0, _ => rfl
 | n + 1, h => by simp only [v8]; rw [v8_congr n (fun i hi => h i (by omega)), h n (by omega)]
theorem v8_lt (f : Nat → Nat) (h : ∀ i, f i < 256) : ∀ n, v8 f n < 256 ^ n
 | 0 => by simp [v8]
 | n + 1 => by
  have ih := v8_lt f h n
  have h1 := h n
  have h2 : f n * 256 ^ n ≤ 255 * 256 ^ n := Nat.mul_le_mul_right _ (by omega)
  simp only [v8, Nat.pow_succ]
  omega
def two (f : Nat → Nat) (i : Nat) : Nat := f (2 * i) + 256 * f (2 * i + 1)
theorem v16_two (f : Nat → Nat) : ∀ n, v16 (two f) n = v8 f (2 * n)
 | 0 => rfl
 | n + 1 => by
  show v16 (two f) n + two f n * 65536 ^ n = v8 f (2 * n) + f (2 * n) * 256 ^ (2 * n) + f (2 * n + 1) * 256 ^ (2 * n + 1)
  rw [v16_two f n, Nat.pow_succ, Nat.pow_mul, show 256 ^ 2 = 65536 from rfl, two]
  grind
def msk (f : Nat → Nat) (i : Nat) : Nat := if i = 31 then f 31 % 128 else f i
theorem msk_lt {f : Nat → Nat} (h : ∀ i, f i < 256) (i : Nat) : msk f i < 256 := by
 unfold msk; have := h i; have := h 31; split <;> omega
theorem v8_msk (f : Nat → Nat) (h : ∀ i, f i < 256) : v8 (msk f) 32 = v8 f 32 % 57896044618658097711785492504343953926634992332820282019728792003956564819968 := by
 have e : v8 (msk f) 31 = v8 f 31 := v8_congr 31 fun i hi => by unfold msk; rw [if_neg (by omega)]
 have h1 : v8 f 31 < 452312848583266388373324160190187140051835877600158453279131187530910662656 := v8_lt f h 31
 show v8 (msk f) 31 + msk f 31 * 256 ^ 31 = (v8 f 31 + f 31 * 256 ^ 31) % _
 rw [e]
 simp only [msk, if_true]
 have h2 := h 31
 generalize v8 f 31 = A at *
 generalize f 31 = b at *
 simp only [show (256 : Nat) ^ 31 = 452312848583266388373324160190187140051835877600158453279131187530910662656 from by decide +kernel]
 omega
theorem feF_two (l : List UInt8) : v16 (two (msk (byF (first l 32)))) 16 % Pq = (feF l).val := by
 rw [v16_two, v8_msk _ (byF_lt _), v8_leN _ _ (by rw [first_len]; omega), List.take_of_length_le (by rw [first_len]; omega)]
 rfl
theorem msk_row (f : Nat → Nat) : (row 32 (uV f)).set 31 (.int .u8 (msk f 31 : Nat)) = row 32 (uV (msk f)) :=
 row_set 31 _ rfl (fun i _ hi => by simp only [uV, msk, if_neg hi])
theorem and7 (x : Nat) (h : x < 256) : bits BinOp.and IntKind.u8 (x : Int) 127 = ((x % 128 : Nat) : Int) := by
 revert h; revert x; decide +kernel
theorem lim_or (x y : Nat) (hx : x < 256) (hy : y < 256) : bits BinOp.or IntKind.u64 (x : Int) ((y : Int) * 256) = ((x + 256 * y : Nat) : Int) := by
 rw [show ((y : Int) * 256) = ((y * 256 : Nat) : Int) from by simp, u64_or_nat _ _ (by omega) (by omega)]
 have h4 := Nat.shiftLeft_add_eq_or_of_lt (show x < 2 ^ 8 from hx) y
 rw [Nat.shiftLeft_eq] at h4
 rw [Nat.or_comm, ← h4, Nat.add_comm, Nat.mul_comm]
def upV (f : Nat → Nat) (j i : Nat) : Nat := if i < j then f i else 0
theorem upV_full (n : Nat) (f : Nat → Nat) : row n (fV (upV f n)) = row n (fV f) := row_ext fun i hi => by simp [fV, upV, hi]
theorem upV_step (n : Nat) (f : Nat → Nat) (j : Nat) : (row n (fV (upV f j))).set j (.int .u64 (f j : Nat)) = row n (fV (upV f (j + 1))) := by
 refine row_set j _ (by simp [fV, upV]) (fun i _ hi => ?_)
 unfold fV upV
 by_cases h : i < j
 ·rw [if_pos h, if_pos (by omega)]
 ·rw [if_neg h, if_neg (by omega)]
theorem two_le {f : Nat → Nat} (h : ∀ i, f i < 256) (i : Nat) : two f i ≤ 17592186044416 := by
 unfold two; have := h (2 * i); have := h (2 * i + 1); omega
set_option maxHeartbeats 1000000 in
theorem rofM {a : Option Addr} {n cap : Nat} {l : List UInt8} (w : World) (h : RdB w a n cap l) :
  Calls Tryz.prog 124 #[.slice a n cap] w fun e w' => e = .returned (.agg (row 16 (fV (d16 (feF l).val))).toArray) ∧ Below w.heap.size w w' := by
 have HV := Lib.hid (feF_two l)
 have hfl := bytes_row (first l 32) 32 (first_len _ _)
 have hlt := byF_lt (first l 32)
 have HR := Lib.hid hfl
 clear hfl
 generalize byF (first l 32) = f at *
 have HF := Lib.hid (msk_lt hlt)
 have h31 : (0 : Int) ≤ (f 31 : Nat) := by omega
 have h31' : ((f 31 : Nat) : Int) < 256 := by have := hlt 31; omega
 have ha := and7 (f 31) (hlt 31)
 have ha2 : bits BinOp.and IntKind.u8 ((f 31 : Nat) : Int) 127 = (msk f 31 : Nat) := ha
 clear ha hlt
 have hmr := msk_row f
 generalize msk f = m at *
 have HM := Lib.hid hmr
 clear hmr
 have HT := Lib.hid (two_le HF.out)
 have HD := Lib.hid (show ∀ i, ∃ x y : Int, 0 ≤ x ∧ x < 256 ∧ 0 ≤ y ∧ y < 256 ∧ x = (m (2 * i) : Nat) ∧ y = (m (2 * i + 1) : Nat) ∧ bits BinOp.or IntKind.u64 x (y * 256) = (two m i : Nat) from fun i => by
  have h1 := HF.out (2 * i); have h2 := HF.out (2 * i + 1)
  exact ⟨_, _, by omega, by omega, by omega, by omega, rfl, rfl, lim_or _ _ h1 h2⟩)
 go_enter Tryz.func124, Tryz.ntmps124
 go_upto_region 2 with (go_at_call 87; go_must (refine (fill_any 32 (by omega) _ (h.below belowBy)).mono ?_; rintro e w1 ⟨rfl, hC, hb⟩; have hO := (Blk.new w #[.int .u64 0, .int .u64 0, .int .u64 0, .int .u64 0, .int .u64 0, .int .u64 0, .int .u64 0, .int .u64 0, .int .u64 0, .int .u64 0, .int .u64 0, .int .u64 0, .int .u64 0, .int .u64 0, .int .u64 0, .int .u64 0] 62).below' hb; have hbel := Below.call (show Below w.heap.size w _ from belowBy) hb; clear hb h))
 rw [HR.out] at hC
 refine wp_gen (fun W => Blk W (w.heap.size + 1) (row 32 (uV f)) 5 ∧ Blk W w.heap.size [.int .u64 0, .int .u64 0, .int .u64 0, .int .u64 0, .int .u64 0, .int .u64 0, .int .u64 0, .int .u64 0, .int .u64 0, .int .u64 0, .int .u64 0, .int .u64 0, .int .u64 0, .int .u64 0, .int .u64 0, .int .u64 0] 62 ∧ Below w.heap.size w W) ?_ (fun W0 hW => ?_)
 ·exact ⟨by simpa using hC, hO, hbel⟩
 clear hC hO hbel w1
 obtain ⟨hC, hO, hbel⟩ := hW
 have c31 : W0.cell? ⟨w.heap.size + 1, 31, none⟩ = some (.int .u8 (f 31 : Nat)) := hC.at (by omega)
 have f31 := hC.frozen 31
 have hC2 := hC.set 31 (.int .u8 (m 31 : Nat))
 rw [HM.out] at hC2
 have HC := Lib.hid hC2
 have HO := Lib.hid (hO.other ⟨w.heap.size + 1, 31, none⟩ (by simp) (.int .u8 (m 31 : Nat)))
 clear hC hO hC2
 go_upto_region 4 with fail
 have hq : w.heap.size + 1 < W0.heap.size := by have := HC.out.lt; simpa using this
 refine wp_gen (fun W => Blk W (w.heap.size + 1) (row 32 (uV m)) 5 ∧ Blk W w.heap.size [.int .u64 0, .int .u64 0, .int .u64 0, .int .u64 0, .int .u64 0, .int .u64 0, .int .u64 0, .int .u64 0, .int .u64 0, .int .u64 0, .int .u64 0, .int .u64 0, .int .u64 0, .int .u64 0, .int .u64 0, .int .u64 0] 62 ∧ Blk W W0.heap.size (row 16 (fV (upV (two m) 0))) 62 ∧ Below w.heap.size w W) ?_ (fun W1 hW => ?_)
 ·exact ⟨HC.out.alloc _, HO.out.alloc _, Blk.new' (by simp), belowBy⟩
 clear HC HO hbel c31 f31 h31 h31' ha2
 generalize W0.heap.size = q at *
 obtain ⟨hC, hO, hA, hbel⟩ := hW
 clear W0
 have HQ := Lib.hid hq
 clear hq
 go_wp2
 go_loopw [5] (fun i wr => ∃ j : Nat, j ≤ 16 ∧ i = .int .i64 j ∧ Blk wr (w.heap.size + 1) (row 32 (uV m)) 5 ∧ Blk wr w.heap.size [.int .u64 0, .int .u64 0, .int .u64 0, .int .u64 0, .int .u64 0, .int .u64 0, .int .u64 0, .int .u64 0, .int .u64 0, .int .u64 0, .int .u64 0, .int .u64 0, .int .u64 0, .int .u64 0, .int .u64 0, .int .u64 0] 62 ∧ Blk wr q (row 16 (fV (upV (two m) j))) 62 ∧ Below w.heap.size w wr) (fun i _ => 16 - (intOf i).toNat)
 case atStart => exact ⟨0, by omega, rfl, hC, hO, hA, hbel⟩
 case round =>
  clear hC hO hA hbel
  obtain ⟨j, hj, rfl, hC, hO, hA, hbel⟩ := hrel
  by_cases hlj : j < 16
  ·obtain ⟨x, y, hx0, hx1, hy0, hy1, hx, hy, hor⟩ := HD.out j
   obtain ⟨p, hp⟩ : ∃ p, p = 2 * j := ⟨_, rfl⟩
   have c0 : wr.cell? ⟨w.heap.size + 1, p, none⟩ = some (.int .u8 x) := by rw [hC.at (by omega), hx, hp]; rfl
   have c1 : wr.cell? ⟨w.heap.size + 1, p + 1, none⟩ = some (.int .u8 y) := by rw [hC.at (by omega), hy, hp]; rfl
   have hw1 : IntKind.i64.wrap (2 * (j : Int)) = (p : Int) := by rw [hp]; exact IntWalk.i64_in _ (by omega)
   have hw1' : 2 * (j : Int) = (p : Int) := by omega
   have hw2 : IntKind.i64.wrap ((p : Int) + 1) = ((p + 1 : Nat) : Int) := by exact IntWalk.i64_in _ (by omega)
   have hp31 : p + 1 < 32 := by omega
   have hfr := hA.frozen j
   have hA2 := hA.set j (.int .u64 (two m j : Nat))
   rw [upV_step] at hA2
   have HQ2 := HQ.out
   have HA := Lib.hid hA2
   have HC := Lib.hid (hC.other ⟨q, j, none⟩ (by simp; omega) (.int .u64 (two m j : Nat)))
   have HO := Lib.hid (hO.other ⟨q, j, none⟩ (by simp; omega) (.int .u64 (two m j : Nat)))
   have hqj : wr.cell? ⟨q, j, none⟩ = some (.int .u64 (upV (two m) j j : Nat)) := hA.at hlj
   clear hA hA2 hC hO hx hy hp
   have HB : Hid (Below w.heap.size w (wr.setCell ⟨q, j, none⟩ (.int .u64 (two m j : Nat)))) := Lib.hid (hbel.setCell (by simp; omega) _)
   clear HQ2
   go_wp2
   go_region
   go_wp2
   go_roundw
   case rel => exact ⟨j + 1, by omega, by go_num, HC.out.drew, HO.out.drew, HA.out.drew, HB.out.drew⟩
   case measure => simp [intOf]; omega
  ·obtain rfl : j = 16 := by omega
   rw [upV_full] at hA
   have hAr := hA.range
   have HO := Lib.hid hO; have HA := Lib.hid hA
   clear hA hO hC hlj hj
   go_wp2_with (first | (refine wpList_load_mid rfl 62 (.tmp 4) rfl q 0 rfl (row 16 (fV (two m))) _ hAr Tryz.underlying62 rfl (infoFe _) ?_) | (go_at_call 117; (with_reducible refine (rcarried_any (two m) HT.out _).mono ?_; rintro e w2 ⟨rfl, hb⟩; rw [HV.out]; obtain ⟨W3, hst3, hB3, hbel3, _, _⟩ := st_row (n := 16) (HO.out.below' hb) rfl (Below.call hbel hb) (Nat.le_refl _) (d16 (feF l).val); clear hAr hb; have HB3 := Lib.hid hB3; clear hB3)))
   refine bodyPost_ret (v := .agg (row 16 (fV (d16 (feF l).val))).toArray) (results_cell_row Tryz.results124 _ _ w.heap.size _ _ _ _ ?_ HB3.out Tryz.underlying62 ?_ (infoFeA _)) ?_ ?_
   ·rfl
   ·rfl
   ·rfl
   ·exact ⟨rfl, hbel3⟩
theorem v16_add (f g : Nat → Nat) : ∀ n, v16 (fun i => f i + g i) n = v16 f n + v16 g n
 | 0 => rfl
 | n + 1 => by simp only [v16]; rw [v16_add f g n, Nat.add_mul]; omega
theorem v16_mul (c : Nat) (f : Nat → Nat) : ∀ n, v16 (fun i => c * f i) n = c * v16 f n
 | 0 => rfl
 | n + 1 => by simp only [v16]; rw [v16_mul c f n, Nat.mul_add, Nat.mul_assoc]
theorem Pq16 {x : Nat} (h : x < Pq) : x < 65536 ^ 16 := Nat.lt_trans h (by decide +kernel)
theorem d16_v {x : Nat} (h : x < Pq) : v16 (d16 x) 16 = x := by rw [d16_val, Nat.mod_eq_of_lt (Pq16 h)]
theorem primeF_v : v16 primeF 16 = Pq := by decide +kernel
def mxV (f g : Nat → Nat) (j i : Nat) : Nat := if i < j then g i else f i
theorem mxV_zero (f g : Nat → Nat) (n : Nat) : row n (fV (mxV f g 0)) = row n (fV f) := row_ext fun i _ => by simp [fV, mxV]
theorem mxV_full (f g : Nat → Nat) (n : Nat) : row n (fV (mxV f g n)) = row n (fV g) := row_ext fun i hi => by simp [fV, mxV, hi]
theorem mxV_step (n : Nat) (f g : Nat → Nat) (j : Nat) : (row n (fV (mxV f g j))).set j (.int .u64 (g j : Nat)) = row n (fV (mxV f g (j + 1))) := by
 refine row_set j _ (by simp [fV, mxV]) (fun i _ hi => ?_)
 unfold fV mxV
 by_cases h : i < j
 ·rw [if_pos h, if_pos (by omega)]
 ·rw [if_neg h, if_neg (by omega)]
theorem mxV_at (f g : Nat → Nat) (j : Nat) : fV (mxV f g j) j = .int .u64 (f j : Nat) := by simp [fV, mxV]
def sumF (x y i : Nat) : Nat := d16 x i + d16 y i
theorem sumF_le (x y i : Nat) : sumF x y i ≤ 17592186044416 := by have := d16_lt x i; have := d16_lt y i; unfold sumF; omega
theorem sumF_v (x y : F) : v16 (sumF x.val y.val) 16 % Pq = (x + y).val := by
 rw [show sumF x.val y.val = fun i => d16 x.val i + d16 y.val i from rfl, v16_add, d16_v x.isLt, d16_v y.isLt]; rfl
set_option maxHeartbeats 1000000 in
theorem raddM (x y : F) (w : World) :
  Calls Tryz.prog 102 #[.agg (row 16 (fV (d16 x.val))).toArray, .agg (row 16 (fV (d16 y.val))).toArray] w fun e w' => e = .returned (.agg (row 16 (fV (d16 (x + y).val))).toArray) ∧ Below w.heap.size w w' := by
 have HV := Lib.hid (sumF_v x y)
 have HT := Lib.hid (sumF_le x.val y.val)
 generalize (x + y).val = R at *
 have HS := Lib.hid (show ∀ i, IntKind.u64.wrap ((d16 x.val i : Nat) + (d16 y.val i : Nat) : Int) = (sumF x.val y.val i : Nat) from fun i => by
  have := d16_lt x.val i; have := d16_lt y.val i; rw [wrapU]; unfold sumF; omega)
 generalize sumF x.val y.val = s at *
 generalize d16 x.val = f at *
 generalize d16 y.val = g at *
 go_enter Tryz.func102, Tryz.ntmps102
 go_upto_region 1 with fail
 refine wp_gen (fun W => Blk W w.heap.size (row 16 (fV (mxV f s 0))) 62 ∧ Blk W (w.heap.size + 1) (row 16 (fV g)) 62 ∧ Blk W (w.heap.size + 1 + 1) [.int .u64 0, .int .u64 0, .int .u64 0, .int .u64 0, .int .u64 0, .int .u64 0, .int .u64 0, .int .u64 0, .int .u64 0, .int .u64 0, .int .u64 0, .int .u64 0, .int .u64 0, .int .u64 0, .int .u64 0, .int .u64 0] 62 ∧ Below w.heap.size w W) ?_ (fun W0 hW => ?_)
 ·rw [mxV_zero]
  exact ⟨((Blk.new w _ _).alloc _).alloc _, (Blk.new' (by simp)).alloc _, Blk.new' (by simp), belowBy⟩
 obtain ⟨hA, hB, hO, hbel⟩ := hW
 go_wp2
 go_loopw [5] (fun i wr => ∃ j : Nat, j ≤ 16 ∧ i = .int .i64 j ∧ Blk wr w.heap.size (row 16 (fV (mxV f s j))) 62 ∧ Blk wr (w.heap.size + 1) (row 16 (fV g)) 62 ∧ Blk wr (w.heap.size + 1 + 1) [.int .u64 0, .int .u64 0, .int .u64 0, .int .u64 0, .int .u64 0, .int .u64 0, .int .u64 0, .int .u64 0, .int .u64 0, .int .u64 0, .int .u64 0, .int .u64 0, .int .u64 0, .int .u64 0, .int .u64 0, .int .u64 0] 62 ∧ Below w.heap.size w wr) (fun i _ => 16 - (intOf i).toNat)
 case atStart => exact ⟨0, by omega, rfl, hA, hB, hO, hbel⟩
 case round =>
  clear hA hB hO hbel W0
  obtain ⟨j, hj, rfl, hA, hB, hO, hbel⟩ := hrel
  by_cases hlj : j < 16
  ·have ca : wr.cell? ⟨w.heap.size, j, none⟩ = some (.int .u64 (f j : Nat)) := by rw [hA.at hlj, mxV_at]
   have cb : wr.cell? ⟨w.heap.size + 1, j, none⟩ = some (.int .u64 (g j : Nat)) := hB.at hlj
   have hs := HS.out j
   have hfr := hA.frozen j
   have hA2 := hA.set j (.int .u64 (s j : Nat))
   rw [mxV_step] at hA2
   have HA := Lib.hid hA2
   have HB := Lib.hid (hB.other ⟨w.heap.size, j, none⟩ (by simp) (.int .u64 (s j : Nat)))
   have HO := Lib.hid (hO.other ⟨w.heap.size, j, none⟩ (by simp <;> omega) (.int .u64 (s j : Nat)))
   clear hA hA2 hO hB
   go_wp2
   go_region
   go_wp2
   go_roundw
   case rel => exact ⟨j + 1, by omega, by go_num, HA.out.drew, HB.out.drew, HO.out.drew, belowBy⟩
   case measure => simp [intOf]; omega
  ·obtain rfl : j = 16 := by omega
   rw [mxV_full] at hA
   have hAr := hA.range
   have HO := Lib.hid hO
   clear hA hO hB hlj hj
   go_wp2_with (first | (refine wpList_load_mid rfl 62 (.tmp 2) rfl w.heap.size 0 rfl (row 16 (fV s)) _ hAr Tryz.underlying62 rfl (infoFe _) ?_) | (go_at_call 117; (with_reducible refine (rcarried_any s HT.out _).mono ?_; rintro e w2 ⟨rfl, hb⟩; rw [HV.out]; obtain ⟨W3, hst3, hB3, hbel3, _, _⟩ := st_row (n := 16) (HO.out.below' hb) rfl (Below.call hbel hb) (by omega) (d16 R); clear hAr hb; have HB3 := Lib.hid hB3; clear hB3)))
   refine bodyPost_ret (v := .agg (row 16 (fV (d16 R))).toArray) (results_cell_row Tryz.results102 _ _ (w.heap.size + 1 + 1) _ _ _ _ ?_ HB3.out Tryz.underlying62 ?_ (infoFeA _)) ?_ ?_
   ·rfl
   ·rfl
   ·rfl
   ·exact ⟨rfl, hbel3⟩
def difF (x y i : Nat) : Nat := d16 x i + 4 * primeF i - d16 y i
theorem primeF_ge (i : Nat) : 32767 ≤ primeF i ∧ primeF i ≤ 65535 := by unfold primeF; split <;> (try split) <;> omega
theorem difF_le (x y i : Nat) : difF x y i ≤ 17592186044416 := by have := d16_lt x i; have := primeF_ge i; unfold difF; omega
theorem difF_v (x y : F) : v16 (difF x.val y.val) 16 % Pq = (x - y).val := by
 have h1 : v16 (fun i => difF x.val y.val i + d16 y.val i) 16 = v16 (fun i => d16 x.val i + 4 * primeF i) 16 := v16_congr 16 fun i _ => by
  have := d16_lt y.val i; have := primeF_ge i; unfold difF; omega
 rw [v16_add, v16_add, v16_mul, d16_v x.isLt, d16_v y.isLt, primeF_v] at h1
 rw [Fin.sub_def]
 show _ = (Pq - y.val + x.val) % Pq
 have hy := y.isLt
 have e : v16 (difF x.val y.val) 16 = Pq - y.val + x.val + Pq * 3 := by omega
 rw [e, Nat.add_mul_mod_self_left]
theorem dif_step (x y i : Nat) : ∃ s1 s2 : Nat, IntKind.u64.wrap (4 * (primeF i : Nat) : Int) = (s1 : Int) ∧ IntKind.u64.wrap ((d16 x i : Nat) + (s1 : Nat) : Int) = (s2 : Int) ∧ IntKind.u64.wrap ((s2 : Nat) - (d16 y i : Nat) : Int) = (difF x y i : Nat) := by
 have h1 := d16_lt x i; have h2 := d16_lt y i; have h3 := primeF_ge i
 refine ⟨4 * primeF i, d16 x i + 4 * primeF i, ?_, ?_, ?_⟩
 ·rw [wrapU]; omega
 ·rw [wrapU]; omega
 ·rw [wrapU]; unfold difF; omega
set_option maxHeartbeats 1000000 in
theorem rsubM (x y : F) (w : World) :
  Calls Tryz.prog 101 #[.agg (row 16 (fV (d16 x.val))).toArray, .agg (row 16 (fV (d16 y.val))).toArray] w fun e w' => e = .returned (.agg (row 16 (fV (d16 (x - y).val))).toArray) ∧ Below w.heap.size w w' := by
 have HV := Lib.hid (difF_v x y)
 have HT := Lib.hid (difF_le x.val y.val)
 generalize (x - y).val = R at *
 have HS := Lib.hid (dif_step x.val y.val)
 generalize difF x.val y.val = s at *
 generalize d16 x.val = f at *
 generalize d16 y.val = g at *
 have hSN := fun W => st_new W primeF
 go_enter Tryz.func101, Tryz.ntmps101
 go_upto_region 2 with (go_at_call 125; (with_reducible refine (rprimeA _).mono ?_; rintro e w1 ⟨rfl, hb⟩; have hA := (((Blk.new w (row 16 (fV f)).toArray 62).alloc (.cells (row 16 (fV g)).toArray 62)).alloc (.cells #[.int .u64 0, .int .u64 0, .int .u64 0, .int .u64 0, .int .u64 0, .int .u64 0, .int .u64 0, .int .u64 0, .int .u64 0, .int .u64 0, .int .u64 0, .int .u64 0, .int .u64 0, .int .u64 0, .int .u64 0, .int .u64 0] 62)).below' hb; have hB := ((Blk.new' (w := w.alloc (.cells (row 16 (fV f)).toArray 62)) (cs := (row 16 (fV g)).toArray) (E := 62) (g := w.heap.size + 1) (by simp)).alloc (.cells #[.int .u64 0, .int .u64 0, .int .u64 0, .int .u64 0, .int .u64 0, .int .u64 0, .int .u64 0, .int .u64 0, .int .u64 0, .int .u64 0, .int .u64 0, .int .u64 0, .int .u64 0, .int .u64 0, .int .u64 0, .int .u64 0] 62)).below' hb; have hO := (Blk.new' (w := (w.alloc (.cells (row 16 (fV f)).toArray 62)).alloc (.cells (row 16 (fV g)).toArray 62)) (cs := #[.int .u64 0, .int .u64 0, .int .u64 0, .int .u64 0, .int .u64 0, .int .u64 0, .int .u64 0, .int .u64 0, .int .u64 0, .int .u64 0, .int .u64 0, .int .u64 0, .int .u64 0, .int .u64 0, .int .u64 0, .int .u64 0]) (E := 62) (g := w.heap.size + 1 + 1) (by simp)).below' hb; have hbel := Below.call (show Below w.heap.size w _ from belowBy) hb; clear hb))
 have hq : w.heap.size + 1 + 1 < w1.heap.size := hO.lt
 refine wp_gen (fun W => Blk W w.heap.size (row 16 (fV (mxV f s 0))) 62 ∧ Blk W (w.heap.size + 1) (row 16 (fV g)) 62 ∧ Blk W (w.heap.size + 1 + 1) [.int .u64 0, .int .u64 0, .int .u64 0, .int .u64 0, .int .u64 0, .int .u64 0, .int .u64 0, .int .u64 0, .int .u64 0, .int .u64 0, .int .u64 0, .int .u64 0, .int .u64 0, .int .u64 0, .int .u64 0, .int .u64 0] 62 ∧ Blk W w1.heap.size (row 16 (fV primeF)) 62 ∧ Below w.heap.size w W) ?_ (fun W0 hW => ?_)
 ·rw [mxV_zero]
  exact ⟨hA.alloc _, hB.alloc _, hO.alloc _, Blk.new' rfl, belowBy⟩
 clear hA hB hO hbel hSN
 generalize w1.heap.size = q at *
 have HQ := Lib.hid hq
 clear hq w1
 obtain ⟨hA, hB, hO, hP, hbel⟩ := hW
 go_wp2
 go_loopw [6] (fun i wr => ∃ j : Nat, j ≤ 16 ∧ i = .int .i64 j ∧ Blk wr w.heap.size (row 16 (fV (mxV f s j))) 62 ∧ Blk wr (w.heap.size + 1) (row 16 (fV g)) 62 ∧ Blk wr (w.heap.size + 1 + 1) [.int .u64 0, .int .u64 0, .int .u64 0, .int .u64 0, .int .u64 0, .int .u64 0, .int .u64 0, .int .u64 0, .int .u64 0, .int .u64 0, .int .u64 0, .int .u64 0, .int .u64 0, .int .u64 0, .int .u64 0, .int .u64 0] 62 ∧ Blk wr q (row 16 (fV primeF)) 62 ∧ Below w.heap.size w wr) (fun i _ => 16 - (intOf i).toNat)
 case atStart => exact ⟨0, by omega, rfl, hA, hB, hO, hP, hbel⟩
 case round =>
  clear hA hB hO hP hbel W0
  obtain ⟨j, hj, rfl, hA, hB, hO, hP, hbel⟩ := hrel
  by_cases hlj : j < 16
  ·have ca : wr.cell? ⟨w.heap.size, j, none⟩ = some (.int .u64 (f j : Nat)) := by rw [hA.at hlj, mxV_at]
   have cb : wr.cell? ⟨w.heap.size + 1, j, none⟩ = some (.int .u64 (g j : Nat)) := hB.at hlj
   have cp : wr.cell? ⟨q, j, none⟩ = some (.int .u64 (primeF j : Nat)) := hP.at hlj
   obtain ⟨s1, s2, e1, e2, e3⟩ := HS.out j
   have hfr := hA.frozen j
   have hA2 := hA.set j (.int .u64 (s j : Nat))
   rw [mxV_step] at hA2
   have HA := Lib.hid hA2
   have HB := Lib.hid (hB.other ⟨w.heap.size, j, none⟩ (by simp) (.int .u64 (s j : Nat)))
   have HO := Lib.hid (hO.other ⟨w.heap.size, j, none⟩ (by simp <;> omega) (.int .u64 (s j : Nat)))
   have HP := Lib.hid (hP.other ⟨w.heap.size, j, none⟩ (by have := HQ.out; simp; omega) (.int .u64 (s j : Nat)))
   clear hA hA2 hO hB hP
   generalize primeF j = pj at *
   go_wp2
   go_region
   go_wp2
   go_roundw
   case rel => exact ⟨j + 1, by omega, by go_num, HA.out.drew, HB.out.drew, HO.out.drew, HP.out.drew, belowBy⟩
   case measure => simp [intOf]; omega
  ·obtain rfl : j = 16 := by omega
   rw [mxV_full] at hA
   have hAr := hA.range
   have HO := Lib.hid hO
   clear hA hO hB hP hlj hj
   go_wp2_with (first | (refine wpList_load_mid rfl 62 (.tmp 2) rfl w.heap.size 0 rfl (row 16 (fV s)) _ hAr Tryz.underlying62 rfl (infoFe _) ?_) | (go_at_call 117; (with_reducible refine (rcarried_any s HT.out _).mono ?_; rintro e w2 ⟨rfl, hb⟩; rw [HV.out]; obtain ⟨W3, hst3, hB3, hbel3, _, _⟩ := st_row (n := 16) (HO.out.below' hb) rfl (Below.call hbel hb) (by omega) (d16 R); clear hAr hb; have HB3 := Lib.hid hB3; clear hB3)))
   refine bodyPost_ret (v := .agg (row 16 (fV (d16 R))).toArray) (results_cell_row Tryz.results101 _ _ (w.heap.size + 1 + 1) _ _ _ _ ?_ HB3.out Tryz.underlying62 ?_ (infoFeA _)) ?_ ?_
   ·rfl
   ·rfl
   ·rfl
   ·exact ⟨rfl, hbel3⟩
end Go.Proofs.YtielgpefoameiaaGreat
