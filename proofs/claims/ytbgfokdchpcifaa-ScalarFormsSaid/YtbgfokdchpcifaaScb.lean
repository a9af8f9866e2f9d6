/- The walks of package scalar, second part: reading, writing, sums, products. -/
import Derived.Test.YtbgfokdchpcifaaSca
namespace Go.Proofs.Ytbgfokdchpcifaa
open Go.RowKit

theorem row8 (f : Nat → Value) : row 8 f = [f 0, f 1, f 2, f 3, f 4, f 5, f 6, f 7] := rfl
theorem row8_zero : row 8 (wV 0) = [.int .u64 0, .int .u64 0, .int .u64 0, .int .u64 0, .int .u64 0, .int .u64 0, .int .u64 0, .int .u64 0] := by
  simp only [row8, wV0]
set_option maxHeartbeats 1000000 in
theorem wide_any {a : Option Addr} {n cap : Nat} {l : List UInt8} (w : World) (h : RdB w a n cap l) :
    Calls Try.prog 9 #[.slice a n cap] w fun e w' => e = .returned (.agg #[.int .u64 (lw (leN (first l 64) % Lq) 0 : Nat), .int .u64 (lw (leN (first l 64) % Lq) 1 : Nat), .int .u64 (lw (leN (first l 64) % Lq) 2 : Nat), .int .u64 (lw (leN (first l 64) % Lq) 3 : Nat)]) ∧ Below w.heap.size w w' := by
  have hlen := first_len l 64
  generalize hfl : first l 64 = fl at *
  have HF := Lib.hid hfl; have HL := Lib.hid hlen
  clear hfl hlen
  go_enter Try.func9, Try.ntmps9
  go_wp2_with (go_at_call 27; go_must (refine (first_any 64 (by omega) _ (h.below (by repeat (first | (with_reducible refine Below.alloc' ?_ _) | (with_reducible refine Below.drew ?_) | (with_reducible refine below_drewN ?_ _) | ((with_reducible refine Below.setCell ?_ ?_ _); rotate_left; (focus (first | exact Nat.le_refl _ | (simp; done) | (simp; omega)))) | (with_reducible assumption) | (with_reducible exact Below.refl _ _))))).mono ?_; rintro e w1 ⟨rfl, hB, hb⟩))
  have hbel : Below w.heap.size w w1 := Below.call (by repeat (first | (with_reducible refine Below.alloc' ?_ _) | (with_reducible refine Below.drew ?_) | (with_reducible refine below_drewN ?_ _) | ((with_reducible refine Below.setCell ?_ ?_ _); rotate_left; (focus (first | exact Nat.le_refl _ | (simp; done) | (simp; omega)))) | (with_reducible assumption) | (with_reducible exact Below.refl _ _))) hb
  have hO : Blk w1 w.heap.size (row 4 (wV 0)) 27 := by
    simp only [row4, wV0]
    exact ((Blk.new w _ _).alloc _).below' hb
  have hA : Blk w1 (w.heap.size + 1) (row 8 (wV (leN (fl.take 0)))) 55 := by
    rw [List.take_zero, show leN [] = 0 from rfl, row8_zero]
    exact (Blk.new' (by simp)).below' hb
  rw [HF.out] at hB
  clear hb h
  have hB : Blk w1 (w.heap.size + 1 + 1) (fl.map bV) 5 := by simpa using hB
  go_loopw [9] (fun i wr => ∃ k : Nat, k ≤ 64 ∧ i = .int .i64 k ∧ Blk wr (w.heap.size + 1) (row 8 (wV (leN (fl.take k)))) 55 ∧ Blk wr w.heap.size (row 4 (wV 0)) 27 ∧ Blk wr (w.heap.size + 1 + 1) (fl.map bV) 5 ∧ Below w.heap.size w wr) (fun i _ => 64 - (intOf i).toNat)
  case atStart => exact ⟨0, by omega, rfl, hA, hO, hB, hbel⟩
  case round =>
    clear hA hO hB hbel
    obtain ⟨k, hk, rfl, hA, hO, hB, hbel⟩ := hrel
    by_cases hlt : k < 64
    · have hkl : k < fl.length := by rw [HL.out]; exact hlt
      have hcb : wr.cell? ⟨w.heap.size + 1 + 1, k, none⟩ = some (.int .u8 (fl[k].toNat : Int)) := by rw [hB.cell]; simp [hkl, bV]
      have HT := Lib.hid (leN_take fl k hkl)
      have hn := leN_take_lt fl k
      have HC := Lib.hid (fl[k].toNat_lt)
      generalize leN (fl.take k) = x at *
      generalize fl[k].toNat = c at *
      obtain ⟨ci, hci⟩ : ∃ ci : Int, ci = (c : Int) := ⟨_, rfl⟩
      have HI := Lib.hid hci
      rw [← hci] at hcb
      have hc0 : 0 ≤ ci := by omega
      have hc1 : ci < 256 := by have := HC.out; omega
      clear hci
      have hq : k / 8 < 8 := by omega
      have ca : wr.cell? ⟨w.heap.size + 1, k / 8, none⟩ = some (.int .u64 (lw x (k / 8) : Nat)) := hA.at hq
      have cf := hA.frozen (k / 8)
      have HN := Lib.hid hn
      have HS := Lib.hid (or_byteI x k c ci HI.out HN.out HC.out)
      have HO := Lib.hid hO; have HB := Lib.hid hB; have HA := Lib.hid hA
      clear hn hO hB hA
      go_wp2
      go_region
      rw [HS.out]
      have hA2 := HA.out.set (k / 8) (wV (x + c * 256 ^ k) (k / 8))
      rw [row_set (g := wV (x + c * 256 ^ k)) _ _ rfl (fun i _ hi => by unfold wV; rw [or_other x k c i HN.out HC.out hi])] at hA2
      have hO2 := HO.out.other ⟨w.heap.size + 1, k / 8, none⟩ (by simp) (wV (x + c * 256 ^ k) (k / 8))
      have hB2 := HB.out.other ⟨w.heap.size + 1, k / 8, none⟩ (by simp) (wV (x + c * 256 ^ k) (k / 8))
      have HA2 := Lib.hid hA2; have HO2 := Lib.hid hO2; have HB2 := Lib.hid hB2
      clear hA2 hO2 hB2 ca cf hcb
      go_wp2
      go_roundw
      case rel => exact ⟨k + 1, by omega, by go_num, by rw [HT.out]; exact HA2.out.drew, HO2.out.drew, HB2.out.drew, (by repeat (first | (with_reducible refine Below.alloc' ?_ _) | (with_reducible refine Below.drew ?_) | (with_reducible refine below_drewN ?_ _) | ((with_reducible refine Below.setCell ?_ ?_ _); rotate_left; (focus (first | exact Nat.le_refl _ | (simp; done) | (simp; omega)))) | (with_reducible assumption) | (with_reducible exact Below.refl _ _)))⟩
      case measure => simp [intOf] <;> omega
    · obtain rfl : k = 64 := by omega
      rw [List.take_of_length_le (by rw [HL.out]; omega)] at hA
      have hN : leN fl < 2 ^ (8 * 64) := by have := leN_lt fl; rw [HL.out, p256] at this; exact this
      have HN := Lib.hid hN
      clear hN hB hlt hk
      generalize hx : leN fl = x at *
      have HX := Lib.hid hx
      clear hx
      have g0 : wr.cell? ⟨w.heap.size + 1, 0, none⟩ = some (.int .u64 (lw x 0 : Nat)) := hA.at (by omega); have g1 : wr.cell? ⟨w.heap.size + 1, 1, none⟩ = some (.int .u64 (lw x 1 : Nat)) := hA.at (by omega); have g2 : wr.cell? ⟨w.heap.size + 1, 2, none⟩ = some (.int .u64 (lw x 2 : Nat)) := hA.at (by omega); have g3 : wr.cell? ⟨w.heap.size + 1, 3, none⟩ = some (.int .u64 (lw x 3 : Nat)) := hA.at (by omega); have g4 : wr.cell? ⟨w.heap.size + 1, 4, none⟩ = some (.int .u64 (lw x 4 : Nat)) := hA.at (by omega); have g5 : wr.cell? ⟨w.heap.size + 1, 5, none⟩ = some (.int .u64 (lw x 5 : Nat)) := hA.at (by omega); have g6 : wr.cell? ⟨w.heap.size + 1, 6, none⟩ = some (.int .u64 (lw x 6 : Nat)) := hA.at (by omega); have g7 : wr.cell? ⟨w.heap.size + 1, 7, none⟩ = some (.int .u64 (lw x 7 : Nat)) := hA.at (by omega)
      go_wp2_with (go_at_call 28; go_must (refine (reduced_any x (8 * 64) (by omega) (by omega) HN.out _).mono ?_; rintro e w2 ⟨rfl, hb⟩; have hO1 := hO.below' hb; have hbel1 := Below.call hbel hb; have gf := hO1.frozen; have o0 : w2.cell? ⟨w.heap.size, 0, none⟩ = some (.int .u64 (lw 0 0 : Nat)) := hO1.at (by omega); have o1 : w2.cell? ⟨w.heap.size, 1, none⟩ = some (.int .u64 (lw 0 1 : Nat)) := hO1.at (by omega); have o2 : w2.cell? ⟨w.heap.size, 2, none⟩ = some (.int .u64 (lw 0 2 : Nat)) := hO1.at (by omega); have o3 : w2.cell? ⟨w.heap.size, 3, none⟩ = some (.int .u64 (lw 0 3 : Nat)) := hO1.at (by omega); clear hb hO hA))
      exact bodyPost_ret (v := .agg #[.int .u64 (lw (x % Lq) 0 : Nat), .int .u64 (lw (x % Lq) 1 : Nat), .int .u64 (lw (x % Lq) 2 : Nat), .int .u64 (lw (x % Lq) 3 : Nat)]) (by simp [results, Try.results9, go_sem, o0, o1, o2, o3]) rfl ⟨by rw [HX.out], (by repeat (first | (with_reducible refine Below.alloc' ?_ _) | (with_reducible refine Below.drew ?_) | (with_reducible refine below_drewN ?_ _) | ((with_reducible refine Below.setCell ?_ ?_ _); rotate_left; (focus (first | exact Nat.le_refl _ | (simp; done) | (simp; omega)))) | (with_reducible assumption) | (with_reducible exact Below.refl _ _)))⟩
set_option maxHeartbeats 1000000 in
theorem bytes_blk (n : Nat) (w : World) :
    Calls Try.prog 10 #[.agg #[.int .u64 (lw n 0 : Nat), .int .u64 (lw n 1 : Nat), .int .u64 (lw n 2 : Nat), .int .u64 (lw n 3 : Nat)]] w fun e w' => ∃ g cap r, e = .returned (.slice (some ⟨g, 0, none⟩) 32 cap) ∧ w.heap.size ≤ g ∧ Blk w' g ((leB 32 n).map bV ++ r) 5 ∧ 32 ≤ cap ∧ cap ≤ maxLen ∧ Below w.heap.size w w' := by
  obtain ⟨i0, hi, hz0, hz1, hz2⟩ := info_parts infoU8
  go_enter Try.func10, Try.ntmps10
  go_wp2
  go_loopw [2, 7] (fun v i wr => ∃ k : Nat, k ≤ 4 ∧ i = .int .i64 k ∧ wr.ownsRow w.heap.size 5 1 v (8 * k) ((leB (8 * k) n).map bV) ∧ Below w.heap.size w wr) (fun _ i _ => 4 - (intOf i).toNat)
  case atStart => exact ⟨0, by omega, rfl, ⟨rfl, .inl ⟨rfl, rfl⟩⟩, (by repeat (first | (with_reducible refine Below.alloc' ?_ _) | (with_reducible refine Below.drew ?_) | (with_reducible refine below_drewN ?_ _) | ((with_reducible refine Below.setCell ?_ ?_ _); rotate_left; (focus (first | exact Nat.le_refl _ | (simp; done) | (simp; omega)))) | (with_reducible assumption) | (with_reducible exact Below.refl _ _)))⟩
  case round =>
    obtain ⟨k, hk, rfl, hown, hbel⟩ := hrel
    by_cases hlt : k < 4
    · have hx := ix4 n k hlt
      have hw := lw_lt n k
      have HW := Lib.hid (leB_words n k)
      have HI := Lib.hid hi; have HZ0 := Lib.hid hz0; have HZ1 := Lib.hid hz1; have HZ2 := Lib.hid hz2
      clear hi hz0 hz1 hz2
      go_wp2_with (first | (go_at_call 29; go_must (refine (little_any hw _).mono ?_; rintro e w1 ⟨rfl, hB, hb⟩; have hown1 := own_below hown hb; have hbel1 := Below.call hbel hb; have HB := Lib.hid hB; clear hown hbel hB hb)) | (at_builtin; go_must (refine wpList_append_own _ rfl (.tmp 10) (.tmp 12) 22 rfl w.heap.size 5 i0 (.int .u8 0) 1 1 Try.underlying22 HI.out HZ0.out HZ1.out HZ2.out rfl (by decide) _ (8 * k) _ rfl hown1 ⟨wr.heap.size, 0, none⟩ 8 8 ((leB 8 (lw n k)).map bV) rfl ?c1 ?c2 (bV_one _) ?c3 ?c4 hbel1.size ?c5)))
      case c1 => simp [leB_len]
      case c2 =>
        intro j u hu
        have := HB.out.cell j
        rw [addr_add, Nat.zero_add, this]; exact hu
      case c3 => unfold maxLen; omega
      case c4 => omega
      case c5 =>
        intro v' w2 hown2 hgr _
        rw [← List.map_append, ← HW.out, show 8 * k + 8 = 8 * (k + 1) from rfl] at hown2
        have hbel2 : Below w.heap.size w w2 := hbel1.grown hgr hbel1.size (fun q hq => by
          rcases hown1.2 with ⟨h, _⟩ | ⟨g, cap, cur, hv, hg, _⟩
          · rw [h] at hq; simp [Value.ownBlock] at hq
          · rw [hv] at hq; simp [Value.ownBlock] at hq; omega)
        clear hown1 hbel1 hgr HB HW HI HZ0 HZ1 HZ2 hw hx
        go_wp2
        go_roundw
        case rel => exact ⟨k + 1, by omega, by go_num, hown2, hbel2⟩
        case measure => simp [intOf] <;> omega
    · obtain rfl : k = 4 := by omega
      obtain ⟨g, cap, r, rfl, hg, hB, hl, hc, hm⟩ := own_rdb hown (by omega)
      have HR := Lib.hid hB
      clear hown hB hl hi hz0 hz1 hz2
      go_wp2
      go_ret
      exact ⟨g, cap, r, rfl, hg, HR.out, hc, hm, hbel⟩
theorem bytes_any (n : Nat) (w : World) :
    Calls Try.prog 10 #[.agg #[.int .u64 (lw n 0 : Nat), .int .u64 (lw n 1 : Nat), .int .u64 (lw n 2 : Nat), .int .u64 (lw n 3 : Nat)]] w fun e w' => ∃ g cap, e = .returned (.slice (some ⟨g, 0, none⟩) 32 cap) ∧ w.heap.size ≤ g ∧ RdB w' (some ⟨g, 0, none⟩) 32 cap (leB 32 n) ∧ Below w.heap.size w w' :=
  (bytes_blk n w).mono fun _ _ ⟨g, cap, r, he, hg, hB, hc, hm, hb⟩ => ⟨g, cap, he, hg, RdB.blk r hB (leB_len _ _) hc hm, hb⟩
end Go.Proofs.Ytbgfokdchpcifaa
