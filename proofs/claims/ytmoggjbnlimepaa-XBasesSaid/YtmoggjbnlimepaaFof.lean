/- The walks of package field, seventh part: reading a number out of bytes. -/
import Derived.Test.YtmoggjbnlimepaaFsm
namespace Go.Proofs.Ytmoggjbnlimepaa
open Go.RowKit

/-- The limb that two words make. -/
theorem limb_or (x y : Nat) (s t : Nat) (hs : s ≤ 64) (ht : t + s = 64) (hx : x < 18446744073709551616) :
    bits BinOp.and IntKind.u64 (bits BinOp.or IntKind.u64 ((x : Int) / 2 ^ s) (IntKind.u64.wrap ((y : Int) * 2 ^ t))) 2251799813685247 = ((x / 2 ^ s + y * 2 ^ t % 18446744073709551616) % 2251799813685248 : Nat) := by
  have h0 : x / 2 ^ s < 2 ^ t := by
    apply Nat.div_lt_of_lt_mul
    rw [← Nat.pow_add, show s + t = 64 from by omega]; exact hx
  have h1 : 2 ^ t ≤ 2 ^ 64 := Nat.pow_le_pow_right (by omega) (by omega)
  rw [wrapU, show ((x : Int) / 2 ^ s) = ((x / 2 ^ s : Nat) : Int) from by simp, show ((y : Int) * 2 ^ t) % 18446744073709551616 = ((y * 2 ^ t % 18446744073709551616 : Nat) : Int) from by simp, u64_or_nat _ _ (by omega) (Nat.mod_lt _ (by omega))]
  have e : y * 2 ^ t % 18446744073709551616 = (y % 2 ^ s) * 2 ^ t := by
    rw [show (18446744073709551616 : Nat) = 2 ^ t * 2 ^ s from by rw [← Nat.pow_add, ht], Nat.mul_comm y, Nat.mul_mod_mul_left, Nat.mul_comm]
  have h2 : y % 2 ^ s * 2 ^ t < 18446744073709551616 := by rw [← e]; exact Nat.mod_lt _ (by omega)
  have h3 : x / 2 ^ s ||| y % 2 ^ s * 2 ^ t = x / 2 ^ s + y % 2 ^ s * 2 ^ t := by
    have h4 := Nat.shiftLeft_add_eq_or_of_lt h0 (y % 2 ^ s)
    rw [Nat.shiftLeft_eq] at h4
    rw [Nat.or_comm, ← h4, Nat.add_comm]
  rw [e, h3]
  apply and51
  rw [← h3]
  exact Nat.or_lt_two_pow (n := 64) (by omega) h2
theorem of0 (n : Nat) : bits BinOp.and IntKind.u64 (lw n 0 : Nat) 2251799813685247 = (dg n 0 : Nat) := by
  rw [and51 _ (lw_lt _ _)]; simp only [lw, dg, Nat.mul_zero, Nat.pow_zero, Nat.div_one]; omega
theorem of1 (n : Nat) : bits BinOp.and IntKind.u64 (bits BinOp.or IntKind.u64 ((lw n 0 : Nat) / 2251799813685248) (IntKind.u64.wrap ((lw n 1 : Nat) * 8192))) 2251799813685247 = (dg n 1 : Nat) := by
  have h := limb_or (lw n 0) (lw n 1) 51 13 (by omega) (by omega) (lw_lt _ _)
  have e : (((lw n 0 : Nat) : Int) / 2 ^ 51) = (lw n 0 : Nat) / 2251799813685248 := rfl
  refine Eq.trans (show _ = _ from h) ?_
  congr 1
  simp only [lw, dg, Nat.reduceMul, Nat.reducePow]; omega
theorem of2 (n : Nat) : bits BinOp.and IntKind.u64 (bits BinOp.or IntKind.u64 ((lw n 1 : Nat) / 274877906944) (IntKind.u64.wrap ((lw n 2 : Nat) * 67108864))) 2251799813685247 = (dg n 2 : Nat) := by
  have h := limb_or (lw n 1) (lw n 2) 38 26 (by omega) (by omega) (lw_lt _ _)
  refine Eq.trans (show _ = _ from h) ?_
  congr 1
  simp only [lw, dg, Nat.reduceMul, Nat.reducePow]; omega
theorem of3 (n : Nat) : bits BinOp.and IntKind.u64 (bits BinOp.or IntKind.u64 ((lw n 2 : Nat) / 33554432) (IntKind.u64.wrap ((lw n 3 : Nat) * 549755813888))) 2251799813685247 = (dg n 3 : Nat) := by
  have h := limb_or (lw n 2) (lw n 3) 25 39 (by omega) (by omega) (lw_lt _ _)
  refine Eq.trans (show _ = _ from h) ?_
  congr 1
  simp only [lw, dg, Nat.reduceMul, Nat.reducePow]; omega
theorem of4 (n : Nat) : bits BinOp.and IntKind.u64 ((lw n 3 : Nat) / 4096) 2251799813685247 = (dg n 4 : Nat) := by
  have := lw_lt n 3
  rw [show ((lw n 3 : Nat) : Int) / 4096 = ((lw n 3 / 4096 : Nat) : Int) from by simp, and51 _ (by omega)]
  simp only [lw, dg, Nat.reduceMul, Nat.reducePow]; omega
theorem dg_val (n : Nat) : val (dg n) = n % 57896044618658097711785492504343953926634992332820282019728792003956564819968 := by
  simp only [val, dg, Nat.reduceMul, Nat.reducePow]; omega
/-- The number that 32 bytes mean, without the highest bit. -/
def feN (l : List UInt8) : Nat := leN (first l 32) % 57896044618658097711785492504343953926634992332820282019728792003956564819968 % Pq
theorem FE.of (n : Nat) : FE (dg n) (n % 57896044618658097711785492504343953926634992332820282019728792003956564819968 % Pq) :=
  ⟨⟨by have := dg_lt n 0; omega, dg_lt _ _, dg_lt _ _, dg_lt _ _, dg_lt _ _⟩, by rw [dg_val]⟩
theorem row4_zero : row 4 (wV 0) = [.int .u64 0, .int .u64 0, .int .u64 0, .int .u64 0] := by simp only [row4, wV0]
set_option maxHeartbeats 1000000 in
theorem feof_any {a : Option Addr} {n cap : Nat} {l : List UInt8} (w : World) (h : RdB w a n cap l) :
    Calls Try.prog 21 #[.slice a n cap] w fun e w' => e = .returned (.agg #[.int .u64 (dg (leN (first l 32)) 0 : Nat), .int .u64 (dg (leN (first l 32)) 1 : Nat), .int .u64 (dg (leN (first l 32)) 2 : Nat), .int .u64 (dg (leN (first l 32)) 3 : Nat), .int .u64 (dg (leN (first l 32)) 4 : Nat)]) ∧ Below w.heap.size w w' := by
  have hlen := first_len l 32
  generalize hfl : first l 32 = fl at *
  have HF := Lib.hid hfl; have HL := Lib.hid hlen
  clear hfl hlen
  go_enter Try.func21, Try.ntmps21
  go_wp2_with (go_at_call 28; go_must (refine (first_any 32 (by omega) _ (h.below (by repeat (first | (with_reducible refine Below.alloc' ?_ _) | (with_reducible refine Below.drew ?_) | (with_reducible refine below_drewN ?_ _) | ((with_reducible refine Below.setCell ?_ ?_ _); rotate_left; (focus (first | exact Nat.le_refl _ | (simp; done) | (simp; omega)))) | (with_reducible assumption) | (with_reducible exact Below.refl _ _))))).mono ?_; rintro e w1 ⟨rfl, hB, hb⟩))
  rw [HF.out] at hB
  have hB1 : Blk w1 (w.heap.size + 1) (fl.map bV) 5 := by simpa using hB
  clear hB
  have hg : w.heap.size + 1 < w1.heap.size := hB1.lt
  refine wp_gen (fun W => Blk W w1.heap.size (row 4 (wV (leN (fl.take 0)))) 59 ∧ Blk W w.heap.size [.int .u64 0, .int .u64 0, .int .u64 0, .int .u64 0, .int .u64 0] 41 ∧ Blk W (w.heap.size + 1) (fl.map bV) 5 ∧ Below w.heap.size w W) ?_ (fun W hW => ?_)
  · refine ⟨?_, ((Blk.new w _ _).below' hb).alloc _, hB1.alloc _, Below.alloc' (Below.call (by repeat (first | (with_reducible refine Below.alloc' ?_ _) | (with_reducible refine Below.drew ?_) | (with_reducible refine below_drewN ?_ _) | ((with_reducible refine Below.setCell ?_ ?_ _); rotate_left; (focus (first | exact Nat.le_refl _ | (simp; done) | (simp; omega)))) | (with_reducible assumption) | (with_reducible exact Below.refl _ _))) hb) _⟩
    rw [List.take_zero, show leN [] = 0 from rfl, row4_zero]
    exact Blk.new w1 _ _
  obtain ⟨hA, hO, hB2, hbel⟩ := hW
  clear hb h hB1
  generalize w1.heap.size = g at *
  clear w1
  go_wp2
  go_loopw [9] (fun i wr => ∃ k : Nat, k ≤ 32 ∧ i = .int .i64 k ∧ Blk wr g (row 4 (wV (leN (fl.take k)))) 59 ∧ Blk wr w.heap.size [.int .u64 0, .int .u64 0, .int .u64 0, .int .u64 0, .int .u64 0] 41 ∧ Blk wr (w.heap.size + 1) (fl.map bV) 5 ∧ Below w.heap.size w wr) (fun i _ => 32 - (intOf i).toNat)
  case atStart => exact ⟨0, by omega, rfl, hA, hO, hB2, hbel⟩
  case round =>
    clear hA hO hB2 hbel W
    obtain ⟨k, hk, rfl, hA, hO, hB, hbel⟩ := hrel
    by_cases hlt : k < 32
    · have hkl : k < fl.length := by rw [HL.out]; exact hlt
      have hcb : wr.cell? ⟨w.heap.size + 1, k, none⟩ = some (.int .u8 (fl[k].toNat : Int)) := by rw [hB.cell]; simp [hkl, bV]
      have HT := Lib.hid (leN_take fl k hkl)
      have hn := leN_take_lt fl k
      have HC := Lib.hid (fl[k].toNat_lt)
      generalize leN (fl.take k) = x at *
      generalize fl[k].toNat = c at *
      obtain ⟨ci, hci⟩ : ∃ ci : Int, ci = (c : Int) := ⟨_, rfl⟩
      have HI := Lib.hid hci
      rw [← hci] at hcb
      have hc0 : 0 ≤ ci := by omega
      have hc1 : ci < 256 := by have := HC.out; omega
      clear hci
      have hq : k / 8 < 4 := by omega
      have ca : wr.cell? ⟨g, k / 8, none⟩ = some (.int .u64 (lw x (k / 8) : Nat)) := hA.at hq
      have cf := hA.frozen (k / 8)
      have HN := Lib.hid hn
      have HS := Lib.hid (or_byteI x k c ci HI.out HN.out HC.out)
      have HO := Lib.hid hO; have HB := Lib.hid hB; have HA := Lib.hid hA
      clear hn hO hB hA
      go_wp2
      go_region
      rw [HS.out]
      have hA2 := HA.out.set (k / 8) (wV (x + c * 256 ^ k) (k / 8))
      rw [row_set (g := wV (x + c * 256 ^ k)) _ _ rfl (fun i _ hi => by unfold wV; rw [or_other x k c i HN.out HC.out hi])] at hA2
      have hO2 := HO.out.other ⟨g, k / 8, none⟩ (by simp; omega) (wV (x + c * 256 ^ k) (k / 8))
      have hB2 := HB.out.other ⟨g, k / 8, none⟩ (by simp; omega) (wV (x + c * 256 ^ k) (k / 8))
      have HA2 := Lib.hid hA2; have HO2 := Lib.hid hO2; have HB2 := Lib.hid hB2
      clear hA2 hO2 hB2 ca cf hcb
      go_wp2
      go_roundw
      case rel => exact ⟨k + 1, by omega, by go_num, by rw [HT.out]; exact HA2.out.drew, HO2.out.drew, HB2.out.drew, (by repeat (first | (with_reducible refine Below.alloc' ?_ _) | (with_reducible refine Below.drew ?_) | (with_reducible refine below_drewN ?_ _) | ((with_reducible refine Below.setCell ?_ ?_ _); rotate_left; (focus (first | exact Nat.le_refl _ | (simp; done) | (simp; omega)))) | (with_reducible assumption) | (with_reducible exact Below.refl _ _)))⟩
      case measure => simp [intOf] <;> omega
    · obtain rfl : k = 32 := by omega
      rw [List.take_of_length_le (by rw [HL.out]; omega)] at hA
      clear hB hlt hk
      generalize hx : leN fl = x at *
      have HX := Lib.hid hx
      clear hx
      have g0 : wr.cell? ⟨g, 0, none⟩ = some (.int .u64 (lw x 0 : Nat)) := hA.at (by omega); have g1 : wr.cell? ⟨g, 1, none⟩ = some (.int .u64 (lw x 1 : Nat)) := hA.at (by omega); have g2 : wr.cell? ⟨g, 2, none⟩ = some (.int .u64 (lw x 2 : Nat)) := hA.at (by omega); have g3 : wr.cell? ⟨g, 3, none⟩ = some (.int .u64 (lw x 3 : Nat)) := hA.at (by omega)
      have hOc := hO.cell; have hOf := hO.frozen
      have e0 := of0 x; have e1 := of1 x; have e2 := of2 x; have e3 := of3 x; have e4 := of4 x
      clear hA hO
      go_wp2
      exact bodyPost_ret (v := .agg #[.int .u64 (dg x 0 : Nat), .int .u64 (dg x 1 : Nat), .int .u64 (dg x 2 : Nat), .int .u64 (dg x 3 : Nat), .int .u64 (dg x 4 : Nat)]) (by simp [results, Try.results21, go_sem, hOc]) rfl ⟨by rw [HX.out], (by repeat (first | (with_reducible refine Below.alloc' ?_ _) | (with_reducible refine Below.drew ?_) | (with_reducible refine below_drewN ?_ _) | ((with_reducible refine Below.setCell ?_ ?_ _); rotate_left; (focus (first | exact Nat.le_refl _ | (simp; done) | (simp; omega)))) | (with_reducible assumption) | (with_reducible exact Below.refl _ _)))⟩
end Go.Proofs.Ytmoggjbnlimepaa
