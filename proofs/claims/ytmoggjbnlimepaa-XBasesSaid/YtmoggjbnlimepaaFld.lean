/- The walks of package field, first part. -/
import Derived.Test.YtmoggjbnlimepaaFlat
import Derived.Test.YtmoggjbnlimepaaFnum
namespace Go.Proofs.Ytmoggjbnlimepaa
open Go.RowKit

def fV (f : Nat → Nat) (i : Nat) : Value := .int .u64 (f i : Nat)
theorem row5 (f : Nat → Value) : row 5 f = [f 0, f 1, f 2, f 3, f 4] := rfl
/-- The first k limbs carried, the others not yet. -/
def pasV (f : Nat → Nat) (c0 k i : Nat) : Value := if i < k then fV (pas f c0) i else fV f i
theorem pasV_at (f : Nat → Nat) (c0 k : Nat) : pasV f c0 k k = .int .u64 (f k : Nat) := by unfold pasV; rw [if_neg (by omega)]; rfl
theorem pasV_set (f : Nat → Nat) (c0 k : Nat) : (row 5 (pasV f c0 k)).set k (.int .u64 (pas f c0 k : Nat)) = row 5 (pasV f c0 (k + 1)) :=
  row_set k _ (by unfold pasV; rw [if_pos (by omega)]; rfl) (fun i _ h => by unfold pasV; by_cases h1 : i < k; rw [if_pos h1, if_pos (by omega)]; rw [if_neg h1, if_neg (by omega)])
theorem pasV_zero (f : Nat → Nat) (c0 : Nat) : row 5 (pasV f c0 0) = row 5 (fV f) := row_ext fun i _ => by unfold pasV; rw [if_neg (by omega)]
theorem pasV_five (f : Nat → Nat) (c0 : Nat) : row 5 (pasV f c0 5) = row 5 (fV (pas f c0)) := row_ext fun i h => by unfold pasV; rw [if_pos h]
theorem and51 (x : Nat) (h : x < 18446744073709551616) : bits BinOp.and IntKind.u64 (x : Int) 2251799813685247 = ((x % 2251799813685248 : Nat) : Int) := by
  rw [show (2251799813685247 : Int) = ((2251799813685247 : Nat) : Int) from rfl, u64_and_nat x 2251799813685247 h (by omega)]
  rw [show x &&& 2251799813685247 = x % 2251799813685248 from Nat.and_two_pow_sub_one_eq_mod x 51]
/-- What the walk wants of one step of a pass. -/
theorem pass_step (f : Nat → Nat) (c0 k : Nat) (h : f k + cr f c0 k < 18446744073709551616) :
    ∃ s : Int, IntKind.u64.wrap ((f k : Nat) + (cr f c0 k : Nat) : Int) = s ∧ 0 ≤ s ∧ s < 18446744073709551616 ∧ bits BinOp.and IntKind.u64 s 2251799813685247 = (pas f c0 k : Nat) ∧ s / 2251799813685248 = (cr f c0 (k + 1) : Nat) := by
  refine ⟨((f k + cr f c0 k : Nat) : Int), by rw [wrapU]; omega, by omega, by omega, and51 _ h, ?_⟩
  show _ = (((f k + cr f c0 k) / 2251799813685248 : Nat) : Int)
  omega
set_option maxHeartbeats 1000000 in
theorem carried_any (f : Nat → Nat) (hf : ∀ i, i < 5 → f i ≤ 9223372036854775808) (w : World) :
    Calls Try.prog 41 #[.agg #[.int .u64 (f 0 : Nat), .int .u64 (f 1 : Nat), .int .u64 (f 2 : Nat), .int .u64 (f 3 : Nat), .int .u64 (f 4 : Nat)]] w fun e w' => e = .returned (.agg #[.int .u64 (cF f 0 : Nat), .int .u64 (cF f 1 : Nat), .int .u64 (cF f 2 : Nat), .int .u64 (cF f 3 : Nat), .int .u64 (cF f 4 : Nat)]) ∧ Below w.heap.size w w' := by
  have HF := Lib.hid hf
  clear hf
  go_enter Try.func41, Try.ntmps41
  go_wp2
  refine wp_gen (fun W => Blk W w.heap.size (row 5 (fV f)) 39 ∧ Blk W (w.heap.size + 1) (row 5 (fV fun _ => 0)) 41 ∧ Below w.heap.size w W) ?_ (fun W hW => ?_)
  · exact ⟨(Blk.new w _ _).alloc _, Blk.new' (by simp), (by repeat (first | (with_reducible refine Below.alloc' ?_ _) | (with_reducible refine Below.drew ?_) | (with_reducible refine below_drewN ?_ _) | ((with_reducible refine Below.setCell ?_ ?_ _); rotate_left; (focus (first | exact Nat.le_refl _ | (simp; done) | (simp; omega)))) | (with_reducible assumption) | (with_reducible exact Below.refl _ _)))⟩
  obtain ⟨hA, hO, hbel⟩ := hW
  refine wp_loop_rounds 3 ?_
  rw [rounds_succ]
  go_wp2
  go_loopw [3, 7] (fun c i wr => ∃ k : Nat, k ≤ 5 ∧ i = .int .i64 k ∧ c = .int .u64 (cr f 0 k : Nat) ∧ Blk wr w.heap.size (row 5 (pasV f 0 k)) 39 ∧ Blk wr (w.heap.size + 1) (row 5 (fV fun _ => 0)) 41 ∧ Below w.heap.size w wr) (fun _ i _ => 5 - (intOf i).toNat)
  case atStart => exact ⟨0, by omega, rfl, rfl, by rw [pasV_zero]; exact hA, hO, hbel⟩
  clear hA hO hbel
  have hb1 : ∀ k, k < 5 → f k + cr f 0 k < 18446744073709551616 := fun k hk => by
    have := HF.out k hk; have := cr_lt f 0 HF.out (by omega) k (by omega); omega
  have HB1 := Lib.hid hb1
  clear hb1
  case round =>
    obtain ⟨k, hk, rfl, rfl, hA, hO, hbel⟩ := hrel
    by_cases hlt : k < 5
    · obtain ⟨s, hs, hs0, hs1, ha, hd⟩ := pass_step f 0 k (HB1.out k hlt)
      have hcell := hA.at hlt
      rw [pasV_at] at hcell
      have hfr := hA.frozen k
      have HD := Lib.hid hd
      have HA := Lib.hid ((hA.set k (.int .u64 s)).set k (.int .u64 (pas f 0 k : Nat)))
      have HO := Lib.hid ((hO.other ⟨w.heap.size, k, none⟩ (by simp) (.int .u64 s)).other ⟨w.heap.size, k, none⟩ (by simp) (.int .u64 (pas f 0 k : Nat)))
      clear hA hO hd
      go_wp2
      go_roundw
      case rel => exact ⟨k + 1, by omega, by go_num, by rw [HD.out], by have := HA.out; rw [List.set_set, pasV_set] at this; exact this, HO.out, (by repeat (first | (with_reducible refine Below.alloc' ?_ _) | (with_reducible refine Below.drew ?_) | (with_reducible refine below_drewN ?_ _) | ((with_reducible refine Below.setCell ?_ ?_ _); rotate_left; (focus (first | exact Nat.le_refl _ | (simp; done) | (simp; omega)))) | (with_reducible assumption) | (with_reducible exact Below.refl _ _)))⟩
      case measure => simp [intOf]; omega
    · obtain rfl : k = 5 := by omega
      rw [pasV_five] at hA
      have hm : IntKind.u64.wrap (((cr f 0 5 : Nat) : Int) * 19) = ((cr f 0 5 * 19 : Nat) : Int) := by
        have := cr5 f HF.out; rw [wrapU]; omega
      have HC1 : Hid (cr f 0 5 * 19 ≤ 77843) := Lib.hid (by have := cr5 f HF.out; omega)
      clear hlt hk HB1
      generalize hc1 : cr f 0 5 * 19 = c1 at *
      have HC := Lib.hid hc1
      clear hc1
      go_wp2
      rw [rounds_succ]
      go_wp2
      clear hm
      go_loopw [3, 7] (fun c i wr => ∃ k : Nat, k ≤ 5 ∧ i = .int .i64 k ∧ c = .int .u64 (cr (pas f 0) c1 k : Nat) ∧ Blk wr w.heap.size (row 5 (pasV (pas f 0) c1 k)) 39 ∧ Blk wr (w.heap.size + 1) (row 5 (fV fun _ => 0)) 41 ∧ Below w.heap.size w wr) (fun _ i _ => 5 - (intOf i).toNat)
      case atStart => exact ⟨0, by omega, rfl, rfl, by rw [pasV_zero]; exact hA, hO, hbel⟩
      clear hA hO hbel
      have hb2 : ∀ k, k < 5 → pas f 0 k + cr (pas f 0) c1 k < 18446744073709551616 := fun k hk => by
        have := pas_lt f 0 k; have := cr_lt (pas f 0) c1 (fun i _ => by have := pas_lt f 0 i; omega) (by have := HC1.out; omega) k (by omega); omega
      have HB2 := Lib.hid hb2
      clear hb2
      case round =>
        obtain ⟨k, hk, rfl, rfl, hA, hO, hbel⟩ := hrel
        by_cases hlt : k < 5
        · obtain ⟨s, hs, hs0, hs1, ha, hd⟩ := pass_step (pas f 0) c1 k (HB2.out k hlt)
          have hcell := hA.at hlt
          rw [pasV_at] at hcell
          have hfr := hA.frozen k
          have HD := Lib.hid hd
          have HA := Lib.hid ((hA.set k (.int .u64 s)).set k (.int .u64 (pas (pas f 0) c1 k : Nat)))
          have HO := Lib.hid ((hO.other ⟨w.heap.size, k, none⟩ (by simp) (.int .u64 s)).other ⟨w.heap.size, k, none⟩ (by simp) (.int .u64 (pas (pas f 0) c1 k : Nat)))
          clear hA hO hd
          go_wp2
          go_roundw
          case rel => exact ⟨k + 1, by omega, by go_num, by rw [HD.out], by have := HA.out; rw [List.set_set, pasV_set] at this; exact this, HO.out, (by repeat (first | (with_reducible refine Below.alloc' ?_ _) | (with_reducible refine Below.drew ?_) | (with_reducible refine below_drewN ?_ _) | ((with_reducible refine Below.setCell ?_ ?_ _); rotate_left; (focus (first | exact Nat.le_refl _ | (simp; done) | (simp; omega)))) | (with_reducible assumption) | (with_reducible exact Below.refl _ _)))⟩
          case measure => simp [intOf]; omega
        · obtain rfl : k = 5 := by omega
          rw [pasV_five] at hA
          have h5 := cr_one (pas f 0) c1 (pas_lt f 0) (by have := HC1.out; omega) 5 (by omega)
          have h0 := pas_lt (pas f 0) c1 0
          have hm : IntKind.u64.wrap (((cr (pas f 0) c1 5 : Nat) : Int) * 19) = ((cr (pas f 0) c1 5 * 19 : Nat) : Int) := by rw [wrapU]; omega
          have hs : IntKind.u64.wrap (((pas (pas f 0) c1 0 : Nat) : Int) + ((cr (pas f 0) c1 5 * 19 : Nat) : Int)) = ((cF f 0 : Nat) : Int) := by
            rw [wrapU]; show _ = ((pas (pas f 0) (cr f 0 5 * 19) 0 + cr (pas f 0) (cr f 0 5 * 19) 5 * 19 : Nat) : Int)
            rw [HC.out]; omega
          rw [row5] at hA hO
          have hAc := hA.cell; have hAf := hA.frozen; have hOc := hO.cell; have hOf := hO.frozen
          unfold fV at hAc hOc
          rw [show pas (pas f 0) c1 1 = cF f 1 from by rw [← HC.out]; rfl, show pas (pas f 0) c1 2 = cF f 2 from by rw [← HC.out]; rfl, show pas (pas f 0) c1 3 = cF f 3 from by rw [← HC.out]; rfl, show pas (pas f 0) c1 4 = cF f 4 from by rw [← HC.out]; rfl] at hAc
          generalize cr (pas f 0) c1 5 * 19 = c2 at *
          generalize cr (pas f 0) c1 5 = c3 at *
          generalize pas (pas f 0) c1 0 = p0 at *
          clear h5 h0 hA hO hlt hk HB2
          go_wp2
          rw [rounds_succ]
          go_wp2
          exact bodyPost_ret (v := .agg #[.int .u64 (cF f 0 : Nat), .int .u64 (cF f 1 : Nat), .int .u64 (cF f 2 : Nat), .int .u64 (cF f 3 : Nat), .int .u64 (cF f 4 : Nat)]) (by simp [results, Try.results41, go_sem, hOc]) rfl ⟨rfl, (by repeat (first | (with_reducible refine Below.alloc' ?_ _) | (with_reducible refine Below.drew ?_) | (with_reducible refine below_drewN ?_ _) | ((with_reducible refine Below.setCell ?_ ?_ _); rotate_left; (focus (first | exact Nat.le_refl _ | (simp; done) | (simp; omega)))) | (with_reducible assumption) | (with_reducible exact Below.refl _ _)))⟩
end Go.Proofs.Ytmoggjbnlimepaa
