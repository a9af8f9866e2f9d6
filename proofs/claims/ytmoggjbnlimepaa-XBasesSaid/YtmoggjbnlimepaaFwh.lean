/- The walks of package field, fifth part: the number itself. -/
import Derived.Test.YtmoggjbnlimepaaFpow
namespace Go.Proofs.Ytmoggjbnlimepaa
open Go.RowKit

/-- A digit of 51 binary digits. -/
def dg (n i : Nat) : Nat := n / 2 ^ (51 * i) % 2251799813685248
theorem dg_lt (n i : Nat) : dg n i < 2251799813685248 := Nat.mod_lt _ (by omega)
theorem dg_of (f : Nat → Nat) (h : ∀ i, f i < 2251799813685248) (i : Nat) (hi : i < 5) : dg (val f) i = f i := by
  have h0 := h 0; have h1 := h 1; have h2 := h 2; have h3 := h 3; have h4 := h 4
  have hh : i = 0 ∨ i = 1 ∨ i = 2 ∨ i = 3 ∨ i = 4 := by omega
  unfold dg val
  rcases hh with rfl | rfl | rfl | rfl | rfl <;> simp only [Nat.reduceMul, Nat.reducePow] <;> omega
theorem pas_small (f : Nat → Nat) (c0 : Nat) : val (pas f c0) < 57896044618658097711785492504343953926634992332820282019728792003956564819968 := by
  have h0 := pas_lt f c0 0; have h1 := pas_lt f c0 1; have h2 := pas_lt f c0 2; have h3 := pas_lt f c0 3; have h4 := pas_lt f c0 4
  unfold val; omega
theorem cr_five (f : Nat → Nat) (c0 : Nat) : cr f c0 5 = (val f + c0) / 57896044618658097711785492504343953926634992332820282019728792003956564819968 ∧ val (pas f c0) = (val f + c0) % 57896044618658097711785492504343953926634992332820282019728792003956564819968 := by
  have h1 := pas_val f c0
  have h2 := pas_small f c0
  omega
theorem Lim.val {f : Nat → Nat} (h : Lim f) : val f < 57896044618658097711785492504343953926634992332820282019728792003956564819968 + 20 := by
  have := h.l0; have := h.l1; have := h.l2; have := h.l3; have := h.l4
  unfold Go.Proofs.Ytmoggjbnlimepaa.val; omega
theorem whole_num {f : Nat → Nat} {x : Nat} (h : FE f x) : val (pas f (cr f 19 5 * 19)) = x := by
  have h1 := h.lim.val
  rw [(cr_five f _).2, (cr_five f 19).1, ← h.num]
  unfold Pq
  generalize val f = v at *
  by_cases hv : v < 57896044618658097711785492504343953926634992332820282019728792003956564819949
  · rw [Nat.div_eq_of_lt (show v + 19 < 57896044618658097711785492504343953926634992332820282019728792003956564819968 by omega), Nat.mod_eq_of_lt hv, Nat.mod_eq_of_lt (by omega)]
    omega
  · rw [show (v + 19) / 57896044618658097711785492504343953926634992332820282019728792003956564819968 = 1 by omega]
    omega
theorem whole_dg {f : Nat → Nat} {x : Nat} (h : FE f x) (i : Nat) (hi : i < 5) : pas f (cr f 19 5 * 19) i = dg x i := by
  rw [← whole_num h]; exact (dg_of _ (pas_lt _ _) i hi).symm
theorem FE.carry {f : Nat → Nat} {x : Nat} (h : FE f x) : FE (cF f) x := ⟨cF_lim f (fun i hi => by have := h.lim.lt i hi; omega), by rw [cF_val, h.num]⟩
theorem FE.sum_lt {f : Nat → Nat} {x : Nat} (h : FE f x) (c0 k : Nat) (hc : c0 ≤ 19) (hk : k < 5) : f k + cr f c0 k < 18446744073709551616 := by
  have h1 := h.lim.lt k hk
  have h2 := cr_lt f c0 (fun i hi => by have := h.lim.lt i hi; omega) (by omega) k (by omega)
  omega
set_option maxHeartbeats 1000000 in
theorem whole_any {f : Nat → Nat} {x : Nat} (hf : FE f x) (w : World) :
    Calls Try.prog 43 #[.agg #[.int .u64 (f 0 : Nat), .int .u64 (f 1 : Nat), .int .u64 (f 2 : Nat), .int .u64 (f 3 : Nat), .int .u64 (f 4 : Nat)]] w fun e w' => e = .returned (.agg #[.int .u64 (dg x 0 : Nat), .int .u64 (dg x 1 : Nat), .int .u64 (dg x 2 : Nat), .int .u64 (dg x 3 : Nat), .int .u64 (dg x 4 : Nat)]) ∧ Below w.heap.size w w' := by
  have hb1 : ∀ i, i < 5 → f i ≤ 9223372036854775808 := fun i hi => by have := hf.lim.lt i hi; omega
  have hb2 : ∀ i, i < 5 → cF f i ≤ 9223372036854775808 := fun i hi => by have := hf.carry.lim.lt i hi; omega
  have HB1 := Lib.hid hb1; have HB2 := Lib.hid hb2
  have HE := Lib.hid hf.carry.carry
  clear hb1 hb2 hf
  have fld : ∀ (x0 x1 x2 x3 x4 : Value) (w : World), (Instr.field 41 (.agg #[x0, x1, x2, x3, x4]) 0).run Try.prog w = .ok (.agg #[x0, x1, x2, x3, x4]) w := fun _ _ _ _ _ _ => by kernel_rfl
  go_enter Try.func43, Try.ntmps43
  go_upto_region 3 with (go_at_call 41; first | ((with_reducible refine (carried_any f HB1.out _).mono ?_); rintro e w1 ⟨rfl, hb1⟩; have hO1 := (show Blk _ (w.heap.size + 1) [.int .u64 0, .int .u64 0, .int .u64 0, .int .u64 0, .int .u64 0] 39 from (by repeat (first | (with_reducible refine Blk.drew ?_) | exact Blk.new' (by simp) | (with_reducible refine Blk.alloc ?_ _)))).below' hb1; have hbel1 : Below w.heap.size w w1 := Below.call (by repeat (first | (with_reducible refine Below.alloc' ?_ _) | (with_reducible refine Below.drew ?_) | (with_reducible refine below_drewN ?_ _) | ((with_reducible refine Below.setCell ?_ ?_ _); rotate_left; (focus (first | exact Nat.le_refl _ | (simp; done) | (simp; omega)))) | (with_reducible assumption) | (with_reducible exact Below.refl _ _))) hb1; clear hb1) | ((with_reducible refine (carried_any (cF f) HB2.out _).mono ?_); rintro e w2 ⟨rfl, hb2⟩; have hL2 := (Blk.new w1 #[.int .u64 (cF f 0 : Nat),.int .u64 (cF f 1 : Nat),.int .u64 (cF f 2 : Nat),.int .u64 (cF f 3 : Nat),.int .u64 (cF f 4 : Nat)] 39).below' hb2; have hO2 := (hO1.alloc _).below' hb2; have hbel2 : Below w.heap.size w w2 := Below.call (show Below w.heap.size w _ from (by repeat (first | (with_reducible refine Below.alloc' ?_ _) | (with_reducible refine Below.drew ?_) | (with_reducible refine below_drewN ?_ _) | ((with_reducible refine Below.setCell ?_ ?_ _); rotate_left; (focus (first | exact Nat.le_refl _ | (simp; done) | (simp; omega)))) | (with_reducible assumption) | (with_reducible exact Below.refl _ _)))) hb2; have lc := hL2.cell; have lf := hL2.frozen; have hg : w.heap.size + 1 < w1.heap.size := hO1.lt; clear hb2 hbel1 hO1))
  refine wp_gen (fun W => Blk W w1.heap.size (row 5 (fV (cF (cF f)))) 39 ∧ Blk W (w.heap.size + 1) [.int .u64 0, .int .u64 0, .int .u64 0, .int .u64 0, .int .u64 0] 39 ∧ Below w.heap.size w W) ?_ (fun W hW => ?_)
  · exact ⟨(((((hL2.set 0 (.int .u64 (cF (cF f) 0 : Nat))).set 1 (.int .u64 (cF (cF f) 1 : Nat))).set 2 (.int .u64 (cF (cF f) 2 : Nat))).set 3 (.int .u64 (cF (cF f) 3 : Nat))).set 4 (.int .u64 (cF (cF f) 4 : Nat))), (((((hO2.other _ (by simp; omega) _).other _ (by simp; omega) _).other _ (by simp; omega) _).other _ (by simp; omega) _).other _ (by simp; omega) _), (by repeat (first | (with_reducible refine Below.alloc' ?_ _) | (with_reducible refine Below.drew ?_) | (with_reducible refine below_drewN ?_ _) | ((with_reducible refine Below.setCell ?_ ?_ _); rotate_left; (focus (first | exact Nat.le_refl _ | (simp; done) | (simp; omega)))) | (with_reducible assumption) | (with_reducible exact Below.refl _ _)))⟩
  obtain ⟨hA, hO, hbel⟩ := hW
  clear hbel2 lc lf hL2 hO2
  generalize w1.heap.size = g at *
  clear w1 w2
  generalize cF (cF f) = G at *
  have HS := Lib.hid (fun k hk => HE.out.sum_lt 19 k (by omega) hk)
  go_wp2
  go_loopw [4, 14] (fun c i wr => ∃ k : Nat, k ≤ 5 ∧ i = .int .i64 k ∧ c = .int .u64 (cr G 19 k : Nat) ∧ Blk wr g (row 5 (fV G)) 39 ∧ Blk wr (w.heap.size + 1) [.int .u64 0, .int .u64 0, .int .u64 0, .int .u64 0, .int .u64 0] 39 ∧ Below w.heap.size w wr) (fun _ i _ => 5 - (intOf i).toNat)
  case atStart => exact ⟨0, by omega, rfl, rfl, hA, hO, hbel⟩
  case round =>
    clear hA hO hbel W
    obtain ⟨k, hk, rfl, rfl, hA, hO, hbel⟩ := hrel
    by_cases hlt : k < 5
    · obtain ⟨s, hs, hs0, hs1, ha, hd⟩ := pass_step G 19 k (HS.out k hlt)
      have hcell : wr.cell? ⟨g, k, none⟩ = some (.int .u64 (G k : Nat)) := hA.at hlt
      have HD := Lib.hid hd
      have HA := Lib.hid hA; have HO := Lib.hid hO
      clear hA hO hd ha
      go_wp2
      go_roundw
      case rel => exact ⟨k + 1, by omega, by go_num, by rw [HD.out], HA.out, HO.out, hbel⟩
      case measure => simp [intOf]; omega
    · obtain rfl : k = 5 := by omega
      have h5 : cr G 19 5 ≤ 1 := by
        have := HE.out.lim.val
        rw [(cr_five G 19).1]; omega
      have hm : IntKind.u64.wrap (((cr G 19 5 : Nat) : Int) * 19) = ((cr G 19 5 * 19 : Nat) : Int) := by rw [wrapU]; omega
      have HW := Lib.hid (fun i hi => whole_dg HE.out i hi)
      have h19 : cr G 19 5 * 19 ≤ 19 := by omega
      have HS2 := Lib.hid (fun k hk => HE.out.sum_lt (cr G 19 5 * 19) k h19 hk)
      clear h5 h19 hlt hk HS
      generalize cr G 19 5 * 19 = c1 at *
      go_wp2
      clear hm
      go_loopw [4, 26] (fun c i wr => ∃ k : Nat, k ≤ 5 ∧ i = .int .i64 k ∧ c = .int .u64 (cr G c1 k : Nat) ∧ Blk wr g (row 5 (pasV G c1 k)) 39 ∧ Blk wr (w.heap.size + 1) [.int .u64 0, .int .u64 0, .int .u64 0, .int .u64 0, .int .u64 0] 39 ∧ Below w.heap.size w wr) (fun _ i _ => 5 - (intOf i).toNat)
      case atStart => exact ⟨0, by omega, rfl, rfl, by rw [pasV_zero]; exact hA, hO, hbel⟩
      clear hA hO hbel
      case round =>
        obtain ⟨k, hk, rfl, rfl, hA, hO, hbel⟩ := hrel
        by_cases hlt : k < 5
        · obtain ⟨s, hs, hs0, hs1, ha, hd⟩ := pass_step G c1 k (HS2.out k hlt)
          have hcell := hA.at hlt
          rw [pasV_at] at hcell
          have hfr := hA.frozen k
          have HD := Lib.hid hd
          have HA := Lib.hid ((hA.set k (.int .u64 s)).set k (.int .u64 (pas G c1 k : Nat)))
          have HO := Lib.hid ((hO.other ⟨g, k, none⟩ (by simp; omega) (.int .u64 s)).other ⟨g, k, none⟩ (by simp; omega) (.int .u64 (pas G c1 k : Nat)))
          clear hA hO hd
          go_wp2
          go_roundw
          case rel => exact ⟨k + 1, by omega, by go_num, by rw [HD.out], by have := HA.out; rw [List.set_set, pasV_set] at this; exact this, HO.out, (by repeat (first | (with_reducible refine Below.alloc' ?_ _) | (with_reducible refine Below.drew ?_) | (with_reducible refine below_drewN ?_ _) | ((with_reducible refine Below.setCell ?_ ?_ _); rotate_left; (focus (first | exact Nat.le_refl _ | (simp; done) | (simp; omega)))) | (with_reducible assumption) | (with_reducible exact Below.refl _ _)))⟩
          case measure => simp [intOf]; omega
        · obtain rfl : k = 5 := by omega
          rw [pasV_five, row5] at hA
          unfold fV at hA
          rw [HW.out 0 (by omega), HW.out 1 (by omega), HW.out 2 (by omega), HW.out 3 (by omega), HW.out 4 (by omega)] at hA
          have hAc := hA.cell; have hOc := hO.cell; have hOf := hO.frozen
          clear hA hO
          go_wp2
          exact bodyPost_ret (v := .agg #[.int .u64 (dg x 0 : Nat), .int .u64 (dg x 1 : Nat), .int .u64 (dg x 2 : Nat), .int .u64 (dg x 3 : Nat), .int .u64 (dg x 4 : Nat)]) (by simp [results, Try.results43, go_sem, hOc]) rfl ⟨rfl, (by repeat (first | (with_reducible refine Below.alloc' ?_ _) | (with_reducible refine Below.drew ?_) | (with_reducible refine below_drewN ?_ _) | ((with_reducible refine Below.setCell ?_ ?_ _); rotate_left; (focus (first | exact Nat.le_refl _ | (simp; done) | (simp; omega)))) | (with_reducible assumption) | (with_reducible exact Below.refl _ _)))⟩
end Go.Proofs.Ytmoggjbnlimepaa
