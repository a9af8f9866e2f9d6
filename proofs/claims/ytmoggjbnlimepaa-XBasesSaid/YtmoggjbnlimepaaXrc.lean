/- The document's own X25519, first part: clamping. -/
import Derived.Test.YtmoggjbnlimepaaXcl
import Derived.Test.YtmoggjbnlimepaaRfg
namespace Go.Proofs.Ytmoggjbnlimepaa
open Go.RowKit

set_option maxHeartbeats 400000 in
theorem rclamp_any {a : Option Addr} {n cap : Nat} {l : List UInt8} (w : World) (h : RdB w a n cap l) :
    Calls Try.prog 15 #[.slice a n cap] w fun e w' => e = .returned (.slice (some ⟨w.heap.size, 0, none⟩) 32 32) ∧ Blk w' w.heap.size ((clampB l).map bV) 5 ∧ Below w.heap.size w w' := by
  have hlen := first_len l 32
  have HC : Hid (clampB l = ((first l 32).set 0 ((first l 32).getD 0 0 &&& 248)).set 31 (((first l 32).getD 31 0 &&& 127) ||| 64)) := Lib.hid rfl
  generalize hfl : first l 32 = fl at *
  have HF := Lib.hid hfl; have HL := Lib.hid hlen
  obtain ⟨c0, hc0⟩ : ∃ c0, c0 = fl.getD 0 0 := ⟨_, rfl⟩
  obtain ⟨c1, hc1⟩ : ∃ c1, c1 = fl.getD 31 0 := ⟨_, rfl⟩
  have H0 := Lib.hid hc0; have H1 := Lib.hid hc1
  obtain ⟨d0, hd0⟩ : ∃ d0, d0 = c0 &&& 248 := ⟨_, rfl⟩
  obtain ⟨d1, hd1⟩ : ∃ d1, d1 = c1 &&& 127 := ⟨_, rfl⟩
  obtain ⟨d2, hd2⟩ : ∃ d2, d2 = d1 ||| 64 := ⟨_, rfl⟩
  have e0 : bits BinOp.and IntKind.u8 (c0.toNat : Int) 248 = ((d0.toNat : Nat) : Int) := by rw [hd0]; exact and8 c0 248
  have e1 : bits BinOp.and IntKind.u8 (c1.toNat : Int) 127 = ((d1.toNat : Nat) : Int) := by rw [hd1]; exact and8 c1 127
  have e2 : bits BinOp.or IntKind.u8 ((d1.toNat : Nat) : Int) 64 = ((d2.toNat : Nat) : Int) := by rw [hd2]; exact or8 d1 64
  rw [hd1] at hd2
  have D0 := Lib.hid hd0; have D2 := Lib.hid hd2
  clear hd0 hd1 hd2
  clear hfl hlen hc0 hc1
  go_enter Try.func15, Try.ntmps15
  go_wp2_with (go_at_call 29; go_must (refine (fill_any 32 (by omega) _ h).mono ?_; rintro e w1 ⟨rfl, hB, hb⟩; rw [HF.out] at hB; have k0 : w1.cell? ⟨w.heap.size, 0, none⟩ = some (.int .u8 (c0.toNat : Int)) := (by rw [hB.cell, H0.out]; have := HL.out; simp [bV, List.getElem?_eq_getElem (show 0 < fl.length by omega)]); have k1 : w1.cell? ⟨w.heap.size, 31, none⟩ = some (.int .u8 (c1.toNat : Int)) := (by rw [hB.cell, H1.out]; have := HL.out; simp [bV, List.getElem?_eq_getElem (show 31 < fl.length by omega)]); have kf := hB.frozen; have HB := Lib.hid hB; clear hB))
  go_ret
  refine ⟨rfl, ?_, (by repeat (first | (with_reducible refine Below.alloc' ?_ _) | (with_reducible refine Below.drew ?_) | (with_reducible refine below_drewN ?_ _) | ((with_reducible refine Below.setCell ?_ ?_ _); rotate_left; (focus (first | exact Nat.le_refl _ | (simp; done) | (simp; omega)))) | (with_reducible assumption) | (with_reducible exact Below.refl _ _)))⟩
  have hB := (HB.out.set 0 (bV d0)).set 31 (bV d2)
  rw [← List.map_set, ← List.map_set] at hB
  rw [HC.out, ← H0.out, ← H1.out, ← D0.out, ← D2.out]
  exact hB
end Go.Proofs.Ytmoggjbnlimepaa
