/- The walks of the document's own scalars, second part: a number mod L, digit by digit. -/
import Derived.Test.YtbgfokdchpcifaaSrw
import Derived.Test.YtbgfokdchpcifaaRoz
namespace Go.Proofs.Ytbgfokdchpcifaa
open Go.RowKit

/-- The row, the last bytes doubled. -/
def shV (r b t i : Nat) : Nat := if t ≤ i then dB (2 * r + b) (32 - i) else dB r (32 - i)
theorem shV_start (r b : Nat) : row 33 (uV (shV r b 33)) = row 33 (uV (bR 33 r)) := row_ext fun i hi => by unfold uV shV bR; rw [if_neg (by omega)]
theorem shV_full (r b : Nat) : row 33 (uV (shV r b 0)) = row 33 (uV (bR 33 (2 * r + b))) := row_ext fun i hi => by unfold uV shV bR; rw [if_pos (by omega)]
theorem shV_step (r b t : Nat) : (row 33 (uV (shV r b (t + 1)))).set t (.int .u8 (dB (2 * r + b) (32 - t) : Nat)) = row 33 (uV (shV r b t)) := by
  refine row_set t _ (by simp [uV, shV]) (fun i _ hi => ?_)
  unfold uV shV
  by_cases h : t ≤ i
  · rw [if_pos h, if_pos (by omega)]
  · rw [if_neg h, if_neg (by omega)]
theorem z33_row : row 33 (uV (bR 33 0)) = [.int .u8 0,.int .u8 0,.int .u8 0,.int .u8 0,.int .u8 0,.int .u8 0,.int .u8 0,.int .u8 0,.int .u8 0,.int .u8 0,.int .u8 0,.int .u8 0,.int .u8 0,.int .u8 0,.int .u8 0,.int .u8 0,.int .u8 0,.int .u8 0,.int .u8 0,.int .u8 0,.int .u8 0,.int .u8 0,.int .u8 0,.int .u8 0,.int .u8 0,.int .u8 0,.int .u8 0,.int .u8 0,.int .u8 0,.int .u8 0,.int .u8 0,.int .u8 0,.int .u8 0] := by kernel_rfl
theorem infoA33 (f : Nat → Nat) : (Try.prog.info? 64).map (·.size) = some (row 33 (uV f)).length := by rw [row_len]; kernel_rfl
theorem one_rowB (n : Nat) (f : Nat → Nat) : ∀ v ∈ row n (uV f), v.oneCell' = true := fun v hv => by
  simp [row] at hv
  obtain ⟨i, _, rfl⟩ := hv
  rfl
theorem infoSc (f : Nat → Nat) : (Try.prog.info? 40).map (·.size) = some (row 32 (uV f)).length := by rw [row_len]; kernel_rfl
theorem infoScA (f : Nat → Nat) : (Try.prog.info? 40).map (·.size) = some (row 32 (uV f)).toArray.size := by rw [List.size_toArray]; exact infoSc f
theorem or_low (d c : Nat) (hd : d < 256) (hc : c < 2) : bits BinOp.or IntKind.u8 ((d : Int) * 2 % 256) (c : Int) = ((2 * d % 256 + c : Nat) : Int) := by
  have hc2 : c = 0 ∨ c = 1 := by omega
  rcases hc2 with rfl | rfl
  · revert hd; revert d; decide +kernel
  · revert hd; revert d; decide +kernel
theorem byte_bit (c j : Nat) (hc : c < 256) : bits BinOp.and IntKind.u8 ((c : Int) / 2 ^ j) 1 = ((c / 2 ^ j % 2 : Nat) : Int) := by
  have h1 : c / 2 ^ j < 256 := Nat.lt_of_le_of_lt (Nat.div_le_self _ _) hc
  rw [show ((c : Int) / 2 ^ j) = ((c / 2 ^ j : Nat) : Int) from by simp]
  generalize c / 2 ^ j = q at *
  revert h1; revert q; decide +kernel
/-- The row, L taken off the last bytes. -/
def suV (x t i : Nat) : Nat := if t ≤ i then dB (x - Lq) (32 - i) else dB x (32 - i)
theorem suV_start (x : Nat) : row 33 (uV (suV x 33)) = row 33 (uV (bR 33 x)) := row_ext fun i hi => by unfold uV suV bR; rw [if_neg (by omega)]
theorem suV_full (x : Nat) : row 33 (uV (suV x 0)) = row 33 (uV (bR 33 (x - Lq))) := row_ext fun i hi => by unfold uV suV bR; rw [if_pos (by omega)]
theorem suV_step (x t : Nat) : (row 33 (uV (suV x (t + 1)))).set t (.int .u8 (dB (x - Lq) (32 - t) : Nat)) = row 33 (uV (suV x t)) := by
  refine row_set t _ (by simp [uV, suV]) (fun i _ hi => ?_)
  unfold uV suV
  by_cases h : t ≤ i
  · rw [if_pos h, if_pos (by omega)]
  · rw [if_neg h, if_neg (by omega)]
theorem dB_Lq32 : dB Lq 32 = 0 := by decide +kernel
set_option maxHeartbeats 4000000 in
theorem rmod_any {a : Option Addr} {n cap : Nat} {l : List UInt8} (w : World) (h : RdB w a n cap l) (hn : n ≤ 1000) :
    Calls Try.prog 33 #[.slice a n cap] w fun e w' => e = .returned (.agg (row 32 (uV (bR 32 (beN l % Lq)))).toArray) ∧ Below w.heap.size w w' := by
  have HH := Lib.hid h
  clear h
  have hn' : (n : Int) ≤ 1000 := by omega
  go_enter Try.func33, Try.ntmps33
  go_upto_region 3 with (go_at_call 32; go_must (refine (rorder_any _).mono ?_; rintro e w1 ⟨rfl, hP, hb⟩))
  refine wp_gen (fun W => Blk W w.heap.size [.int .u8 0, .int .u8 0, .int .u8 0, .int .u8 0, .int .u8 0, .int .u8 0, .int .u8 0, .int .u8 0, .int .u8 0, .int .u8 0, .int .u8 0, .int .u8 0, .int .u8 0, .int .u8 0, .int .u8 0, .int .u8 0, .int .u8 0, .int .u8 0, .int .u8 0, .int .u8 0, .int .u8 0, .int .u8 0, .int .u8 0, .int .u8 0, .int .u8 0, .int .u8 0, .int .u8 0, .int .u8 0, .int .u8 0, .int .u8 0, .int .u8 0, .int .u8 0] 40 ∧ Blk W (w.heap.size + 1) (row 33 (uV (bR 33 0))) 64 ∧ Blk W (w.heap.size + 1 + 1) (row 32 (uV (bR 32 Lq))) 5 ∧ Below w.heap.size w W) ?_ (fun W0 hW => ?_)
  · rw [z33_row]
    exact ⟨((Blk.new w _ _).alloc _).below' hb, (Blk.new' (by simp)).below' hb, by simpa using hP, Below.call (by repeat (first | (with_reducible refine Below.alloc' ?_ _) | (with_reducible refine Below.drew ?_) | (with_reducible refine below_drewN ?_ _) | ((with_reducible refine Below.setCell ?_ ?_ _); rotate_left; (focus (first | exact Nat.le_refl _ | (simp; done) | (simp; omega)))) | (with_reducible assumption) | (with_reducible exact Below.refl _ _))) hb⟩
  clear hP hb w1
  obtain ⟨hO, hA, hP, hbel⟩ := hW
  go_wp2
  go_loopw [5] (fun i wr => ∃ k : Nat, k ≤ n ∧ i = .int .i64 (k : Int) ∧ Blk wr w.heap.size [.int .u8 0, .int .u8 0, .int .u8 0, .int .u8 0, .int .u8 0, .int .u8 0, .int .u8 0, .int .u8 0, .int .u8 0, .int .u8 0, .int .u8 0, .int .u8 0, .int .u8 0, .int .u8 0, .int .u8 0, .int .u8 0, .int .u8 0, .int .u8 0, .int .u8 0, .int .u8 0, .int .u8 0, .int .u8 0, .int .u8 0, .int .u8 0, .int .u8 0, .int .u8 0, .int .u8 0, .int .u8 0, .int .u8 0, .int .u8 0, .int .u8 0, .int .u8 0] 40 ∧ Blk wr (w.heap.size + 1) (row 33 (uV (bR 33 (beN (l.take k) % Lq)))) 64 ∧ Blk wr (w.heap.size + 1 + 1) (row 32 (uV (bR 32 Lq))) 5 ∧ Below w.heap.size w wr) (fun i _ => (n - intOf i).toNat)
  case atStart => exact ⟨0, by omega, rfl, hO, hA, hP, hbel⟩
  case round =>
    clear hO hA hP hbel W0
    obtain ⟨k, hk, rfl, hO, hA, hP, hbel⟩ := hrel
    by_cases hlt : k < n
    · have hlen := HH.out.hlen
      obtain ⟨b, o, hab, hc⟩ := HH.out.get k (by omega)
      have HB := Lib.hid (beN_take l k (by omega))
      generalize beN (l.take k) = V at *
      generalize hcc : l[k] = c at *
      have hcl := c.toNat_lt
      obtain ⟨C, hC⟩ : ∃ C, C = c.toNat := ⟨_, rfl⟩
      rw [← hC] at HB hcl
      have hcell : w.cell? ⟨b, o + k, none⟩ = some (.int .u8 (C : Int)) := by rw [hC]; exact hc
      have HCELL := Lib.hid hcell
      subst hab
      clear hc hC hlen hcell hcc
      have k0 : (0 : Int) ≤ (k : Int) := by omega
      have k1 : (k : Int) < (n : Int) := by omega
      have e8 : partN V C 8 = V := partN_8 V C hcl
      rw [← e8] at hA
      have HCL := Lib.hid hcl
      clear e8 hlt
      go_upto_region 7 with fail
      go_loopw [6] (fun i wr => ∃ q : Nat, q ≤ 8 ∧ i = .int .i64 ((q : Int) - 1) ∧ Blk wr w.heap.size [.int .u8 0, .int .u8 0, .int .u8 0, .int .u8 0, .int .u8 0, .int .u8 0, .int .u8 0, .int .u8 0, .int .u8 0, .int .u8 0, .int .u8 0, .int .u8 0, .int .u8 0, .int .u8 0, .int .u8 0, .int .u8 0, .int .u8 0, .int .u8 0, .int .u8 0, .int .u8 0, .int .u8 0, .int .u8 0, .int .u8 0, .int .u8 0, .int .u8 0, .int .u8 0, .int .u8 0, .int .u8 0, .int .u8 0, .int .u8 0, .int .u8 0, .int .u8 0] 40 ∧ Blk wr (w.heap.size + 1) (row 33 (uV (bR 33 (partN V C q % Lq)))) 64 ∧ Blk wr (w.heap.size + 1 + 1) (row 32 (uV (bR 32 Lq))) 5 ∧ Below w.heap.size w wr) (fun i _ => (intOf i + 1).toNat)
      case atStart => exact ⟨8, by omega, rfl, hO, hA, hP, hbel⟩
      case round =>
        clear hO hA hP hbel
        obtain ⟨q, hq, rfl, hO, hA, hP, hbel⟩ := hrel
        by_cases hq0 : q = 0
        · subst hq0
          rw [partN_0, ← HB.out] at hA
          rw [show (((0 : Nat) : Int) - 1) = -1 from rfl]
          go_wp2
          go_roundw
          case rel => exact ⟨k + 1, by omega, by go_num, hO, hA, hP, hbel⟩
          case measure => simp [intOf]; omega
        · obtain ⟨j, rfl⟩ : ∃ j, q = j + 1 := ⟨q - 1, by omega⟩
          have hj : j < 8 := by omega
          rw [show (((j + 1 : Nat) : Int) - 1) = (j : Int) from by omega]
          have HPO := Lib.hid (part_once V C j hj)
          have HR : Hid (partN V C (j + 1) % Lq < Lq) := Lib.hid (Nat.mod_lt _ (by unfold Lq; omega))
          generalize partN V C (j + 1) % Lq = R at *
          have hcw : wr.cell? ⟨b, o + k, none⟩ = some (.int .u8 (C : Int)) := by rw [hbel.cell (cell_lt HCELL.out)]; exact HCELL.out
          have j0 : (0 : Int) ≤ (j : Int) := by omega
          have j1 : (j : Int) < 8 := by omega
          have hbit : bits BinOp.and IntKind.u8 ((C : Int) / 2 ^ j) 1 = ((C / 2 ^ j % 2 : Nat) : Int) := byte_bit C j HCL.out
          have HBT : Hid (C / 2 ^ j % 2 < 2) := Lib.hid (Nat.mod_lt _ (by omega))
          generalize C / 2 ^ j % 2 = bt at *
          clear hq0 hq
          go_upto_region 11 with fail
          go_loopw [7, 8] (fun cv i wr => ∃ t : Nat, t ≤ 33 ∧ i = .int .i64 ((t : Int) - 1) ∧ cv = .int .u8 (shc R bt (33 - t) : Nat) ∧ Blk wr w.heap.size [.int .u8 0, .int .u8 0, .int .u8 0, .int .u8 0, .int .u8 0, .int .u8 0, .int .u8 0, .int .u8 0, .int .u8 0, .int .u8 0, .int .u8 0, .int .u8 0, .int .u8 0, .int .u8 0, .int .u8 0, .int .u8 0, .int .u8 0, .int .u8 0, .int .u8 0, .int .u8 0, .int .u8 0, .int .u8 0, .int .u8 0, .int .u8 0, .int .u8 0, .int .u8 0, .int .u8 0, .int .u8 0, .int .u8 0, .int .u8 0, .int .u8 0, .int .u8 0] 40 ∧ Blk wr (w.heap.size + 1) (row 33 (uV (shV R bt t))) 64 ∧ Blk wr (w.heap.size + 1 + 1) (row 32 (uV (bR 32 Lq))) 5 ∧ Below w.heap.size w wr) (fun _ i _ => (intOf i + 1).toNat)
          case atStart => exact ⟨33, by omega, rfl, by rw [Nat.sub_self, shc_zero], hO, by rw [shV_start]; exact hA, hP, hbel⟩
          case round =>
            clear hO hA hP hbel hcw
            obtain ⟨t, ht, rfl, rfl, hO, hA, hP, hbel⟩ := hrel
            by_cases ht0 : t = 0
            · subst ht0
              rw [shV_full] at hA
              have HX : Hid (2 * R + bt < 2 * Lq) := Lib.hid (by have := HR.out; have := HBT.out; omega)
              rw [show (((0 : Nat) : Int) - 1) = -1 from rfl]
              generalize 2 * R + bt = X at *
              have HX33 : Hid (X < 256 ^ 33) := Lib.hid (Nat.lt_trans HX.out (by decide +kernel))
              have hAr := hA.range
              have HA := Lib.hid hA; have HO := Lib.hid hO; have HP := Lib.hid hP
              clear hA hO hP
              by_cases hx : Lq ≤ X
              · have HD := Lib.hid (decide_eq_true hx)
                have HXL := Lib.hid hx
                clear hx
                go_upto_region 17 with (first | (refine wpList_load_mid rfl 64 (.tmp 3) rfl (w.heap.size + 1) 0 rfl (row 33 (uV (bR 33 X))) _ hAr Try.underlying64 rfl (infoA33 _) ?_) | (go_at_call 43; (with_reducible refine (raboveB HX33.out HD.out _).mono ?_; rintro e w2 ⟨rfl, hb⟩; have HO2 := Lib.hid (HO.out.below' hb); have HA2 := Lib.hid (HA.out.below' hb); have HP2 := Lib.hid (HP.out.below' hb); have hbel2 := Below.call hbel hb; clear hAr hb)))
                go_upto_region 19 with fail
                go_loopw [10, 11] (fun bw i wr => ∃ t : Nat, t ≤ 33 ∧ i = .int .i64 ((t : Int) - 1) ∧ bw = .int .i64 (bwB X Lq (33 - t) : Nat) ∧ Blk wr w.heap.size [.int .u8 0, .int .u8 0, .int .u8 0, .int .u8 0, .int .u8 0, .int .u8 0, .int .u8 0, .int .u8 0, .int .u8 0, .int .u8 0, .int .u8 0, .int .u8 0, .int .u8 0, .int .u8 0, .int .u8 0, .int .u8 0, .int .u8 0, .int .u8 0, .int .u8 0, .int .u8 0, .int .u8 0, .int .u8 0, .int .u8 0, .int .u8 0, .int .u8 0, .int .u8 0, .int .u8 0, .int .u8 0, .int .u8 0, .int .u8 0, .int .u8 0, .int .u8 0] 40 ∧ Blk wr (w.heap.size + 1) (row 33 (uV (suV X t))) 64 ∧ Blk wr (w.heap.size + 1 + 1) (row 32 (uV (bR 32 Lq))) 5 ∧ Below w.heap.size w wr) (fun _ i _ => (intOf i + 1).toNat)
                case atStart => exact ⟨33, by omega, rfl, by rw [Nat.sub_self, bwB_zero]; rfl, HO2.out, by rw [suV_start]; exact HA2.out, HP2.out, hbel2⟩
                case round =>
                  clear HO2 HA2 HP2 hbel2 HA HO HP hbel
                  obtain ⟨t, ht, rfl, rfl, hO, hA, hP, hbel⟩ := hrel
                  by_cases ht0 : t = 0
                  · subst ht0
                    rw [suV_full] at hA
                    have HON : Hid (once X = X - Lq) := Lib.hid (by unfold once; rw [if_neg (by have := HXL.out; omega)])
                    rw [show (((0 : Nat) : Int) - 1) = -1 from rfl]
                    have HA3 := Lib.hid hA; have HO3 := Lib.hid hO; have HP3 := Lib.hid hP
                    clear hA hO hP
                    go_wp2
                    go_roundw
                    case rel => exact ⟨j, by omega, rfl, HO3.out, by rw [HPO.out, HON.out]; exact HA3.out, HP3.out, hbel⟩
                    case measure => simp [intOf]
                  · obtain ⟨i, rfl⟩ : ∃ i, t = i + 1 := ⟨t - 1, by omega⟩
                    rw [show (((i + 1 : Nat) : Int) - 1) = (i : Int) from by omega]
                    rw [show 33 - (i + 1) = 32 - i by omega]
                    have s1 := sub_step HXL.out (32 - i)
                    have s2 := bwB_int X Lq (32 - i)
                    have s3 := bwB_le X Lq (32 - i)
                    have s4 := dB_lt X (32 - i)
                    have s5 := dB_lt Lq (32 - i)
                    have ca : wr.cell? ⟨w.heap.size + 1, i, none⟩ = some (.int .u8 (dB X (32 - i) : Nat)) := by
                      rw [hA.at (by omega)]; unfold uV suV; rw [if_neg (by omega)]
                    have hfr := hA.frozen i
                    have i0 : (0 : Int) ≤ (i : Int) := by omega
                    have i1 : (i : Int) < 33 := by omega
                    obtain ⟨D, hD⟩ : ∃ D, D = dB (X - Lq) (32 - i) := ⟨_, rfl⟩
                    have s6 := dB_lt (X - Lq) (32 - i)
                    rw [← hD] at s1 s6
                    have hA2 := hA.set i (.int .u8 (D : Nat))
                    rw [hD, suV_step] at hA2
                    have HA3 := Lib.hid hA2
                    have HO3 := Lib.hid (hO.other ⟨w.heap.size + 1, i, none⟩ (by simp) (.int .u8 (D : Nat)))
                    have HP3 := Lib.hid (hP.other ⟨w.heap.size + 1, i, none⟩ (by simp) (.int .u8 (D : Nat)))
                    rw [← hD] at HA3
                    obtain ⟨v', hv'⟩ : ∃ v', v' = bwB X Lq (32 - i + 1) := ⟨_, rfl⟩
                    have HBW := Lib.hid hv'
                    rw [← hv'] at s2
                    by_cases hi0 : i = 0
                    · subst hi0
                      have hB0 : dB Lq (32 - 0) = 0 := dB_Lq32
                      rw [hB0] at s1 s2
                      generalize dB X (32 - 0) = A at *
                      generalize bwB X Lq (32 - 0) = v at *
                      obtain ⟨V0, hV0⟩ : ∃ V0 : Int, V0 = (A : Int) - ((0 : Nat) : Int) - (v : Int) := ⟨_, rfl⟩
                      rw [← hV0] at s1 s2
                      have hv1 : -256 ≤ V0 := by omega
                      have hv2 : V0 ≤ 255 := by omega
                      have HV0 := Lib.hid hV0
                      have hvv := hV0
                      clear hV0 hD hv' hA hO hP hA2 ht0 hB0 s5
                      by_cases hneg : V0 < 0
                      · rw [if_pos hneg] at s1 s2
                        have hv : (A : Int) - (v : Int) = V0 := by rw [HV0.out]; omega
                        have hvn : V0 < 0 := by omega
                        have hsum : V0 + 256 = (D : Nat) := by omega
                        have HBN : Hid ((v' : Nat) = 1) := Lib.hid (by omega)
                        clear s1 s2 hvv hneg
                        go_wp2
                        go_roundw
                        case rel => exact ⟨0, by omega, rfl, by rw [show 33 - 0 = 32 - 0 + 1 by omega, ← HBW.out, HBN.out]; rfl, HO3.out, HA3.out, HP3.out, (by repeat (first | (with_reducible refine Below.alloc' ?_ _) | (with_reducible refine Below.drew ?_) | (with_reducible refine below_drewN ?_ _) | ((with_reducible refine Below.setCell ?_ ?_ _); rotate_left; (focus (first | exact Nat.le_refl _ | (simp; done) | (simp; omega)))) | (with_reducible assumption) | (with_reducible exact Below.refl _ _)))⟩
                        case measure => simp [intOf]
                      · rw [if_neg hneg] at s1 s2
                        have hv : (A : Int) - (v : Int) = V0 := by rw [HV0.out]; omega
                        have hvn : ¬ V0 < 0 := by omega
                        have hsum : V0 = (D : Nat) := by omega
                        have HBN : Hid ((v' : Nat) = 0) := Lib.hid (by omega)
                        clear hv1 hv2
                        subst hsum
                        clear s1 s2 hvv hneg
                        go_wp2
                        go_roundw
                        case rel => exact ⟨0, by omega, rfl, by rw [show 33 - 0 = 32 - 0 + 1 by omega, ← HBW.out, HBN.out]; rfl, HO3.out, HA3.out, HP3.out, (by repeat (first | (with_reducible refine Below.alloc' ?_ _) | (with_reducible refine Below.drew ?_) | (with_reducible refine below_drewN ?_ _) | ((with_reducible refine Below.setCell ?_ ?_ _); rotate_left; (focus (first | exact Nat.le_refl _ | (simp; done) | (simp; omega)))) | (with_reducible assumption) | (with_reducible exact Below.refl _ _)))⟩
                        case measure => simp [intOf]
                    · have cp : wr.cell? ⟨w.heap.size + 1 + 1, i - 1, none⟩ = some (.int .u8 (dB Lq (32 - i) : Nat)) := by
                        have := hP.at (k := i - 1) (by omega)
                        rw [this]; unfold uV bR; rw [show 32 - 1 - (i - 1) = 32 - i by omega]
                      have ipos : (0 : Int) < (i : Int) := by omega
                      generalize dB X (32 - i) = A at *
                      generalize dB Lq (32 - i) = B at *
                      generalize bwB X Lq (32 - i) = v at *
                      obtain ⟨V0, hV0⟩ : ∃ V0 : Int, V0 = (A : Int) - (B : Int) - (v : Int) := ⟨_, rfl⟩
                      rw [← hV0] at s1 s2
                      have hv1 : -256 ≤ V0 := by omega
                      have hv2 : V0 ≤ 255 := by omega
                      have HV0 := Lib.hid hV0
                      have hvv := hV0
                      obtain ⟨i', rfl⟩ : ∃ i', i = i' + 1 := ⟨i - 1, by omega⟩
                      rw [Nat.add_sub_cancel] at cp
                      clear hV0 hD hv' hA hO hP hA2 ht0 hi0
                      by_cases hneg : V0 < 0
                      · rw [if_pos hneg] at s1 s2
                        have hv : (A : Int) - (B : Int) - (v : Int) = V0 := HV0.out.symm
                        have hvn : V0 < 0 := by omega
                        have hsum : V0 + 256 = (D : Nat) := by omega
                        have HBN : Hid ((v' : Nat) = 1) := Lib.hid (by omega)
                        clear s1 s2 hvv hneg
                        go_wp2
                        go_roundw
                        case rel => exact ⟨i' + 1, by omega, by go_num, by rw [show 33 - (i' + 1) = 32 - (i' + 1) + 1 by omega, ← HBW.out, HBN.out]; rfl, HO3.out, HA3.out, HP3.out, (by repeat (first | (with_reducible refine Below.alloc' ?_ _) | (with_reducible refine Below.drew ?_) | (with_reducible refine below_drewN ?_ _) | ((with_reducible refine Below.setCell ?_ ?_ _); rotate_left; (focus (first | exact Nat.le_refl _ | (simp; done) | (simp; omega)))) | (with_reducible assumption) | (with_reducible exact Below.refl _ _)))⟩
                        case measure => simp [intOf] <;> omega
                      · rw [if_neg hneg] at s1 s2
                        have hv : (A : Int) - (B : Int) - (v : Int) = V0 := HV0.out.symm
                        have hvn : ¬ V0 < 0 := by omega
                        have hsum : V0 = (D : Nat) := by omega
                        have HBN : Hid ((v' : Nat) = 0) := Lib.hid (by omega)
                        clear hv1 hv2
                        subst hsum
                        clear s1 s2 hvv hneg
                        go_wp2
                        go_roundw
                        case rel => exact ⟨i' + 1, by omega, by go_num, by rw [show 33 - (i' + 1) = 32 - (i' + 1) + 1 by omega, ← HBW.out, HBN.out]; rfl, HO3.out, HA3.out, HP3.out, (by repeat (first | (with_reducible refine Below.alloc' ?_ _) | (with_reducible refine Below.drew ?_) | (with_reducible refine below_drewN ?_ _) | ((with_reducible refine Below.setCell ?_ ?_ _); rotate_left; (focus (first | exact Nat.le_refl _ | (simp; done) | (simp; omega)))) | (with_reducible assumption) | (with_reducible exact Below.refl _ _)))⟩
                        case measure => simp [intOf] <;> omega
              · have HD := Lib.hid (decide_eq_false hx)
                have HON : Hid (once X = X) := Lib.hid (by unfold once; rw [if_pos (by omega)])
                clear hx
                go_wp2_with (first | (refine wpList_load_mid rfl 64 (.tmp 3) rfl (w.heap.size + 1) 0 rfl (row 33 (uV (bR 33 X))) _ hAr Try.underlying64 rfl (infoA33 _) ?_) | (go_at_call 43; (with_reducible refine (raboveB HX33.out HD.out _).mono ?_; rintro e w2 ⟨rfl, hb⟩; have HO2 := Lib.hid (HO.out.below' hb); have HA2 := Lib.hid (HA.out.below' hb); have HP2 := Lib.hid (HP.out.below' hb); have hbel2 := Below.call hbel hb; clear hAr hb)))
                go_roundw
                case rel => exact ⟨j, by omega, rfl, HO2.out, by rw [HPO.out, HON.out]; exact HA2.out, HP2.out, hbel2⟩
                case measure => simp [intOf] <;> omega
            · obtain ⟨i, rfl⟩ : ∃ i, t = i + 1 := ⟨t - 1, by omega⟩
              rw [show (((i + 1 : Nat) : Int) - 1) = (i : Int) from by omega]
              rw [show 33 - (i + 1) = 32 - i by omega]
              obtain ⟨s1, s2⟩ := sh_step R bt (32 - i) HBT.out
              have s3 := shc_lt R bt (32 - i) HBT.out
              have s4 := dB_lt R (32 - i)
              have ca : wr.cell? ⟨w.heap.size + 1, i, none⟩ = some (.int .u8 (dB R (32 - i) : Nat)) := by
                rw [hA.at (by omega)]; unfold uV shV; rw [if_neg (by omega)]
              have hfr := hA.frozen i
              have i0 : (0 : Int) ≤ (i : Int) := by omega
              have i1 : (i : Int) < 33 := by omega
              obtain ⟨D, hD⟩ : ∃ D, D = dB (2 * R + bt) (32 - i) := ⟨_, rfl⟩
              obtain ⟨c', hc'⟩ : ∃ c', c' = shc R bt (32 - i + 1) := ⟨_, rfl⟩
              rw [← hD] at s1
              rw [← hc'] at s2
              have hA2 := hA.set i (.int .u8 (D : Nat))
              rw [hD, shV_step] at hA2
              have HA := Lib.hid hA2
              have HO := Lib.hid (hO.other ⟨w.heap.size + 1, i, none⟩ (by simp) (.int .u8 (D : Nat)))
              have HP := Lib.hid (hP.other ⟨w.heap.size + 1, i, none⟩ (by simp) (.int .u8 (D : Nat)))
              rw [← hD] at HA
              have HC := Lib.hid hc'
              generalize dB R (32 - i) = d at *
              generalize shc R bt (32 - i) = cc at *
              have f1 := or_low d cc s4 s3
              rw [← s1] at f1
              have f2 : (d : Int) / 128 = (c' : Nat) := by omega
              clear s1 s2 ht0 hA hO hP hA2 hc' hD
              go_wp2
              go_roundw
              case rel => exact ⟨i, by omega, rfl, by rw [HC.out, show 33 - i = 32 - i + 1 by omega], HO.out, HA.out, HP.out, (by repeat (first | (with_reducible refine Below.alloc' ?_ _) | (with_reducible refine Below.drew ?_) | (with_reducible refine below_drewN ?_ _) | ((with_reducible refine Below.setCell ?_ ?_ _); rotate_left; (focus (first | exact Nat.le_refl _ | (simp; done) | (simp; omega)))) | (with_reducible assumption) | (with_reducible exact Below.refl _ _)))⟩
              case measure => simp [intOf] <;> omega
    · obtain rfl : k = n := by omega
      rw [List.take_of_length_le (by rw [HH.out.hlen]; exact Nat.le_refl _)] at hA
      obtain ⟨R, hR⟩ : ∃ R, R = beN l % Lq := ⟨_, rfl⟩
      rw [← hR] at hA
      have HRR := Lib.hid hR
      clear hR
      have HA := Lib.hid hA; have HO := Lib.hid hO
      clear hA hO hP
      go_upto_region 31 with fail
      have hN := Blk.new wr #[.int .u8 0, .int .u8 0, .int .u8 0, .int .u8 0, .int .u8 0, .int .u8 0, .int .u8 0, .int .u8 0, .int .u8 0, .int .u8 0, .int .u8 0, .int .u8 0, .int .u8 0, .int .u8 0, .int .u8 0, .int .u8 0, .int .u8 0, .int .u8 0, .int .u8 0, .int .u8 0, .int .u8 0, .int .u8 0, .int .u8 0, .int .u8 0, .int .u8 0, .int .u8 0, .int .u8 0, .int .u8 0, .int .u8 0, .int .u8 0, .int .u8 0, .int .u8 0] 40
      have hAN := HA.out.alloc (.cells #[.int .u8 0, .int .u8 0, .int .u8 0, .int .u8 0, .int .u8 0, .int .u8 0, .int .u8 0, .int .u8 0, .int .u8 0, .int .u8 0, .int .u8 0, .int .u8 0, .int .u8 0, .int .u8 0, .int .u8 0, .int .u8 0, .int .u8 0, .int .u8 0, .int .u8 0, .int .u8 0, .int .u8 0, .int .u8 0, .int .u8 0, .int .u8 0, .int .u8 0, .int .u8 0, .int .u8 0, .int .u8 0, .int .u8 0, .int .u8 0, .int .u8 0, .int .u8 0] 40)
      have hON := HO.out.alloc (.cells #[.int .u8 0, .int .u8 0, .int .u8 0, .int .u8 0, .int .u8 0, .int .u8 0, .int .u8 0, .int .u8 0, .int .u8 0, .int .u8 0, .int .u8 0, .int .u8 0, .int .u8 0, .int .u8 0, .int .u8 0, .int .u8 0, .int .u8 0, .int .u8 0, .int .u8 0, .int .u8 0, .int .u8 0, .int .u8 0, .int .u8 0, .int .u8 0, .int .u8 0, .int .u8 0, .int .u8 0, .int .u8 0, .int .u8 0, .int .u8 0, .int .u8 0, .int .u8 0] 40)
      have hbelN : Below w.heap.size w (wr.alloc (.cells #[.int .u8 0, .int .u8 0, .int .u8 0, .int .u8 0, .int .u8 0, .int .u8 0, .int .u8 0, .int .u8 0, .int .u8 0, .int .u8 0, .int .u8 0, .int .u8 0, .int .u8 0, .int .u8 0, .int .u8 0, .int .u8 0, .int .u8 0, .int .u8 0, .int .u8 0, .int .u8 0, .int .u8 0, .int .u8 0, .int .u8 0, .int .u8 0, .int .u8 0, .int .u8 0, .int .u8 0, .int .u8 0, .int .u8 0, .int .u8 0, .int .u8 0, .int .u8 0] 40)) := (by repeat (first | (with_reducible refine Below.alloc' ?_ _) | (with_reducible refine Below.drew ?_) | (with_reducible refine below_drewN ?_ _) | ((with_reducible refine Below.setCell ?_ ?_ _); rotate_left; (focus (first | exact Nat.le_refl _ | (simp; done) | (simp; omega)))) | (with_reducible assumption) | (with_reducible exact Below.refl _ _)))
      have hlt2 : w.heap.size + 1 < wr.heap.size := HA.out.lt
      generalize wr.alloc (.cells #[.int .u8 0, .int .u8 0, .int .u8 0, .int .u8 0, .int .u8 0, .int .u8 0, .int .u8 0, .int .u8 0, .int .u8 0, .int .u8 0, .int .u8 0, .int .u8 0, .int .u8 0, .int .u8 0, .int .u8 0, .int .u8 0, .int .u8 0, .int .u8 0, .int .u8 0, .int .u8 0, .int .u8 0, .int .u8 0, .int .u8 0, .int .u8 0, .int .u8 0, .int .u8 0, .int .u8 0, .int .u8 0, .int .u8 0, .int .u8 0, .int .u8 0, .int .u8 0] 40) = W at *
      generalize wr.heap.size = g at *
      have HN := Lib.hid hN; have HAN := Lib.hid hAN; have HON := Lib.hid hON; have HLT := Lib.hid hlt2
      clear hN hAN hON hlt2 HA HO hbel
      have hb1 : ∀ v ∈ row 32 (uV (bR 32 R)), v.oneCell' = true := fun v hv => by
        simp [row] at hv
        obtain ⟨i, _, rfl⟩ := hv
        rfl
      have hsrc : 0 < (row 32 (uV (bR 32 R))).length → (some (⟨g, 0, none⟩ : Addr)) = some ⟨g, 0, none⟩ ∧ ∃ ad, (some (⟨w.heap.size + 1, 1, none⟩ : Addr)) = some ad ∧ ∀ j v, (row 32 (uV (bR 32 R)))[j]? = some v → W.drew.cell? (ad.add j) = some v := fun _ => ⟨rfl, _, rfl, fun j v hv => by
        have hj : j < 32 := by have := (List.getElem?_eq_some_iff.1 hv).1; rwa [row_len] at this
        rw [row_get hj] at hv
        rw [addr_add, Nat.add_comm 1 j, ← hv, (Blk.drew HAN.out).at (by omega)]
        unfold uV bR
        rw [show 33 - 1 - (j + 1) = 32 - 1 - j by omega]⟩
      go_region_law (refine step_copy_splice rfl (.tmp 80) (.tmp 81) 22 22 rfl 5 Try.underlying22 infoSz (some ⟨g, 0, none⟩) (some ⟨w.heap.size + 1, 1, none⟩) 32 32 32 32 (by simp [Act.eval, Act.put]) (by simp [Act.eval, Act.put]) g 0 [.int .u8 0, .int .u8 0, .int .u8 0, .int .u8 0, .int .u8 0, .int .u8 0, .int .u8 0, .int .u8 0, .int .u8 0, .int .u8 0, .int .u8 0, .int .u8 0, .int .u8 0, .int .u8 0, .int .u8 0, .int .u8 0, .int .u8 0, .int .u8 0, .int .u8 0, .int .u8 0, .int .u8 0, .int .u8 0, .int .u8 0, .int .u8 0, .int .u8 0, .int .u8 0, .int .u8 0, .int .u8 0, .int .u8 0, .int .u8 0, .int .u8 0, .int .u8 0] 40 (Blk.drew HN.out) (row 32 (uV (bR 32 R))) (by rw [row_len]; rfl) hsrc (by rw [row_len]; decide) hb1 g W (Below.drew (Below.refl _ _)) (Nat.le_refl _) ?_; intro w4 hg4 hb4)
      have hsp : splice [.int .u8 0, .int .u8 0, .int .u8 0, .int .u8 0, .int .u8 0, .int .u8 0, .int .u8 0, .int .u8 0, .int .u8 0, .int .u8 0, .int .u8 0, .int .u8 0, .int .u8 0, .int .u8 0, .int .u8 0, .int .u8 0, .int .u8 0, .int .u8 0, .int .u8 0, .int .u8 0, .int .u8 0, .int .u8 0, .int .u8 0, .int .u8 0, .int .u8 0, .int .u8 0, .int .u8 0, .int .u8 0, .int .u8 0, .int .u8 0, .int .u8 0, .int .u8 0] 0 (row 32 (uV (bR 32 R))) = row 32 (uV (bR 32 R)) := by
        unfold splice
        rw [row_len]
        simp
      rw [hsp] at hg4
      have hB4 : Blk w4 g (row 32 (uV (bR 32 R))) 40 := hg4.out
      have hO4 := HON.out.below hb4 (by have := HLT.out; omega)
      have hbel4 : Below w.heap.size w w4 := hbelN.trans (hb4.mono (by have := HLT.out; omega))
      have hAr := hB4.range
      have hst := st_blk hO4 (cs := row 32 (uV (bR 32 R))) (by rw [row_len]; rfl) hb1
      have hB5 := hO4.row (row 32 (uV (bR 32 R)))
      have hbel5 := below_setRow hbel4 (Nat.le_refl _) (row 32 (uV (bR 32 R))).toArray
      have HB5 := Lib.hid hB5
      generalize w4.setRow w.heap.size (row 32 (uV (bR 32 R))).toArray = w5 at *
      clear hsp hg4 hB4 hO4 hbel4 hb4 hB5 hsrc hb1 HN HAN HON HLT hbelN
      go_wp2_with (refine wpList_load_mid rfl 40 (.tmp 14) rfl g 0 rfl (row 32 (uV (bR 32 R))) _ hAr Try.underlying40 rfl (infoSc _) ?_)
      refine bodyPost_ret (v := .agg (row 32 (uV (bR 32 R))).toArray) (results_cell_row Try.results33 _ _ w.heap.size _ _ _ _ ?_ HB5.out Try.underlying40 ?_ (infoScA _)) ?_ ?_
      · rfl
      · rfl
      · rfl
      · exact ⟨by rw [HRR.out], hbel5⟩
end Go.Proofs.Ytbgfokdchpcifaa
