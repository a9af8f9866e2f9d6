/- The walks of the document's own field, fourth part: bytes filled up, a number out of bytes. -/
import Derived.Test.YtmoggjbnlimepaaRfc
import Derived.Test.YtmoggjbnlimepaaLfe
namespace Go.Proofs.Ytmoggjbnlimepaa
open Go.RowKit

set_option maxHeartbeats 400000 in
theorem fill_any {a : Option Addr} {n cap : Nat} {l : List UInt8} (k : Nat) (hk : k ≤ 1000) (w : World) (h : RdB w a n cap l) :
    Calls Try.prog 29 #[.slice a n cap, .int .i64 k] w fun e w' => e = .returned (.slice (some ⟨w.heap.size, 0, none⟩) k k) ∧ Blk w' w.heap.size ((first l k).map bV) 5 ∧ Below w.heap.size w w' := by
  obtain ⟨i0, hi, hz0, hz1, hz2⟩ := info_parts infoU8
  have hkk : k ≤ maxLen := by unfold maxLen; omega
  have hgl := Lib.hid h.hlen
  go_enter Try.func29, Try.ntmps29
  go_wp2_with (at_make; refine wpList_make_full _ rfl _ _ 22 rfl w.heap.size 5 i0 (.int .u8 0) 1 Try.underlying22 hi hz0 hz1 .i64 .i64 _ _ k rfl rfl rfl rfl ?_ hkk (Nat.le_refl _) ?_)
  · rw [hz2]; omega
  · intro w1 hown hgr
    have hB := Blk.own hown
    have hb1 : Below w.heap.size w w1 := (Below.refl _ _).grown hgr (Nat.le_refl _) (by simp)
    rw [madeU8 k] at hB
    clear hown hgr hi hz0 hz1 hz2
    have h1 := h.below hb1
    go_wp2_with (refine wpList_copy_splice rfl (.tmp 8) (.tmp 9) 22 22 rfl 5 Try.underlying22 infoSz _ _ _ _ _ _ rfl rfl w.heap.size 0 (zer k) 5 hB (cpy l (Nat.min n k)) ?_ ?_ ?_ (cpy_one _ _) w.heap.size w hb1 (Nat.le_refl _) ?_)
    · rw [cpy_len, hgl.out]; show min (min n k) n = min n k; omega
    · exact fun hpos => h1.src _ hpos
    · rw [zer_len, cpy_len]; show 0 + min (min n k) l.length ≤ k; omega
    · intro w2 hB2 hb2
      have hB3 : Hid (Blk w2 w.heap.size ((first l k).map bV) 5) := by
        rw [splice_first l k n hgl.out] at hB2; exact hB2
      clear hB2
      go_wp2
      go_ret
      exact ⟨rfl, hB3.out, hb2⟩
/-- Bytes as a row. -/
def uV (f : Nat → Nat) (i : Nat) : Value := .int .u8 (f i : Nat)
def byF (l : List UInt8) (i : Nat) : Nat := (l.getD i 0).toNat
theorem byF_lt (l : List UInt8) (i : Nat) : byF l i < 256 := UInt8.toNat_lt _
theorem bytes_row (l : List UInt8) (n : Nat) (h : l.length = n) : l.map bV = row n (uV (byF l)) := by
  apply List.ext_getElem
  · simp [row, h]
  · intro i h1 h2
    have hi : i < l.length := by simpa using h1
    simp [row, uV, byF, bV, hi]
/-- The number of a row of bytes. -/
def v8 (f : Nat → Nat) : Nat → Nat
  | 0 => 0
  | n + 1 => v8 f n + f n * 256 ^ n
theorem v8_leN (l : List UInt8) : ∀ n, n ≤ l.length → v8 (byF l) n = leN (l.take n)
  | 0, _ => by simp [v8, leN]
  | n + 1, h => by
    rw [leN_take l n (by omega), v8, v8_leN l n (by omega)]
    simp [byF, show n < l.length from by omega]
theorem v8_congr {f g : Nat → Nat} : ∀ n, (∀ i, i < n → f i = g i) → v8 f n = v8 g n
  | 0, _ => rfl
  | n + 1, h => by simp only [v8]; rw [v8_congr n (fun i hi => h i (by omega)), h n (by omega)]
theorem v8_lt (f : Nat → Nat) (h : ∀ i, f i < 256) : ∀ n, v8 f n < 256 ^ n
  | 0 => by simp [v8]
  | n + 1 => by
    have ih := v8_lt f h n
    have h1 := h n
    have h2 : f n * 256 ^ n ≤ 255 * 256 ^ n := Nat.mul_le_mul_right _ (by omega)
    simp only [v8, Nat.pow_succ]
    omega
def two (f : Nat → Nat) (i : Nat) : Nat := f (2 * i) + 256 * f (2 * i + 1)
theorem v16_two (f : Nat → Nat) : ∀ n, v16 (two f) n = v8 f (2 * n)
  | 0 => rfl
  | n + 1 => by
    show v16 (two f) n + two f n * 65536 ^ n = v8 f (2 * n) + f (2 * n) * 256 ^ (2 * n) + f (2 * n + 1) * 256 ^ (2 * n + 1)
    rw [v16_two f n, Nat.pow_succ, Nat.pow_mul, show 256 ^ 2 = 65536 from rfl, two]
    grind
/-- The highest bit of 32 bytes put out. -/
def msk (f : Nat → Nat) (i : Nat) : Nat := if i = 31 then f 31 % 128 else f i
theorem msk_lt {f : Nat → Nat} (h : ∀ i, f i < 256) (i : Nat) : msk f i < 256 := by
  unfold msk; have := h i; have := h 31; split <;> omega
theorem v8_msk (f : Nat → Nat) (h : ∀ i, f i < 256) : v8 (msk f) 32 = v8 f 32 % 57896044618658097711785492504343953926634992332820282019728792003956564819968 := by
  have e : v8 (msk f) 31 = v8 f 31 := v8_congr 31 fun i hi => by unfold msk; rw [if_neg (by omega)]
  have h1 : v8 f 31 < 452312848583266388373324160190187140051835877600158453279131187530910662656 := v8_lt f h 31
  show v8 (msk f) 31 + msk f 31 * 256 ^ 31 = (v8 f 31 + f 31 * 256 ^ 31) % _
  rw [e]
  simp only [msk, if_true]
  have h2 := h 31
  generalize v8 f 31 = A at *
  generalize f 31 = b at *
  simp only [show (256 : Nat) ^ 31 = 452312848583266388373324160190187140051835877600158453279131187530910662656 from by decide +kernel]
  omega
theorem feF_two (l : List UInt8) : v16 (two (msk (byF (first l 32)))) 16 % Pq = (feF l).val := by
  rw [v16_two, v8_msk _ (byF_lt _), v8_leN _ _ (by rw [first_len]; omega), List.take_of_length_le (by rw [first_len]; omega)]
  rfl
theorem msk_row (f : Nat → Nat) : (row 32 (uV f)).set 31 (.int .u8 (msk f 31 : Nat)) = row 32 (uV (msk f)) :=
  row_set 31 _ rfl (fun i _ hi => by simp only [uV, msk, if_neg hi])
theorem and7 (x : Nat) (h : x < 256) : bits BinOp.and IntKind.u8 (x : Int) 127 = ((x % 128 : Nat) : Int) := by
  revert h; revert x; decide +kernel
theorem lim_or (x y : Nat) (hx : x < 256) (hy : y < 256) : bits BinOp.or IntKind.u64 (x : Int) ((y : Int) * 256) = ((x + 256 * y : Nat) : Int) := by
  rw [show ((y : Int) * 256) = ((y * 256 : Nat) : Int) from by simp, u64_or_nat _ _ (by omega) (by omega)]
  have h4 := Nat.shiftLeft_add_eq_or_of_lt (show x < 2 ^ 8 from hx) y
  rw [Nat.shiftLeft_eq] at h4
  rw [Nat.or_comm, ← h4, Nat.add_comm, Nat.mul_comm]
/-- The first j limbs done, the others nought. -/
def upV (f : Nat → Nat) (j i : Nat) : Nat := if i < j then f i else 0
theorem upV_zero (f : Nat → Nat) : row 16 (fV (upV f 0)) = [.int .u64 0, .int .u64 0, .int .u64 0, .int .u64 0, .int .u64 0, .int .u64 0, .int .u64 0, .int .u64 0, .int .u64 0, .int .u64 0, .int .u64 0, .int .u64 0, .int .u64 0, .int .u64 0, .int .u64 0, .int .u64 0] := rfl
theorem upV_full (n : Nat) (f : Nat → Nat) : row n (fV (upV f n)) = row n (fV f) := row_ext fun i hi => by simp [fV, upV, hi]
theorem upV_step (n : Nat) (f : Nat → Nat) (j : Nat) : (row n (fV (upV f j))).set j (.int .u64 (f j : Nat)) = row n (fV (upV f (j + 1))) := by
  refine row_set j _ (by simp [fV, upV]) (fun i _ hi => ?_)
  unfold fV upV
  by_cases h : i < j
  · rw [if_pos h, if_pos (by omega)]
  · rw [if_neg h, if_neg (by omega)]
theorem two_le {f : Nat → Nat} (h : ∀ i, f i < 256) (i : Nat) : two f i ≤ 17592186044416 := by
  unfold two; have := h (2 * i); have := h (2 * i + 1); omega
set_option maxHeartbeats 1000000 in
theorem rofM {a : Option Addr} {n cap : Nat} {l : List UInt8} (w : World) (h : RdB w a n cap l) :
    Calls Try.prog 30 #[.slice a n cap] w fun e w' => e = .returned (.agg (row 16 (fV (d16 (feF l).val))).toArray) ∧ Below w.heap.size w w' := by
  have HV := Lib.hid (feF_two l)
  have hfl := bytes_row (first l 32) 32 (first_len _ _)
  have hlt := byF_lt (first l 32)
  have HR := Lib.hid hfl
  clear hfl
  generalize byF (first l 32) = f at *
  have HF := Lib.hid (msk_lt hlt)
  have h31 : (0 : Int) ≤ (f 31 : Nat) := by omega
  have h31' : ((f 31 : Nat) : Int) < 256 := by have := hlt 31; omega
  have ha := and7 (f 31) (hlt 31)
  have ha2 : bits BinOp.and IntKind.u8 ((f 31 : Nat) : Int) 127 = (msk f 31 : Nat) := ha
  clear ha hlt
  have hmr := msk_row f
  generalize msk f = m at *
  have HM := Lib.hid hmr
  clear hmr
  have HT := Lib.hid (two_le HF.out)
  have HD := Lib.hid (show ∀ i, ∃ x y : Int, 0 ≤ x ∧ x < 256 ∧ 0 ≤ y ∧ y < 256 ∧ x = (m (2 * i) : Nat) ∧ y = (m (2 * i + 1) : Nat) ∧ bits BinOp.or IntKind.u64 x (y * 256) = (two m i : Nat) from fun i => by
    have h1 := HF.out (2 * i); have h2 := HF.out (2 * i + 1)
    exact ⟨_, _, by omega, by omega, by omega, by omega, rfl, rfl, lim_or _ _ h1 h2⟩)
  go_enter Try.func30, Try.ntmps30
  go_upto_region 2 with (go_at_call 29; go_must (refine (fill_any 32 (by omega) _ (h.below (by repeat (first | (with_reducible refine Below.alloc' ?_ _) | (with_reducible refine Below.drew ?_) | (with_reducible refine below_drewN ?_ _) | ((with_reducible refine Below.setCell ?_ ?_ _); rotate_left; (focus (first | exact Nat.le_refl _ | (simp; done) | (simp; omega)))) | (with_reducible assumption) | (with_reducible exact Below.refl _ _))))).mono ?_; rintro e w1 ⟨rfl, hC, hb⟩; have hO := (Blk.new w #[.int .u64 0, .int .u64 0, .int .u64 0, .int .u64 0, .int .u64 0, .int .u64 0, .int .u64 0, .int .u64 0, .int .u64 0, .int .u64 0, .int .u64 0, .int .u64 0, .int .u64 0, .int .u64 0, .int .u64 0, .int .u64 0] 54).below' hb; have hbel := Below.call (show Below w.heap.size w _ from (by repeat (first | (with_reducible refine Below.alloc' ?_ _) | (with_reducible refine Below.drew ?_) | (with_reducible refine below_drewN ?_ _) | ((with_reducible refine Below.setCell ?_ ?_ _); rotate_left; (focus (first | exact Nat.le_refl _ | (simp; done) | (simp; omega)))) | (with_reducible assumption) | (with_reducible exact Below.refl _ _)))) hb; clear hb h))
  rw [HR.out] at hC
  refine wp_gen (fun W => Blk W (w.heap.size + 1) (row 32 (uV f)) 5 ∧ Blk W w.heap.size [.int .u64 0, .int .u64 0, .int .u64 0, .int .u64 0, .int .u64 0, .int .u64 0, .int .u64 0, .int .u64 0, .int .u64 0, .int .u64 0, .int .u64 0, .int .u64 0, .int .u64 0, .int .u64 0, .int .u64 0, .int .u64 0] 54 ∧ Below w.heap.size w W) ?_ (fun W0 hW => ?_)
  · exact ⟨by simpa using hC, hO, hbel⟩
  clear hC hO hbel w1
  obtain ⟨hC, hO, hbel⟩ := hW
  have c31 : W0.cell? ⟨w.heap.size + 1, 31, none⟩ = some (.int .u8 (f 31 : Nat)) := hC.at (by omega)
  have f31 := hC.frozen 31
  have hC2 := hC.set 31 (.int .u8 (m 31 : Nat))
  rw [HM.out] at hC2
  have HC := Lib.hid hC2
  have HO := Lib.hid (hO.other ⟨w.heap.size + 1, 31, none⟩ (by simp) (.int .u8 (m 31 : Nat)))
  clear hC hO hC2
  go_upto_region 4 with fail
  have hq : w.heap.size + 1 < W0.heap.size := by have := HC.out.lt; simpa using this
  refine wp_gen (fun W => Blk W (w.heap.size + 1) (row 32 (uV m)) 5 ∧ Blk W w.heap.size [.int .u64 0, .int .u64 0, .int .u64 0, .int .u64 0, .int .u64 0, .int .u64 0, .int .u64 0, .int .u64 0, .int .u64 0, .int .u64 0, .int .u64 0, .int .u64 0, .int .u64 0, .int .u64 0, .int .u64 0, .int .u64 0] 54 ∧ Blk W W0.heap.size (row 16 (fV (upV (two m) 0))) 54 ∧ Below w.heap.size w W) ?_ (fun W1 hW => ?_)
  · exact ⟨HC.out.alloc _, HO.out.alloc _, Blk.new' (by simp), (by repeat (first | (with_reducible refine Below.alloc' ?_ _) | (with_reducible refine Below.drew ?_) | (with_reducible refine below_drewN ?_ _) | ((with_reducible refine Below.setCell ?_ ?_ _); rotate_left; (focus (first | exact Nat.le_refl _ | (simp; done) | (simp; omega)))) | (with_reducible assumption) | (with_reducible exact Below.refl _ _)))⟩
  clear HC HO hbel c31 f31 h31 h31' ha2
  generalize W0.heap.size = q at *
  obtain ⟨hC, hO, hA, hbel⟩ := hW
  clear W0
  have HQ := Lib.hid hq
  clear hq
  go_wp2
  go_loopw [5] (fun i wr => ∃ j : Nat, j ≤ 16 ∧ i = .int .i64 j ∧ Blk wr (w.heap.size + 1) (row 32 (uV m)) 5 ∧ Blk wr w.heap.size [.int .u64 0, .int .u64 0, .int .u64 0, .int .u64 0, .int .u64 0, .int .u64 0, .int .u64 0, .int .u64 0, .int .u64 0, .int .u64 0, .int .u64 0, .int .u64 0, .int .u64 0, .int .u64 0, .int .u64 0, .int .u64 0] 54 ∧ Blk wr q (row 16 (fV (upV (two m) j))) 54 ∧ Below w.heap.size w wr) (fun i _ => 16 - (intOf i).toNat)
  case atStart => exact ⟨0, by omega, rfl, hC, hO, hA, hbel⟩
  case round =>
    clear hC hO hA hbel
    obtain ⟨j, hj, rfl, hC, hO, hA, hbel⟩ := hrel
    by_cases hlj : j < 16
    · obtain ⟨x, y, hx0, hx1, hy0, hy1, hx, hy, hor⟩ := HD.out j
      obtain ⟨p, hp⟩ : ∃ p, p = 2 * j := ⟨_, rfl⟩
      have c0 : wr.cell? ⟨w.heap.size + 1, p, none⟩ = some (.int .u8 x) := by rw [hC.at (by omega), hx, hp]; rfl
      have c1 : wr.cell? ⟨w.heap.size + 1, p + 1, none⟩ = some (.int .u8 y) := by rw [hC.at (by omega), hy, hp]; rfl
      have hw1 : IntKind.i64.wrap (2 * (j : Int)) = (p : Int) := by rw [hp]; exact IntWalk.i64_in _ (by omega)
      have hw1' : 2 * (j : Int) = (p : Int) := by omega
      have hw2 : IntKind.i64.wrap ((p : Int) + 1) = ((p + 1 : Nat) : Int) := by exact IntWalk.i64_in _ (by omega)
      have hp31 : p + 1 < 32 := by omega
      have hfr := hA.frozen j
      have hA2 := hA.set j (.int .u64 (two m j : Nat))
      rw [upV_step] at hA2
      have HQ2 := HQ.out
      have HA := Lib.hid hA2
      have HC := Lib.hid (hC.other ⟨q, j, none⟩ (by simp; omega) (.int .u64 (two m j : Nat)))
      have HO := Lib.hid (hO.other ⟨q, j, none⟩ (by simp; omega) (.int .u64 (two m j : Nat)))
      have hqj : wr.cell? ⟨q, j, none⟩ = some (.int .u64 (upV (two m) j j : Nat)) := hA.at hlj
      clear hA hA2 hC hO hx hy hp
      have HB : Hid (Below w.heap.size w (wr.setCell ⟨q, j, none⟩ (.int .u64 (two m j : Nat)))) := Lib.hid (hbel.setCell (by simp; omega) _)
      clear HQ2
      go_wp2
      go_region
      go_wp2
      go_roundw
      case rel => exact ⟨j + 1, by omega, by go_num, HC.out.drew, HO.out.drew, HA.out.drew, HB.out.drew⟩
      case measure => simp [intOf]; omega
    · obtain rfl : j = 16 := by omega
      rw [upV_full] at hA
      have hAr := hA.range
      have HO := Lib.hid hO; have HA := Lib.hid hA
      clear hA hO hC hlj hj
      go_wp2_with (first | (refine wpList_load_mid rfl 54 (.tmp 4) rfl q 0 rfl (row 16 (fV (two m))) _ hAr Try.underlying54 rfl (infoFe _) ?_) | (go_at_call 46; (with_reducible refine (rcarried_any (two m) HT.out _).mono ?_; rintro e w2 ⟨rfl, hb⟩; rw [HV.out]; obtain ⟨W3, hst3, hB3, hbel3, _, _⟩ := st_row (n := 16) (HO.out.below' hb) rfl (Below.call hbel hb) (Nat.le_refl _) (d16 (feF l).val); clear hAr hb; have HB3 := Lib.hid hB3; clear hB3)))
      refine bodyPost_ret (v := .agg (row 16 (fV (d16 (feF l).val))).toArray) (results_cell_row Try.results30 _ _ w.heap.size _ _ _ _ ?_ HB3.out Try.underlying54 ?_ (infoFeA _)) ?_ ?_
      · rfl
      · rfl
      · rfl
      · exact ⟨rfl, hbel3⟩
end Go.Proofs.Ytmoggjbnlimepaa
