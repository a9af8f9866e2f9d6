/- The walks of the document's own scalars, first part: the order, bytes turned, what is not below the order. -/
import Derived.Test.YtbgfokdchpcifaaFil
import Derived.Test.YtbgfokdchpcifaaSrn
import Derived.Deep.DeepCutAuto
namespace Go.Proofs.Ytbgfokdchpcifaa
open Go.RowKit

/-- New bytes. -/
def NewBy (w : World) (l : List UInt8) (e : Ending) (w' : World) : Prop := ∃ g n cap r, e = .returned (.slice (some ⟨g, 0, none⟩) n cap) ∧ w.heap.size ≤ g ∧ Blk w' g (l.map bV ++ r) 5 ∧ l.length = n ∧ n ≤ cap ∧ cap ≤ maxLen ∧ Below w.heap.size w w'
theorem order_row : row 32 (uV (bR 32 Lq)) = [.int .u8 16, .int .u8 0, .int .u8 0, .int .u8 0, .int .u8 0, .int .u8 0, .int .u8 0, .int .u8 0, .int .u8 0, .int .u8 0, .int .u8 0, .int .u8 0, .int .u8 0, .int .u8 0, .int .u8 0, .int .u8 0, .int .u8 20, .int .u8 222, .int .u8 249, .int .u8 222, .int .u8 162, .int .u8 247, .int .u8 156, .int .u8 214, .int .u8 88, .int .u8 18, .int .u8 99, .int .u8 26, .int .u8 92, .int .u8 245, .int .u8 211, .int .u8 237] := by kernel_rfl
theorem rorder_any (w : World) : Calls Try.prog 32 #[] w fun e w' => e = .returned (.slice (some ⟨w.heap.size, 0, none⟩) 32 32) ∧ Blk w' w.heap.size (row 32 (uV (bR 32 Lq))) 5 ∧ Below w.heap.size w w' := by
  go_enter Try.func32, Try.ntmps32
  go_wp2
  go_ret
  refine ⟨rfl, ?_, (by repeat (first | (with_reducible refine Below.alloc' ?_ _) | (with_reducible refine Below.drew ?_) | (with_reducible refine below_drewN ?_ _) | ((with_reducible refine Below.setCell ?_ ?_ _); rotate_left; (focus (first | exact Nat.le_refl _ | (simp; done) | (simp; omega)))) | (with_reducible assumption) | (with_reducible exact Below.refl _ _)))⟩
  rw [order_row]
  exact Blk.new w _ _
theorem drop_rev (l : List UInt8) (j : Nat) (h : j < l.length) : (l.drop j).reverse = (l.drop (j + 1)).reverse ++ [l[j]] := by
  rw [List.drop_eq_getElem_cons h, List.reverse_cons]
set_option maxHeartbeats 1000000 in
theorem rturned_any {a : Option Addr} {n cap : Nat} {l : List UInt8} (w : World) (h : RdB w a n cap l) (h0 : 0 < n) (hn : n ≤ 1000) :
    Calls Try.prog 31 #[.slice a n cap] w (NewBy w l.reverse) := by
  have hlen := h.hlen
  rcases h.cases with ⟨h1, _⟩ | ⟨b, o, _, rfl, hc⟩
  · omega
  have HC := Lib.hid hc
  have HL := Lib.hid hlen
  clear h hc hlen
  have hn' : (n : Int) ≤ 1000 := by omega
  go_enter Try.func31, Try.ntmps31
  go_wp2
  go_loopw [3, 4] (fun v i wr => ∃ j : Nat, j ≤ n ∧ i = .int .i64 ((j : Int) - 1) ∧ wr.ownsRow w.heap.size 5 1 v (n - j) ((l.drop j).reverse.map bV) ∧ Below w.heap.size w wr) (fun _ i _ => (intOf i + 1).toNat)
  case atStart => exact ⟨n, Nat.le_refl _, rfl, by rw [List.drop_eq_nil_of_le (by rw [HL.out]; exact Nat.le_refl _), Nat.sub_self]; exact World.ownsRow_nil _ _ _ _, Below.refl _ _⟩
  case round =>
    obtain ⟨j, hj, rfl, hown, hbel⟩ := hrel
    by_cases hj0 : j = 0
    · subst hj0
      rw [List.drop_zero, Nat.sub_zero] at hown
      obtain ⟨g, cap', r, rfl, hg, hB, hl, hcc, hm⟩ := own_rdb hown h0
      have HB := Lib.hid hB
      clear hown hB
      rw [show (((0 : Nat) : Int) - 1) = -1 from rfl]
      go_wp2
      go_ret
      exact ⟨g, n, cap', r, rfl, hg, HB.out, by simpa using hl, hcc, hm, hbel⟩
    · obtain ⟨i, rfl⟩ : ∃ i, j = i + 1 := ⟨j - 1, by omega⟩
      have hil : i < l.length := by have := HL.out; omega
      rw [show (((i + 1 : Nat) : Int) - 1) = (i : Int) from by omega]
      have hin : (i : Int) < (n : Int) := by omega
      have hi0 : (0 : Int) ≤ (i : Int) := by omega
      have c0 := HC.out i hil
      have HD := Lib.hid (drop_rev l i hil)
      generalize l[i] = c at *
      have c1 : wr.cell? ⟨b, o + i, none⟩ = some (bV c) := by rw [hbel.cell (cell_lt c0)]; exact c0
      unfold bV at c1
      have HO := Lib.hid hown
      have hsz : n - (i + 1) ≤ 1000 := by omega
      clear hown c0 hj0
      go_wp2_with (at_builtin; refine app_bytes _ rfl (.tmp 12) (.tmp 17) rfl w.heap.size _ (n - (i + 1)) _ rfl (own_below HO.out (by repeat (first | (with_reducible refine Below.alloc' ?_ _) | (with_reducible refine Below.drew ?_) | (with_reducible refine below_drewN ?_ _) | ((with_reducible refine Below.setCell ?_ ?_ _); rotate_left; (focus (first | exact Nat.le_refl _ | (simp; done) | (simp; omega)))) | (with_reducible assumption) | (with_reducible exact Below.refl _ _)))) _ 1 1 [c] rfl (RdB.blk (l := [c]) [] (Blk.new wr #[.int .u8 (c.toNat : Int)] 5) rfl (by omega) (by unfold maxLen; omega)) (by omega) (by have := hbel.size; simp; omega) w (by repeat (first | (with_reducible refine Below.alloc' ?_ _) | (with_reducible refine Below.drew ?_) | (with_reducible refine below_drewN ?_ _) | ((with_reducible refine Below.setCell ?_ ?_ _); rotate_left; (focus (first | exact Nat.le_refl _ | (simp; done) | (simp; omega)))) | (with_reducible assumption) | (with_reducible exact Below.refl _ _))) ?_; intro v' w2 hown2 hbel2; have HO2 : Hid (w2.ownsRow w.heap.size 5 1 v' (n - i) ((l.drop i).reverse.map bV)) := Lib.hid (by rw [HD.out]; have e : n - i = n - (i + 1) + 1 := (by omega); rw [e]; exact hown2); clear hown2)
      go_roundw
      case rel => exact ⟨i, by omega, rfl, HO2.out, hbel2⟩
      case measure => simp [intOf]
theorem top33 {x : Nat} (h : dB x 32 = 0) (hx : x < 256 ^ 33) : x / 256 ^ 32 = Lq / 256 ^ 32 := by
  have h1 : x / 256 ^ 32 < 256 := by rw [Nat.div_lt_iff_lt_mul (by decide)]; exact hx
  have h2 : Lq / 256 ^ 32 = 0 := by decide +kernel
  unfold dB at h
  omega
theorem high33 {x : Nat} (h : dB x 32 ≠ 0) : Lq ≤ x := by
  have h1 : 256 ^ 32 ≤ x := by
    rcases Nat.lt_or_ge x (256 ^ 32) with h2 | h2
    · unfold dB at h; rw [Nat.div_eq_of_lt h2] at h; simp at h
    · exact h2
  exact Nat.le_trans (by decide +kernel) h1
set_option maxHeartbeats 1000000 in
theorem rabove_any (x : Nat) (hx : x < 256 ^ 33) (w : World) : Calls Try.prog 43 #[.agg (row 33 (uV (bR 33 x))).toArray] w fun e w' => e = .returned (.bool (decide (Lq ≤ x))) ∧ Below w.heap.size w w' := by
  go_enter Try.func43, Try.ntmps43
  go_upto_region 2 with (go_at_call 32; go_must (refine (rorder_any _).mono ?_; rintro e w1 ⟨rfl, hP, hb⟩; have hA := (Blk.new w (row 33 (uV (bR 33 x))).toArray 64).below' hb; have hbel : Below w.heap.size w w1 := Below.call (by repeat (first | (with_reducible refine Below.alloc' ?_ _) | (with_reducible refine Below.drew ?_) | (with_reducible refine below_drewN ?_ _) | ((with_reducible refine Below.setCell ?_ ?_ _); rotate_left; (focus (first | exact Nat.le_refl _ | (simp; done) | (simp; omega)))) | (with_reducible assumption) | (with_reducible exact Below.refl _ _))) hb; clear hb))
  refine wp_gen (fun W => Blk W w.heap.size (row 33 (uV (bR 33 x))) 64 ∧ Blk W (w.heap.size + 1) (row 32 (uV (bR 32 Lq))) 5 ∧ Below w.heap.size w W) ?_ (fun W0 hW => ?_)
  · exact ⟨hA, by simpa using hP, hbel⟩
  clear hA hP hbel w1
  obtain ⟨hA, hP, hbel⟩ := hW
  have c0 : W0.cell? ⟨w.heap.size, 0, none⟩ = some (.int .u8 (dB x 32 : Nat)) := hA.at (by omega)
  by_cases h0 : dB x 32 = 0
  · have HT := Lib.hid (top33 h0 hx)
    rw [h0] at c0
    clear hx h0
    go_wp2
    go_loopw [4] (fun i wr => ∃ k : Nat, k ≤ 32 ∧ i = .int .i64 (k : Int) ∧ x / 256 ^ (32 - k) = Lq / 256 ^ (32 - k) ∧ Blk wr w.heap.size (row 33 (uV (bR 33 x))) 64 ∧ Blk wr (w.heap.size + 1) (row 32 (uV (bR 32 Lq))) 5 ∧ Below w.heap.size w wr) (fun i _ => (32 - intOf i).toNat)
    case atStart => exact ⟨0, by omega, rfl, HT.out, hA, hP, hbel⟩
    case round =>
      clear hA hP hbel c0 W0
      obtain ⟨k, hk, rfl, hq, hA, hP, hbel⟩ := hrel
      by_cases hlt : k < 32
      · have k0 : (0 : Int) ≤ (k : Int) := by omega
        have k1 : (k : Int) < 32 := by omega
        have ca : wr.cell? ⟨w.heap.size, k + 1, none⟩ = some (.int .u8 (dB x (31 - k) : Nat)) := by
          have := hA.at (k := k + 1) (by omega)
          rw [this]; unfold uV bR; rw [show 33 - 1 - (k + 1) = 31 - k by omega]
        have cp : wr.cell? ⟨w.heap.size + 1, k, none⟩ = some (.int .u8 (dB Lq (31 - k) : Nat)) := by
          have := hP.at (k := k) hlt
          rw [this]; unfold uV bR; rw [show 32 - 1 - k = 31 - k by omega]
        have hq' : x / 256 ^ (31 - k + 1) = Lq / 256 ^ (31 - k + 1) := by rw [show 31 - k + 1 = 32 - k by omega]; exact hq
        have HA := Lib.hid hA; have HP := Lib.hid hP; have HQ := Lib.hid hq'
        clear hA hP hq hq'
        by_cases he : dB x (31 - k) = dB Lq (31 - k)
        · have HE := Lib.hid (cmp_same HQ.out he)
          rw [he] at ca
          generalize ((dB Lq (31 - k) : Nat) : Int) = B at *
          clear he
          go_wp2
          go_region
          go_wp2
          go_roundw
          case rel => exact ⟨k + 1, by omega, by go_num, by rw [show 32 - (k + 1) = 31 - k by omega]; exact HE.out, HA.out, HP.out, (by repeat (first | (with_reducible refine Below.alloc' ?_ _) | (with_reducible refine Below.drew ?_) | (with_reducible refine below_drewN ?_ _) | ((with_reducible refine Below.setCell ?_ ?_ _); rotate_left; (focus (first | exact Nat.le_refl _ | (simp; done) | (simp; omega)))) | (with_reducible assumption) | (with_reducible exact Below.refl _ _)))⟩
          case measure => simp [intOf]; omega
        · have HE := Lib.hid (cmp_digit HQ.out he)
          have hneI : (((dB x (31 - k) : Nat) : Int) != ((dB Lq (31 - k) : Nat) : Int)) = true := by simp; omega
          have hlt2 : decide (((dB Lq (31 - k) : Nat) : Int) < ((dB x (31 - k) : Nat) : Int)) = decide (dB Lq (31 - k) < dB x (31 - k)) := by simp
          obtain ⟨q, hq⟩ : ∃ q, decide (Lq ≤ x) = q := ⟨_, rfl⟩
          rw [hq] at HE
          rw [← HE.out] at hlt2
          have HF := Lib.hid hq
          generalize ((dB x (31 - k) : Nat) : Int) = A at *
          generalize ((dB Lq (31 - k) : Nat) : Int) = B at *
          clear he hq HE
          go_wp2
          go_region
          go_wp2
          go_region
          go_wp2
          go_ret
          exact ⟨ret_bool HF.out.symm, (by repeat (first | (with_reducible refine Below.alloc' ?_ _) | (with_reducible refine Below.drew ?_) | (with_reducible refine below_drewN ?_ _) | ((with_reducible refine Below.setCell ?_ ?_ _); rotate_left; (focus (first | exact Nat.le_refl _ | (simp; done) | (simp; omega)))) | (with_reducible assumption) | (with_reducible exact Below.refl _ _)))⟩
      · obtain rfl : k = 32 := by omega
        have HD : Hid (decide (Lq ≤ x) = true) := Lib.hid (decide_eq_true (by simp at hq; omega))
        clear hq hA hP hlt
        go_wp2
        go_ret
        exact ⟨ret_bool HD.out.symm, (by repeat (first | (with_reducible refine Below.alloc' ?_ _) | (with_reducible refine Below.drew ?_) | (with_reducible refine below_drewN ?_ _) | ((with_reducible refine Below.setCell ?_ ?_ _); rotate_left; (focus (first | exact Nat.le_refl _ | (simp; done) | (simp; omega)))) | (with_reducible assumption) | (with_reducible exact Below.refl _ _)))⟩
  · have HD : Hid (decide (Lq ≤ x) = true) := Lib.hid (decide_eq_true (high33 h0))
    have hneI : (((dB x 32 : Nat) : Int) != 0) = true := by simp; omega
    generalize ((dB x 32 : Nat) : Int) = A at *
    clear h0 hx
    go_wp2
    go_ret
    exact ⟨ret_bool HD.out.symm, hbel⟩
theorem raboveB {x : Nat} {b : Bool} (hx : x < 256 ^ 33) (hb : decide (Lq ≤ x) = b) (w : World) : Calls Try.prog 43 #[.agg (row 33 (uV (bR 33 x))).toArray] w fun e w' => e = .returned (.bool b) ∧ Below w.heap.size w w' := by
  subst hb; exact rabove_any x hx w
end Go.Proofs.Ytbgfokdchpcifaa
