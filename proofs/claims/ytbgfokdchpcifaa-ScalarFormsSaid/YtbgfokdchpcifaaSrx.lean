/- The walks of the document's own scalars, third part: reading, writing, sums, opposites, digits. -/
import Derived.Test.YtbgfokdchpcifaaSrm
import Derived.Test.YtbgfokdchpcifaaSrq
namespace Go.Proofs.Ytbgfokdchpcifaa
open Go.RowKit

/-- A whole row of bytes of a number reads as them. -/
theorem rdRow {w : World} {g n E x : Nat} (h : Blk w g (row n (uV (bR n x))) E) (hm : n ≤ maxLen) : RdB w (some ⟨g, 0, none⟩) n n ((leB n x).reverse) := by
  rw [rowB] at h
  exact RdB.blk (l := (leB n x).reverse) [] (by simpa using h) (by simp [leB_len]) (Nat.le_refl _) hm
/-- Storing a row of 32 bytes into a whole block: the world behind it. -/
theorem st_sc {B : Nat} {w0 w : World} {g E : Nat} {old : List Value} (h : Blk w g old E) (hl : old.length = 32) (hb : Below B w0 w) (hg : B ≤ g) (x : Nat) :
    ∃ W, (storeCells ⟨g, 0, none⟩ (row 32 (uV (bR 32 x)))).run Try.prog w = .ok () W ∧ Blk W g (row 32 (uV (bR 32 x))) E ∧ Below B w0 W :=
  ⟨_, st_blk h (by rw [row_len, hl]) (one_rowB 32 _), h.row _, below_setRow hb hg _⟩
set_option maxHeartbeats 1000000 in
theorem rwide_any {a : Option Addr} {n cap : Nat} {l : List UInt8} (w : World) (h : RdB w a n cap l) :
    Calls Try.prog 16 #[.slice a n cap] w fun e w' => e = .returned (.agg (row 32 (uV (bR 32 (leN (first l 64) % Lq)))).toArray) ∧ Below w.heap.size w w' := by
  go_enter Try.func16, Try.ntmps16
  go_wp2_with (first | (go_at_call 34; go_must (refine (fill_any 64 (by omega) _ (h.below (by repeat (first | (with_reducible refine Below.alloc' ?_ _) | (with_reducible refine Below.drew ?_) | (with_reducible refine below_drewN ?_ _) | ((with_reducible refine Below.setCell ?_ ?_ _); rotate_left; (focus (first | exact Nat.le_refl _ | (simp; done) | (simp; omega)))) | (with_reducible assumption) | (with_reducible exact Below.refl _ _))))).mono ?_; rintro e w1 ⟨rfl, hC, hb⟩; have hO := (Blk.new w #[.int .u8 0, .int .u8 0, .int .u8 0, .int .u8 0, .int .u8 0, .int .u8 0, .int .u8 0, .int .u8 0, .int .u8 0, .int .u8 0, .int .u8 0, .int .u8 0, .int .u8 0, .int .u8 0, .int .u8 0, .int .u8 0, .int .u8 0, .int .u8 0, .int .u8 0, .int .u8 0, .int .u8 0, .int .u8 0, .int .u8 0, .int .u8 0, .int .u8 0, .int .u8 0, .int .u8 0, .int .u8 0, .int .u8 0, .int .u8 0, .int .u8 0, .int .u8 0] 40).below' hb; have hbel := Below.call (show Below w.heap.size w _ from (by repeat (first | (with_reducible refine Below.alloc' ?_ _) | (with_reducible refine Below.drew ?_) | (with_reducible refine below_drewN ?_ _) | ((with_reducible refine Below.setCell ?_ ?_ _); rotate_left; (focus (first | exact Nat.le_refl _ | (simp; done) | (simp; omega)))) | (with_reducible assumption) | (with_reducible exact Below.refl _ _)))) hb; clear hb h; have hR := RdB.blk (l := first l 64) (n := 64) (cap := 64) [] (by simpa using hC) (first_len _ _) (by omega) (by unfold maxLen; omega); have HO := Lib.hid hO; clear hC hO))     | (go_at_call 31; go_must (refine (rturned_any _ hR (by omega) (by omega)).mono ?_; rintro e w2 ⟨g, n2, c2, r2, rfl, hg, hT, hl, hc, hm, hb⟩; (rw [List.length_reverse, first_len] at hl); subst hl; have hR2 := RdB.blk r2 hT (by rw [List.length_reverse, first_len]) hc hm; have HO2 := Lib.hid (HO.out.below' hb); have hbel2 := Below.call hbel hb; clear hb hT hR))     | (go_at_call 33; go_must (refine (rmod_any _ hR2 (by omega)).mono ?_; rintro e w3 ⟨rfl, hb⟩; obtain ⟨W3, hst3, hB3, hbel3⟩ := st_sc (HO2.out.below' hb) rfl (Below.call hbel2 hb) (Nat.le_refl _) (beN (first l 64).reverse % Lq); have HB3 := Lib.hid hB3; clear hb hR2 hB3)))
  refine bodyPost_ret (v := .agg (row 32 (uV (bR 32 (beN (first l 64).reverse % Lq)))).toArray) (results_cell_row Try.results16 _ _ w.heap.size _ _ _ _ ?_ HB3.out Try.underlying40 ?_ (infoScA _)) ?_ ?_
  · rfl
  · rfl
  · rfl
  · exact ⟨by unfold beN; rw [List.reverse_reverse], hbel3⟩
theorem NewBy.on {w w1 w' : World} {l : List UInt8} {e : Ending} (h : NewBy w1 l e w') (hb : Below w.heap.size w w1) : NewBy w l e w' := by
  obtain ⟨g, n, cap, r, he, hg, hB, h1, h2, h3, hb'⟩ := h
  exact ⟨g, n, cap, r, he, Nat.le_trans hb.size hg, hB, h1, h2, h3, Below.call hb hb'⟩
theorem rscbytes_any (x : Nat) (w : World) : Calls Try.prog 35 #[.agg (row 32 (uV (bR 32 x))).toArray] w (NewBy w (leB 32 x)) := by
  have HR : Hid (∀ W : World, ∀ g, g = W.heap.size → RdB (W.alloc (.cells (row 32 (uV (bR 32 x))).toArray 40)) (some ⟨g, 0, none⟩) 32 32 ((leB 32 x).reverse)) := Lib.hid fun W g hg => by
    subst hg; exact rdRow (Blk.new W _ _) (by unfold maxLen; omega)
  go_enter Try.func35, Try.ntmps35
  go_wp2_with (go_at_call 31; go_must (refine (rturned_any _ (HR.out _ _ rfl) (by omega) (by omega)).mono ?_; intro e w1 hN; rw [List.reverse_reverse] at hN; have hN2 := Lib.hid (NewBy.on hN (show Below w.heap.size w _ from (by repeat (first | (with_reducible refine Below.alloc' ?_ _) | (with_reducible refine Below.drew ?_) | (with_reducible refine below_drewN ?_ _) | ((with_reducible refine Below.setCell ?_ ?_ _); rotate_left; (focus (first | exact Nat.le_refl _ | (simp; done) | (simp; omega)))) | (with_reducible assumption) | (with_reducible exact Below.refl _ _))))); clear hN; obtain ⟨g, n', cap', r, he, hr⟩ := hN2.out; subst he))
  go_ret
  exact hN2.out
theorem rmod_v {a : Option Addr} {n cap V : Nat} {l : List UInt8} {w : World} (hV : beN l % Lq = V) (h : RdB w a n cap l) (hn : n ≤ 1000) :
    Calls Try.prog 33 #[.slice a n cap] w fun e w' => e = .returned (.agg (row 32 (uV (bR 32 V))).toArray) ∧ Below w.heap.size w w' := by subst hV; exact rmod_any w h hn
/-- The sum, its last bytes reckoned. -/
def adV (x y t i : Nat) : Nat := if t + 1 ≤ i then dB (x + y) (32 - i) else 0
theorem adV_start (x y : Nat) : row 33 (uV fun _ => 0) = row 33 (uV (adV x y 32)) := row_ext fun i hi => by unfold uV adV; rw [if_neg (by omega)]
theorem make33 (w : World) : (Instr.makeSlice 22 (.int .i64 33) (.int .i64 33)).run Try.prog w = .ok (.slice (some ⟨w.heap.size, 0, none⟩) 33 33) (w.alloc (.cells (row 33 (uV fun _ => 0)).toArray 5)) := by kernel_rfl
theorem adV_step (x y t : Nat) : (row 33 (uV (adV x y (t + 1)))).set (t + 1) (.int .u8 (dB (x + y) (31 - t) : Nat)) = row 33 (uV (adV x y t)) := by
  refine row_set (t + 1) _ (by simp [uV, adV, show 32 - (t + 1) = 31 - t by omega]) (fun i _ hi => ?_)
  unfold uV adV
  by_cases h : t + 1 ≤ i
  · rw [if_pos h, if_pos (by omega)]
  · rw [if_neg h, if_neg (by omega)]
theorem adV_fin (x y : Nat) : (row 33 (uV (adV x y 0))).set 0 (.int .u8 (dB (x + y) 32 : Nat)) = row 33 (uV (bR 33 (x + y))) := by
  refine row_set 0 _ (by simp [uV, bR]) (fun i _ hi => ?_)
  unfold uV adV bR
  rw [if_pos (by omega)]
set_option maxHeartbeats 2000000 in
theorem rscadd_any {x y R : Nat} (hx : x < 256 ^ 32) (hy : y < 256 ^ 32) (hR : (x + y) % Lq = R) (w : World) :
    Calls Try.prog 20 #[.agg (row 32 (uV (bR 32 x))).toArray, .agg (row 32 (uV (bR 32 y))).toArray] w fun e w' => e = .returned (.agg (row 32 (uV (bR 32 R))).toArray) ∧ Below w.heap.size w w' := by
  have HT := Lib.hid (add_top hx hy)
  have HS : Hid (x + y < 256 ^ 33) := Lib.hid (by rw [Nat.pow_succ]; omega)
  have HRR := Lib.hid hR
  clear hx hy hR
  go_enter Try.func20, Try.ntmps20
  have hmk := make33
  go_upto_region 2 with fail
  clear hmk
  refine wp_gen (fun W => Blk W w.heap.size (row 32 (uV (bR 32 x))) 40 ∧ Blk W (w.heap.size + 1) (row 32 (uV (bR 32 y))) 40 ∧ Blk W (w.heap.size + 1 + 1) [.int .u8 0, .int .u8 0, .int .u8 0, .int .u8 0, .int .u8 0, .int .u8 0, .int .u8 0, .int .u8 0, .int .u8 0, .int .u8 0, .int .u8 0, .int .u8 0, .int .u8 0, .int .u8 0, .int .u8 0, .int .u8 0, .int .u8 0, .int .u8 0, .int .u8 0, .int .u8 0, .int .u8 0, .int .u8 0, .int .u8 0, .int .u8 0, .int .u8 0, .int .u8 0, .int .u8 0, .int .u8 0, .int .u8 0, .int .u8 0, .int .u8 0, .int .u8 0] 40 ∧ Blk W (w.heap.size + 1 + 1 + 1) (row 33 (uV (adV x y 32))) 5 ∧ Below w.heap.size w W) ?_ (fun W0 hW => ?_)
  · rw [← adV_start]
    exact ⟨(((Blk.new w _ _).alloc _).alloc _).alloc _, ((Blk.new' (by simp)).alloc _).alloc _, (Blk.new' (by simp)).alloc _, Blk.new' (by simp), (by repeat (first | (with_reducible refine Below.alloc' ?_ _) | (with_reducible refine Below.drew ?_) | (with_reducible refine below_drewN ?_ _) | ((with_reducible refine Below.setCell ?_ ?_ _); rotate_left; (focus (first | exact Nat.le_refl _ | (simp; done) | (simp; omega)))) | (with_reducible assumption) | (with_reducible exact Below.refl _ _)))⟩
  obtain ⟨hA, hB, hO, hC, hbel⟩ := hW
  generalize Value.agg (row 32 (uV (bR 32 x))).toArray = V1
  generalize Value.agg (row 32 (uV (bR 32 y))).toArray = V2
  go_wp2
  go_loopw [6, 7] (fun cv i wr => ∃ t : Nat, t ≤ 32 ∧ i = .int .i64 ((t : Int) - 1) ∧ cv = .int .i64 (cyB x y (32 - t) : Nat) ∧ Blk wr w.heap.size (row 32 (uV (bR 32 x))) 40 ∧ Blk wr (w.heap.size + 1) (row 32 (uV (bR 32 y))) 40 ∧ Blk wr (w.heap.size + 1 + 1) [.int .u8 0, .int .u8 0, .int .u8 0, .int .u8 0, .int .u8 0, .int .u8 0, .int .u8 0, .int .u8 0, .int .u8 0, .int .u8 0, .int .u8 0, .int .u8 0, .int .u8 0, .int .u8 0, .int .u8 0, .int .u8 0, .int .u8 0, .int .u8 0, .int .u8 0, .int .u8 0, .int .u8 0, .int .u8 0, .int .u8 0, .int .u8 0, .int .u8 0, .int .u8 0, .int .u8 0, .int .u8 0, .int .u8 0, .int .u8 0, .int .u8 0, .int .u8 0] 40 ∧ Blk wr (w.heap.size + 1 + 1 + 1) (row 33 (uV (adV x y t))) 5 ∧ Below w.heap.size w wr) (fun _ i _ => (intOf i + 1).toNat)
  case atStart => exact ⟨32, by omega, rfl, by rw [Nat.sub_self, cyB_zero]; rfl, hA, hB, hO, hC, hbel⟩
  case round =>
    clear hA hB hO hC hbel W0
    obtain ⟨t, ht, rfl, rfl, hA, hB, hO, hC, hbel⟩ := hrel
    by_cases ht0 : t = 0
    · subst ht0
      have hfr := hC.frozen 0
      have c1 := cyB_le x y 32
      have cC : (wr.cell? ⟨w.heap.size + 1 + 1 + 1, 0, none⟩).isSome = true := by rw [hC.at (by omega)]; rfl
      rw [Nat.sub_zero, ← HT.out]
      rw [← HT.out] at c1
      have hC2 := hC.set 0 (.int .u8 (dB (x + y) 32 : Nat))
      rw [adV_fin] at hC2
      have HO := Lib.hid (hO.other ⟨w.heap.size + 1 + 1 + 1, 0, none⟩ (by simp) (.int .u8 (dB (x + y) 32 : Nat)))
      have HR := Lib.hid (rdRow hC2 (by unfold maxLen; omega))
      have hbel2 : Below w.heap.size w (wr.setCell ⟨w.heap.size + 1 + 1 + 1, 0, none⟩ (.int .u8 (dB (x + y) 32 : Nat))) := (by repeat (first | (with_reducible refine Below.alloc' ?_ _) | (with_reducible refine Below.drew ?_) | (with_reducible refine below_drewN ?_ _) | ((with_reducible refine Below.setCell ?_ ?_ _); rotate_left; (focus (first | exact Nat.le_refl _ | (simp; done) | (simp; omega)))) | (with_reducible assumption) | (with_reducible exact Below.refl _ _)))
      have hc0 := hC.at (k := 0) (by omega)
      have HV : Hid (beN ((leB 33 (x + y)).reverse) % Lq = R) := Lib.hid (by rw [beN_leB, Nat.mod_eq_of_lt HS.out, HRR.out])
      unfold uV at hc0
      generalize dB (x + y) 32 = D at *
      rw [show (((0 : Nat) : Int) - 1) = -1 from rfl]
      clear hA hB hO hC hC2 hbel
      have hD1 : (D : Int) ≤ 1 := by omega
      go_upto_region 10 with fail
      clear hfr c1 cC hc0 hD1
      go_wp2_with fail
      refine (rmod_v HV.out HR.out (by omega)).mono ?_
      rintro e w3 ⟨rfl, hb⟩
      have HO3 := HO.out.below' hb
      obtain ⟨W3, hst3, hB3, hbel3⟩ := st_sc HO3 rfl (Below.call hbel2 hb) (by omega) R
      have HB3 := Lib.hid hB3
      clear hb hB3 HO3 hbel2 HT HO HR HV HRR HS
      go_simp
      rename_i aK
      refine aK _ _ ?_
      go_wp2
      refine bodyPost_ret (v := .agg (row 32 (uV (bR 32 R))).toArray) (results_cell_row Try.results20 _ _ (w.heap.size + 1 + 1) _ _ _ _ ?_ HB3.out Try.underlying40 ?_ (infoScA _)) ?_ ?_
      · rfl
      · rfl
      · rfl
      · exact ⟨rfl, hbel3⟩
    · obtain ⟨i, rfl⟩ : ∃ i, t = i + 1 := ⟨t - 1, by omega⟩
      rw [show (((i + 1 : Nat) : Int) - 1) = (i : Int) from by omega]
      have e31 : 32 - (i + 1) = 31 - i := by omega
      rw [e31]
      obtain ⟨s1, s2⟩ := add_step x y (31 - i)
      have ca : wr.cell? ⟨w.heap.size, i, none⟩ = some (.int .u8 (dB x (31 - i) : Nat)) := hA.at (by omega)
      have cb : wr.cell? ⟨w.heap.size + 1, i, none⟩ = some (.int .u8 (dB y (31 - i) : Nat)) := hB.at (by omega)
      have a1 := dB_lt x (31 - i)
      have a2 := dB_lt y (31 - i)
      have a3 := cyB_le x y (31 - i)
      have hfr := hC.frozen (i + 1)
      have cc := hC.at (k := i + 1) (by omega)
      unfold uV at cc
      have i0 : (0 : Int) ≤ (i : Int) := by omega
      have i1 : (i : Int) < 32 := by omega
      obtain ⟨D, hD⟩ : ∃ D, D = dB (x + y) (31 - i) := ⟨_, rfl⟩
      obtain ⟨c', hc'⟩ : ∃ c', c' = cyB x y (31 - i + 1) := ⟨_, rfl⟩
      rw [← hD] at s1
      rw [← hc'] at s2
      have hC2 := hC.set (i + 1) (.int .u8 (D : Nat))
      rw [hD, adV_step] at hC2
      have HC := Lib.hid hC2
      have HA := Lib.hid (hA.other ⟨w.heap.size + 1 + 1 + 1, i + 1, none⟩ (by simp <;> omega) (.int .u8 (D : Nat)))
      have HB := Lib.hid (hB.other ⟨w.heap.size + 1 + 1 + 1, i + 1, none⟩ (by simp <;> omega) (.int .u8 (D : Nat)))
      have HO := Lib.hid (hO.other ⟨w.heap.size + 1 + 1 + 1, i + 1, none⟩ (by simp <;> omega) (.int .u8 (D : Nat)))
      have HBel : Hid (Below w.heap.size w (wr.setCell ⟨w.heap.size + 1 + 1 + 1, i + 1, none⟩ (.int .u8 (D : Nat)))) := Lib.hid (hbel.setCell (by simp <;> omega) _)
      rw [← hD] at HC
      have HCY := Lib.hid hc'
      generalize dB x (31 - i) = p at *
      generalize dB y (31 - i) = q at *
      generalize cyB x y (31 - i) = cc' at *
      obtain ⟨V, hV⟩ : ∃ V : Nat, V = p + q + cc' := ⟨_, rfl⟩
      rw [← hV] at s1 s2
      have hsum : (p : Int) + (q : Int) + (cc' : Int) = (V : Int) := by omega
      have hV1 : (V : Int) ≤ 1000 := by omega
      have f1 : (V : Int) % 256 = (D : Int) := by omega
      have f2 : (V : Int) / 256 = (c' : Int) := by omega
      clear hA hB hO hC hC2 hV hD hc' s1 s2 ht0 e31
      go_wp2
      go_region
      go_wp2
      go_roundw
      case rel => exact ⟨i, by omega, rfl, by rw [HCY.out, show 32 - i = 31 - i + 1 by omega], HA.out.drew, HB.out.drew, HO.out.drew, HC.out.drew, HBel.out.drew⟩
      case measure => simp [intOf]
/-- A digit of a number. -/
theorem rscbit_no (x : Nat) {k : Int} (hk : ¬ (0 ≤ k ∧ k ≤ 255)) (w : World) : Calls Try.prog 25 #[.agg (row 32 (uV (bR 32 x))).toArray, .int .i64 k] w fun e w' => e = .returned (.int .i64 0) ∧ Below w.heap.size w w' := by
  by_cases h0 : k < 0
  · have d1 : decide (k < 0) = true := decide_eq_true h0
    clear hk h0
    go_enter Try.func25, Try.ntmps25
    go_wp2
    go_ret
    exact ⟨rfl, (by repeat (first | (with_reducible refine Below.alloc' ?_ _) | (with_reducible refine Below.drew ?_) | (with_reducible refine below_drewN ?_ _) | ((with_reducible refine Below.setCell ?_ ?_ _); rotate_left; (focus (first | exact Nat.le_refl _ | (simp; done) | (simp; omega)))) | (with_reducible assumption) | (with_reducible exact Below.refl _ _)))⟩
  · have d1 : decide (k < 0) = false := decide_eq_false h0
    have d2 : decide (255 < k) = true := decide_eq_true (by omega)
    clear hk h0
    go_enter Try.func25, Try.ntmps25
    go_wp2
    go_ret
    exact ⟨rfl, (by repeat (first | (with_reducible refine Below.alloc' ?_ _) | (with_reducible refine Below.drew ?_) | (with_reducible refine below_drewN ?_ _) | ((with_reducible refine Below.setCell ?_ ?_ _); rotate_left; (focus (first | exact Nat.le_refl _ | (simp; done) | (simp; omega)))) | (with_reducible assumption) | (with_reducible exact Below.refl _ _)))⟩
theorem digit_bit (x k : Nat) (h : k < 256) : dB x (k / 8) / 2 ^ (k % 8) % 2 = x / 2 ^ k % 2 := by
  unfold dB
  have e : x / 2 ^ k = x / 256 ^ (k / 8) / 2 ^ (k % 8) := by
    rw [Nat.div_div_eq_div_mul, p256, ← Nat.pow_add, show 8 * (k / 8) + k % 8 = k by omega]
  rw [e]
  generalize x / 256 ^ (k / 8) = q
  have : k % 8 = 0 ∨ k % 8 = 1 ∨ k % 8 = 2 ∨ k % 8 = 3 ∨ k % 8 = 4 ∨ k % 8 = 5 ∨ k % 8 = 6 ∨ k % 8 = 7 := by omega
  rcases this with h | h | h | h | h | h | h | h <;> rw [h] <;> simp <;> omega
theorem rscbit_yes (x k : Nat) (hk : k ≤ 255) (w : World) : Calls Try.prog 25 #[.agg (row 32 (uV (bR 32 x))).toArray, .int .i64 (k : Nat)] w fun e w' => e = .returned (.int .i64 (x / 2 ^ k % 2 : Nat)) ∧ Below w.heap.size w w' := by
  have HD := Lib.hid (digit_bit x k (by omega))
  have k0 : (0 : Int) ≤ (k : Int) := by omega
  have k1 : (k : Int) ≤ 255 := by omega
  have hA : ∀ W : World, ∀ g, g = W.heap.size → (W.alloc (.cells (row 32 (uV (bR 32 x))).toArray 40)).cell? ⟨g, 31 - k / 8, none⟩ = some (.int .u8 (dB x (k / 8) : Nat)) := fun W g hg => by
    subst hg
    have h := (Blk.new W (row 32 (uV (bR 32 x))).toArray 40).cell (31 - k / 8)
    rw [h]
    show (row 32 _)[31 - k / 8]? = _
    rw [row_get (by omega)]
    unfold uV bR
    rw [show 32 - 1 - (31 - k / 8) = k / 8 by omega]
  have hc : (w.alloc (.cells (row 32 (uV (bR 32 x))).toArray 40)).cell? ⟨w.heap.size, 31 - k / 8, none⟩ = some (.int .u8 (dB x (k / 8) : Nat)) := hA w _ rfl
  have hb := byte_bit (dB x (k / 8)) (k % 8) (dB_lt _ _)
  rw [HD.out] at hb
  generalize dB x (k / 8) = D at *
  have hbt : ((x / 2 ^ k % 2 : Nat) : Int) < 2 := by omega
  generalize x / 2 ^ k % 2 = bt at *
  have hsub : (31 : Int) - (k : Int) / 8 = ((31 - k / 8 : Nat) : Int) := by omega
  have hlt31 : ((31 - k / 8 : Nat) : Int) < 32 := by omega
  have hge31 : (0 : Int) ≤ ((31 - k / 8 : Nat) : Int) := by omega
  generalize hj : 31 - k / 8 = j at *
  clear hA hj
  go_enter Try.func25, Try.ntmps25
  go_wp2
  go_ret
  exact ⟨rfl, (by repeat (first | (with_reducible refine Below.alloc' ?_ _) | (with_reducible refine Below.drew ?_) | (with_reducible refine below_drewN ?_ _) | ((with_reducible refine Below.setCell ?_ ?_ _); rotate_left; (focus (first | exact Nat.le_refl _ | (simp; done) | (simp; omega)))) | (with_reducible assumption) | (with_reducible exact Below.refl _ _)))⟩
end Go.Proofs.Ytbgfokdchpcifaa
