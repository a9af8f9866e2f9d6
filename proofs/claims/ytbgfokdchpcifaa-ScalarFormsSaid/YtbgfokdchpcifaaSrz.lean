/- The walks of the document's own scalars, fifth part: opposites. -/
import Derived.Test.YtbgfokdchpcifaaSry
namespace Go.Proofs.Ytbgfokdchpcifaa
open Go.RowKit

theorem order_less : (row 32 (uV (bR 32 Lq))).set 31 (.int .u8 236) = row 32 (uV (bR 32 (Lq - 1))) := by rw [order_row]; kernel_rfl
theorem order_last : dB Lq 0 = 237 := by decide +kernel
theorem rows_range {w : World} {g E : Nat} {cs : List Value} (h : Blk w g cs E) : w.rangeAt g 0 cs := h.range
set_option maxHeartbeats 4000000 in
theorem rscneg_any {x R : Nat} (hx : x < 256 ^ 32) (hR : (Lq - 1) * x % Lq = R) (w : World) :
    Calls Try.prog 24 #[.agg (row 32 (uV (bR 32 x))).toArray] w fun e w' => e = .returned (.agg (row 32 (uV (bR 32 R))).toArray) ∧ Below w.heap.size w w' := by
  have HM : Hid (∀ w, Calls Try.prog 22 #[.agg (row 32 (uV (bR 32 (Lq - 1)))).toArray, .agg (row 32 (uV (bR 32 x))).toArray] w fun e w' => e = .returned (.agg (row 32 (uV (bR 32 R))).toArray) ∧ Below w.heap.size w w') := Lib.hid (fun w => rscmul_any (by decide +kernel) hx hR w)
  have HL := Lib.hid order_less
  clear hx hR
  obtain ⟨f, hf⟩ : ∃ f, f = bR 32 x := ⟨_, rfl⟩
  obtain ⟨m, hm⟩ : ∃ m, m = bR 32 (Lq - 1) := ⟨_, rfl⟩
  rw [← hf, ← hm] at HM
  rw [← hm] at HL
  rw [← hf]
  clear hf hm
  go_enter Try.func24, Try.ntmps24
  go_upto_region 2 with (go_at_call 32; go_must (refine (rorder_any _).mono ?_; rintro e w1 ⟨rfl, hP, hb⟩))
  refine wp_gen (fun W => Blk W w.heap.size (row 32 (uV f)) 40 ∧ Blk W (w.heap.size + 1) [.int .u8 0, .int .u8 0, .int .u8 0, .int .u8 0, .int .u8 0, .int .u8 0, .int .u8 0, .int .u8 0, .int .u8 0, .int .u8 0, .int .u8 0, .int .u8 0, .int .u8 0, .int .u8 0, .int .u8 0, .int .u8 0, .int .u8 0, .int .u8 0, .int .u8 0, .int .u8 0, .int .u8 0, .int .u8 0, .int .u8 0, .int .u8 0, .int .u8 0, .int .u8 0, .int .u8 0, .int .u8 0, .int .u8 0, .int .u8 0, .int .u8 0, .int .u8 0] 40 ∧ Blk W (w.heap.size + 1 + 1) (row 32 (uV (bR 32 Lq))) 5 ∧ Below w.heap.size w W) ?_ (fun W0 hW => ?_)
  · exact ⟨((Blk.new w _ _).alloc _).below' hb, (Blk.new' (by simp)).below' hb, by simpa using hP, Below.call (by repeat (first | (with_reducible refine Below.alloc' ?_ _) | (with_reducible refine Below.drew ?_) | (with_reducible refine below_drewN ?_ _) | ((with_reducible refine Below.setCell ?_ ?_ _); rotate_left; (focus (first | exact Nat.le_refl _ | (simp; done) | (simp; omega)))) | (with_reducible assumption) | (with_reducible exact Below.refl _ _))) hb⟩
  clear hP hb w1
  obtain ⟨hA, hO, hP, hbel⟩ := hW
  generalize Value.agg (row 32 (uV f)).toArray = V1
  have c31 : W0.cell? ⟨w.heap.size + 1 + 1, 31, none⟩ = some (.int .u8 237) := by rw [hP.at (by omega)]; unfold uV bR; rw [show 32 - 1 - 31 = 0 from rfl, order_last]; rfl
  have hfr := hP.frozen 31
  have hP2 := hP.set 31 (.int .u8 236)
  rw [HL.out] at hP2
  have HP := Lib.hid hP2
  have HA := Lib.hid (hA.other ⟨w.heap.size + 1 + 1, 31, none⟩ (by simp <;> omega) (.int .u8 236))
  have HO := Lib.hid (hO.other ⟨w.heap.size + 1 + 1, 31, none⟩ (by simp <;> omega) (.int .u8 236))
  have hbel2 : Below w.heap.size w (W0.setCell ⟨w.heap.size + 1 + 1, 31, none⟩ (.int .u8 236)) := (by repeat (first | (with_reducible refine Below.alloc' ?_ _) | (with_reducible refine Below.drew ?_) | (with_reducible refine below_drewN ?_ _) | ((with_reducible refine Below.setCell ?_ ?_ _); rotate_left; (focus (first | exact Nat.le_refl _ | (simp; done) | (simp; omega)))) | (with_reducible assumption) | (with_reducible exact Below.refl _ _)))
  clear hP hP2 hA hO hbel
  go_upto_region 4 with fail
  clear c31 hfr
  have hsz : (W0.setCell ⟨w.heap.size + 1 + 1, 31, none⟩ (.int .u8 236)).heap.size = W0.heap.size := by simp
  generalize W0.setCell ⟨w.heap.size + 1 + 1, 31, none⟩ (.int .u8 236) = W1 at *
  have hN := Blk.new' (w := W1) (cs := #[.int .u8 0, .int .u8 0, .int .u8 0, .int .u8 0, .int .u8 0, .int .u8 0, .int .u8 0, .int .u8 0, .int .u8 0, .int .u8 0, .int .u8 0, .int .u8 0, .int .u8 0, .int .u8 0, .int .u8 0, .int .u8 0, .int .u8 0, .int .u8 0, .int .u8 0, .int .u8 0, .int .u8 0, .int .u8 0, .int .u8 0, .int .u8 0, .int .u8 0, .int .u8 0, .int .u8 0, .int .u8 0, .int .u8 0, .int .u8 0, .int .u8 0, .int .u8 0]) (E := 40) hsz.symm
  have HAN := Lib.hid (HA.out.alloc (.cells #[.int .u8 0, .int .u8 0, .int .u8 0, .int .u8 0, .int .u8 0, .int .u8 0, .int .u8 0, .int .u8 0, .int .u8 0, .int .u8 0, .int .u8 0, .int .u8 0, .int .u8 0, .int .u8 0, .int .u8 0, .int .u8 0, .int .u8 0, .int .u8 0, .int .u8 0, .int .u8 0, .int .u8 0, .int .u8 0, .int .u8 0, .int .u8 0, .int .u8 0, .int .u8 0, .int .u8 0, .int .u8 0, .int .u8 0, .int .u8 0, .int .u8 0, .int .u8 0] 40))
  have HON := Lib.hid (HO.out.alloc (.cells #[.int .u8 0, .int .u8 0, .int .u8 0, .int .u8 0, .int .u8 0, .int .u8 0, .int .u8 0, .int .u8 0, .int .u8 0, .int .u8 0, .int .u8 0, .int .u8 0, .int .u8 0, .int .u8 0, .int .u8 0, .int .u8 0, .int .u8 0, .int .u8 0, .int .u8 0, .int .u8 0, .int .u8 0, .int .u8 0, .int .u8 0, .int .u8 0, .int .u8 0, .int .u8 0, .int .u8 0, .int .u8 0, .int .u8 0, .int .u8 0, .int .u8 0, .int .u8 0] 40))
  have hPN := HP.out.alloc (.cells #[.int .u8 0, .int .u8 0, .int .u8 0, .int .u8 0, .int .u8 0, .int .u8 0, .int .u8 0, .int .u8 0, .int .u8 0, .int .u8 0, .int .u8 0, .int .u8 0, .int .u8 0, .int .u8 0, .int .u8 0, .int .u8 0, .int .u8 0, .int .u8 0, .int .u8 0, .int .u8 0, .int .u8 0, .int .u8 0, .int .u8 0, .int .u8 0, .int .u8 0, .int .u8 0, .int .u8 0, .int .u8 0, .int .u8 0, .int .u8 0, .int .u8 0, .int .u8 0] 40)
  have HLT : Hid (w.heap.size + 1 + 1 < W0.heap.size) := Lib.hid (by rw [← hsz]; exact HP.out.lt)
  have hbelN : Below w.heap.size w (W1.alloc (.cells #[.int .u8 0, .int .u8 0, .int .u8 0, .int .u8 0, .int .u8 0, .int .u8 0, .int .u8 0, .int .u8 0, .int .u8 0, .int .u8 0, .int .u8 0, .int .u8 0, .int .u8 0, .int .u8 0, .int .u8 0, .int .u8 0, .int .u8 0, .int .u8 0, .int .u8 0, .int .u8 0, .int .u8 0, .int .u8 0, .int .u8 0, .int .u8 0, .int .u8 0, .int .u8 0, .int .u8 0, .int .u8 0, .int .u8 0, .int .u8 0, .int .u8 0, .int .u8 0] 40)) := (by repeat (first | (with_reducible refine Below.alloc' ?_ _) | (with_reducible refine Below.drew ?_) | (with_reducible refine below_drewN ?_ _) | ((with_reducible refine Below.setCell ?_ ?_ _); rotate_left; (focus (first | exact Nat.le_refl _ | (simp; done) | (simp; omega)))) | (with_reducible assumption) | (with_reducible exact Below.refl _ _)))
  generalize hWN : W1.alloc (.cells #[.int .u8 0, .int .u8 0, .int .u8 0, .int .u8 0, .int .u8 0, .int .u8 0, .int .u8 0, .int .u8 0, .int .u8 0, .int .u8 0, .int .u8 0, .int .u8 0, .int .u8 0, .int .u8 0, .int .u8 0, .int .u8 0, .int .u8 0, .int .u8 0, .int .u8 0, .int .u8 0, .int .u8 0, .int .u8 0, .int .u8 0, .int .u8 0, .int .u8 0, .int .u8 0, .int .u8 0, .int .u8 0, .int .u8 0, .int .u8 0, .int .u8 0, .int .u8 0] 40) = W at *
  clear hsz
  generalize W0.heap.size = g at *
  clear hWN HA HO HP hbel2
  have HN := Lib.hid hN; have HPN := Lib.hid hPN
  clear hN hPN
  have hb1 : ∀ v ∈ row 32 (uV m), v.oneCell' = true := one_rowB 32 m
  have hsrc : 0 < (row 32 (uV m)).length → (some (⟨g, 0, none⟩ : Addr)) = some ⟨g, 0, none⟩ ∧ ∃ ad, (some (⟨w.heap.size + 1 + 1, 0, none⟩ : Addr)) = some ad ∧ ∀ j v, (row 32 (uV m))[j]? = some v → W.cell? (ad.add j) = some v := fun _ => ⟨rfl, _, rfl, fun j v hv => by
    rw [addr_add, Nat.zero_add, HPN.out.cell]; exact hv⟩
  go_upto_region 5 with (refine wpList_copy_splice rfl (.tmp 12) (.tmp 13) 22 22 rfl 5 Try.underlying22 infoSz (some ⟨g, 0, none⟩) (some ⟨w.heap.size + 1 + 1, 0, none⟩) 32 32 32 32 rfl rfl g 0 [.int .u8 0, .int .u8 0, .int .u8 0, .int .u8 0, .int .u8 0, .int .u8 0, .int .u8 0, .int .u8 0, .int .u8 0, .int .u8 0, .int .u8 0, .int .u8 0, .int .u8 0, .int .u8 0, .int .u8 0, .int .u8 0, .int .u8 0, .int .u8 0, .int .u8 0, .int .u8 0, .int .u8 0, .int .u8 0, .int .u8 0, .int .u8 0, .int .u8 0, .int .u8 0, .int .u8 0, .int .u8 0, .int .u8 0, .int .u8 0, .int .u8 0, .int .u8 0] 40 HN.out (row 32 (uV m)) (by rw [row_len]; rfl) hsrc (by rw [row_len]; decide) hb1 g W (Below.refl _ _) (Nat.le_refl _) ?_; intro w4 hg4 hb4)
  have hsp : splice [.int .u8 0, .int .u8 0, .int .u8 0, .int .u8 0, .int .u8 0, .int .u8 0, .int .u8 0, .int .u8 0, .int .u8 0, .int .u8 0, .int .u8 0, .int .u8 0, .int .u8 0, .int .u8 0, .int .u8 0, .int .u8 0, .int .u8 0, .int .u8 0, .int .u8 0, .int .u8 0, .int .u8 0, .int .u8 0, .int .u8 0, .int .u8 0, .int .u8 0, .int .u8 0, .int .u8 0, .int .u8 0, .int .u8 0, .int .u8 0, .int .u8 0, .int .u8 0] 0 (row 32 (uV m)) = row 32 (uV m) := by
    unfold splice
    rw [row_len]
    simp
  rw [hsp] at hg4
  have hB4 : Blk w4 g (row 32 (uV m)) 40 := hg4.out
  have hA4 := HAN.out.below hb4 (by have := HLT.out; omega)
  have HO4 := Lib.hid (HON.out.below hb4 (by have := HLT.out; omega))
  have hbel4 : Below w.heap.size w w4 := hbelN.trans (hb4.mono (by have := HLT.out; omega))
  have hr1 := hB4.range
  have hr2 := hA4.range
  clear hsp hg4 hB4 hA4 hb4 hsrc hb1 HN HAN HON HPN HLT hbelN HL
  generalize goInt (row 32 (uV m)).length = VG
  go_wp2_with (first | (refine wpList_load_mid rfl 40 (.tmp 4) rfl g 0 rfl (row 32 (uV m)) _ hr1 Try.underlying40 rfl (infoSc _) ?_) | (refine wpList_load_mid rfl 40 (.tmp 1) rfl w.heap.size 0 rfl (row 32 (uV f)) _ hr2 Try.underlying40 rfl (infoSc _) ?_)     | (go_at_call 22; (with_reducible refine (HM.out _).mono ?_; rintro e w5 ⟨rfl, hb⟩; obtain ⟨W3, hst3, hB3, hbel3⟩ := st_sc (HO4.out.below' hb) rfl (Below.call hbel4 hb) (by omega) R; have HB3 := Lib.hid hB3; clear hb hB3 hr1 hr2)))
  refine bodyPost_ret (v := .agg (row 32 (uV (bR 32 R))).toArray) (results_cell_row Try.results24 _ _ (w.heap.size + 1) _ _ _ _ ?_ HB3.out Try.underlying40 ?_ (infoScA _)) ?_ ?_
  · rfl
  · rfl
  · rfl
  · exact ⟨rfl, hbel3⟩
end Go.Proofs.Ytbgfokdchpcifaa
