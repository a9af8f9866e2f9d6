/- Chapter 6: what is fixed. -/
import Derived.Test.YtmoggjbnlimepaaXla
namespace Go.Proofs.Ytmoggjbnlimepaa
open Go Go.RowKit

theorem aw_take : (xB awK awU).take 4 = [0xc3, 0xda, 0x55, 0x37] := aw_lad
set_option maxRecDepth 20000 in
set_option maxHeartbeats 1000000 in
theorem law6awake_any (w : World) : Calls Try.prog 9 #[] w fun e w' => e = .returned (.bool true) ∧ Below w.heap.size w w' := by
  obtain ⟨K, hK⟩ : ∃ K, K = awK := ⟨_, rfl⟩
  obtain ⟨U, hU⟩ : ∃ U, U = awU := ⟨_, rfl⟩
  have HA := Lib.hid aw_take
  rw [← hK, ← hU] at HA
  have HK := Lib.hid hK
  have HU := Lib.hid hU
  clear hK hU
  go_enter Try.func9, Try.ntmps9
  go_upto_region 2 with (go_at_call 19; (refine (unhex_any _ K (by rw [HK.out]; decide +kernel) (by rw [HK.out]; decide) (by rw [HK.out]; decide) _).mono ?_; rintro e w1 ⟨g1, c1, r1, rfl, hg1, hK, h1, h2, hbel1⟩))
  have hR1 := RdB.blk (l := K) r1 hK rfl h1 h2
  go_upto_region 3 with (go_at_call 19; (refine (unhex_any _ U (by rw [HU.out]; decide +kernel) (by rw [HU.out]; decide) (by rw [HU.out]; decide) _).mono ?_; rintro e w2 ⟨g2, c2, r2, rfl, hg2, hU, h3, h4, hb2⟩))
  have hbel2 := Below.call hbel1 hb2
  have HR1 := Lib.hid (hR1.below hb2)
  have HR2 := Lib.hid (RdB.blk (l := U) r2 hU rfl h3 h4)
  clear hK hU hb2 hR1 hbel1
  have HC := Lib.hid (shC_1 (l := K) (p := []) (by simp)).1
  go_upto_region 4 with (go_at_call 13; (refine (multB HR1.out HR2.out).mono ?_; rintro e w3 ⟨g3, n3, c3, r3, rfl, hg3, hB, hl3, hc3, hm3, hb3⟩; (rw [xB_len] at hl3); subst hl3; have hbel3 := Below.call hbel2 hb3; have HR3 := Lib.hid (HR1.out.below hb3); clear hb3))
  have HB := Lib.hid hB
  clear hB HR1 HR2 hbel2
  go_upto_region 5 with (go_at_call 10; (refine (sharedB HR3.out (RdB.nil _)).mono ?_; rintro e w4 ⟨a4, n4, c4, rfl, hR4, hb4⟩; rw [HC.out]; have hbel4 := Below.call hbel3 hb4; have HB4 := Lib.hid (HB.out.below' hb4); clear hb4 hR4 hbel3 HB))
  have hR : RdB w4 (some ⟨g3, 0, none⟩) 4 c3 ((xB K U).take 4) := RdB.blk ((xB K U).drop 4 |>.map bV |> fun q => q ++ r3) (by have h := HB4.out; rw [← List.append_assoc, ← List.map_append, List.take_append_drop]; exact h) (by rw [List.length_take, xB_len]; rfl) (by omega) hm3
  have hcv := conv_any hR
  have hs : (bs ((xB K U).take 4)).toList = [195, 218, 85, 55] := by rw [HA.out, bs_toList]
  have h4 : (4 : Nat) ≤ c3 := by omega
  clear hR
  generalize (xB K U).take 4 = tk at *
  go_wp2
  go_ret
  exact ⟨rfl, hbel4⟩
end Go.Proofs.Ytmoggjbnlimepaa
