/- Of chapter 6, XBases: for every input the law returns true, and each argument reads behind the call as it read before. No condition. -/
import Derived.Test.YtmoggjbnlimepaaXcla
import Derived.Test.YtmoggjbnlimepaaRega
import Derived.ProofKit
import Derived.ShutString
import Derived.ChangeOld
namespace Go.Proofs.Ytmoggjbnlimepaa
open Go Go.RowKit

def nineB : List UInt8 := 9 :: List.replicate 31 0
theorem xor8 (c d : UInt8) : bits BinOp.xor IntKind.u8 (c.toNat : Int) (d.toNat : Int) = (((c ^^^ d).toNat : Nat) : Int) := by
  have h1 := c.toNat_lt; have h2 := d.toNat_lt
  have := u8_xor_nat c.toNat d.toNat h1 h2
  rw [this]; simp
set_option maxRecDepth 100000 in
set_option maxHeartbeats 4000000 in
theorem xBases_32 {a b d : Option Addr} {capa capb m capd : Nat} {la lp lm : List UInt8} (w : World) (ha : RdB w a 32 capa la) (hp : RdB w b 32 capb lp) (hm' : RdB w d m capd lm) (hm : m ≤ 40) :
    Calls Try.prog 8 #[.slice a 32 capa, .slice b 32 capb, .slice d m capd] w fun e w' => e = .returned (.bool true) ∧ Below w.heap.size w w' := by
  have hl : la.length = 32 := ha.hlen
  have hlp : lp.length = 32 := hp.hlen
  have HN := Lib.hid (xB_feF (l := la) feF_nine)
  have HQ := Lib.hid (xB_feF (l := la) (feF_high hlp))
  have HQD : Hid (highB lp = lp.set 31 (lp.getD 31 0 ^^^ 128)) := Lib.hid rfl
  have HQL : Hid ((highB lp).length = 32) := Lib.hid (by simp [highB, hlp])
  have HA1 := Lib.hid (show xB (la ++ lm) (lp ++ lm) = xB la lp by rw [xB_clamp (clamp_app hl), xB_feF (feF_app hlp)])
  obtain ⟨c1, hc1⟩ : ∃ c, c = lp.getD 31 0 := ⟨_, rfl⟩
  rw [← hc1] at HQD
  have H1 := Lib.hid hc1
  generalize highB lp = Q at *
  have HL := Lib.hid hl; have HLP := Lib.hid hlp; have HM := Lib.hid hm; have HML := Lib.hid hm'.hlen
  have dm : decide ((40 : Int) < (m : Int)) = false := by simp; omega
  clear hl hc1 hlp hm
  go_enter Try.func8, Try.ntmps8
  have hmk := make32b
  go_upto_region 4 with fail
  clear hmk dm
  have n0 : (w.alloc (.cells ((List.replicate 32 (0 : UInt8)).map bV).toArray 5)).cell? ⟨w.heap.size, 0, none⟩ = some (.int .u8 0) := by rw [(Blk.new w ((List.replicate 32 (0 : UInt8)).map bV).toArray 5).cell]; rfl
  have nf := (Blk.new w ((List.replicate 32 (0 : UInt8)).map bV).toArray 5).frozen
  go_upto_region 5 with fail
  clear n0 nf
  refine wp_gen (fun W => Blk W w.heap.size (nineB.map bV) 5 ∧ Below w.heap.size w W) ?_ (fun w1 hW => ?_)
  · exact ⟨Blk.new w _ _, (by repeat (first | (with_reducible refine Below.alloc' ?_ _) | (with_reducible refine Below.drew ?_) | (with_reducible refine below_drewN ?_ _) | ((with_reducible refine Below.setCell ?_ ?_ _); rotate_left; (focus (first | exact Nat.le_refl _ | (simp; done) | (simp; omega)))) | (with_reducible assumption) | (with_reducible exact Below.refl _ _)))⟩
  obtain ⟨hN3, hbel1⟩ := hW
  have HN3 := Lib.hid hN3
  clear hN3
  go_upto_region 6 with (first | (at_builtin; go_must (refine app_bytes _ rfl (.tmp 27) (.tmp 28) rfl w1.heap.size _ 0 [] rfl (own_none w1 5 w1.heap.size (Nat.le_refl _)) _ _ _ lp rfl (by exact (hp.below hbel1).below (by repeat (first | (with_reducible refine Below.alloc' ?_ _) | (with_reducible refine Below.drew ?_) | (with_reducible refine below_drewN ?_ _) | ((with_reducible refine Below.setCell ?_ ?_ _); rotate_left; (focus (first | exact Nat.le_refl _ | (simp; done) | (simp; omega)))) | (with_reducible assumption) | (with_reducible exact Below.refl _ _)))) (by omega) (by simp) w1 (by exact (by repeat (first | (with_reducible refine Below.alloc' ?_ _) | (with_reducible refine Below.drew ?_) | (with_reducible refine below_drewN ?_ _) | ((with_reducible refine Below.setCell ?_ ?_ _); rotate_left; (focus (first | exact Nat.le_refl _ | (simp; done) | (simp; omega)))) | (with_reducible assumption) | (with_reducible exact Below.refl _ _)))) ?_; intro v1 w2 hown hb1)))
  obtain ⟨gc, cc, rc, rfl, hgc, hC, _, hcc, hmc⟩ := own_rdb (n := 32) (l := lp) hown (by omega)
  have hbel2 := Below.call hbel1 hb1
  have HN4 := Lib.hid (HN3.out.below hb1 HN3.out.lt)
  have hne : w.heap.size ≠ gc := by have := HN3.out.lt; omega
  have k1 : w2.cell? ⟨gc, 31, none⟩ = some (.int .u8 (c1.toNat : Int)) := by
    rw [hC.cell, List.getElem?_append_left (by simp [HLP.out]), H1.out]
    simp [bV, List.getElem?_eq_getElem (show 31 < lp.length by have := HLP.out; omega)]
  have kf := hC.frozen
  obtain ⟨f2, hf2⟩ : ∃ d, d = c1 ^^^ 128 := ⟨_, rfl⟩
  rw [← hf2] at HQD
  have e5 : bits BinOp.xor IntKind.u8 (c1.toNat : Int) 128 = (f2.toNat : Int) := by rw [hf2]; exact xor8 c1 128
  have hC2 := hC.set 31 (.int .u8 (f2.toNat : Int))
  have e : (lp.map bV ++ rc).set 31 (.int .u8 (f2.toNat : Int)) = Q.map bV ++ rc := by
    rw [HQD.out, List.map_set, List.set_append_left _ _ (by simp [HLP.out])]
    rfl
  rw [e] at hC2
  have HC3 := Lib.hid hC2
  have HN5 := Lib.hid (HN4.out.other ⟨gc, 31, none⟩ (by simpa using Ne.symm hne) (.int .u8 (f2.toNat : Int)))
  have hgw : w.heap.size ≤ gc := by have := HN3.out.lt; omega
  have hbel3 : Below w.heap.size w (w2.setCell ⟨gc, 31, none⟩ (.int .u8 (f2.toNat : Int))) := hbel2.setCell hgw _
  clear hC hown hf2 hC2 e HN4 hb1
  go_upto_region 7 with fail
  clear k1 kf e5
  generalize w2.setCell ⟨gc, 31, none⟩ (.int .u8 (f2.toNat : Int)) = w3 at *
  go_upto_region 8 with (go_at_call 13; (refine (multB (ha.below hbel3) (hp.below hbel3)).mono ?_; rintro e w4 ⟨g3, n3, c3, r3, rfl, hg3, hB3, hl3, hc3, hm3, hb3⟩; (rw [xB_len] at hl3); subst hl3; have hbel := Below.call hbel3 hb3; have HB3 := Lib.hid hB3; have HC4 := Lib.hid (HC3.out.below' hb3); have HN6 := Lib.hid (HN5.out.below' hb3); clear hb3 hB3 hbel2))
  have hbel0 := hbel
  refine wp_region_mid (fun u => (Value.slice a 32 capa :: Value.slice b 32 capb :: Value.slice d m capd :: undef :: undef :: undef :: u 42 :: Value.slice (some { block := w.heap.size, off := 0 }) 32 32 :: Value.slice (some { block := gc, off := 0 }) 32 cc :: Value.slice (some { block := g3, off := 0 }) 32 c3 :: Value.slice a 32 capa :: Value.int IntKind.i64 32 :: Value.bool false :: Value.bool false :: Value.slice b 32 capb :: Value.int IntKind.i64 32 :: Value.bool false :: Value.bool false :: Value.bool false :: Value.slice d m capd :: Value.int IntKind.i64 ↑m :: Value.bool false :: Value.bool false :: undef :: Value.slice (some { block := w.heap.size, off := 0 }) 32 32 :: Value.slice (some { block := w.heap.size, off := 0 }) 32 32 :: Value.pointer (some { block := w.heap.size, off := 0 }) :: Value.slice (some { block := w1.heap.size, off := 0 }) 0 0 :: Value.slice b 32 capb :: Value.slice (some { block := gc, off := 0 }) 32 cc :: Value.slice (some { block := gc, off := 0 }) 32 cc :: Value.slice (some { block := gc, off := 0 }) 32 cc :: Value.pointer (some { block := gc, off := 31 }) :: Value.int IntKind.u8 ↑c1.toNat :: Value.int IntKind.u8 ↑f2.toNat :: Value.pointer (some { block := gc, off := 31 }) :: Value.slice a 32 capa :: Value.slice b 32 capb :: Value.slice (some { block := g3, off := 0 }) 32 c3 :: u 0 :: u 1 :: u 2 :: u 3 :: u 4 :: u 5 :: u 6 :: u 7 :: u 8 :: u 9 :: u 10 :: u 11 :: u 12 :: u 13 :: u 14 :: u 15 :: u 16 :: u 17 :: u 18 :: u 19 :: u 20 :: u 21 :: u 22 :: u 23 :: u 24 :: u 25 :: u 26 :: u 27 :: u 28 :: u 29 :: u 30 :: u 31 :: u 32 :: u 33 :: u 34 :: u 35 :: u 36 :: u 37 :: u 38 :: u 39 :: u 40 :: u 41 :: []).toArray) (Holds [.oth (fun v => v = .slice (some ⟨g3, 0, none⟩) 32 c3), .oth (fun v => v = .int .i64 32), .oth (fun v => v = .bool true), .oth (fun v => v = .bool true), .oth (fun v => v = .slice a 32 capa), .rdt (xB la [9]) 6, .oth (fun v => v = (.string (bs (xB la [9])))), .oth (fun v => v = .slice a 32 capa), .oth (fun v => v = .slice (some ⟨w.heap.size, 0, none⟩) 32 32), .rdt (xB la nineB) 10, .oth (fun v => v = (.string (bs (xB la nineB)))), .oth (fun v => v = .bool true), .oth (fun v => v = .bool true), .oth (fun v => v = .bool true), .oth (fun v => v = .slice a 32 capa), .oth (fun v => v = .slice (some ⟨gc, 0, none⟩) 32 cc), .rdt (xB la Q) 17, .oth (fun v => v = (.string (bs (xB la Q)))), .oth (fun v => v = .slice (some ⟨g3, 0, none⟩) 32 c3), .oth (fun v => v = (.string (bs (xB la lp)))), .oth (fun v => v = .bool true), .oth (fun v => v = .bool true), .oth (fun v => v = .bool true), .own [] 25, .oth (fun v => v = .slice a 32 capa), .own la 27, .oth (fun v => v = .slice d m capd), .own (la ++ lm) 33, .own [] 30, .oth (fun v => v = .slice b 32 capb), .own lp 32, .oth (fun v => v = .slice d m capd), .own (lp ++ lm) 33, .rdt (xB (la ++ lm) (lp ++ lm)) 34, .oth (fun v => v = (.string (bs (xB (la ++ lm) (lp ++ lm))))), .oth (fun v => v = .slice (some ⟨g3, 0, none⟩) 32 c3), .oth (fun v => v = (.string (bs (xB la lp)))), .oth (fun v => v = .bool true), .oth (fun v => v = .bool true), .oth (fun v => v = .bool true), .oth (fun v => v = .bool true), .oth (fun v => v = .bool true), .oth (fun v => v = .bool true)] w4) (Keep [.oth (fun v => v = .slice (some ⟨g3, 0, none⟩) 32 c3), .oth (fun v => v = .int .i64 32), .oth (fun v => v = .bool true), .oth (fun v => v = .bool true), .oth (fun v => v = .slice a 32 capa), .rdt (xB la [9]) 6, .oth (fun v => v = (.string (bs (xB la [9])))), .oth (fun v => v = .slice a 32 capa), .oth (fun v => v = .slice (some ⟨w.heap.size, 0, none⟩) 32 32), .rdt (xB la nineB) 10, .oth (fun v => v = (.string (bs (xB la nineB)))), .oth (fun v => v = .bool true), .oth (fun v => v = .bool true), .oth (fun v => v = .bool true), .oth (fun v => v = .slice a 32 capa), .oth (fun v => v = .slice (some ⟨gc, 0, none⟩) 32 cc), .rdt (xB la Q) 17, .oth (fun v => v = (.string (bs (xB la Q)))), .oth (fun v => v = .slice (some ⟨g3, 0, none⟩) 32 c3), .oth (fun v => v = (.string (bs (xB la lp)))), .oth (fun v => v = .bool true), .oth (fun v => v = .bool true), .oth (fun v => v = .bool true), .own [] 25, .oth (fun v => v = .slice a 32 capa), .own la 27, .oth (fun v => v = .slice d m capd), .own (la ++ lm) 33, .own [] 30, .oth (fun v => v = .slice b 32 capb), .own lp 32, .oth (fun v => v = .slice d m capd), .own (lp ++ lm) 33, .rdt (xB (la ++ lm) (lp ++ lm)) 34, .oth (fun v => v = (.string (bs (xB (la ++ lm) (lp ++ lm))))), .oth (fun v => v = .slice (some ⟨g3, 0, none⟩) 32 c3), .oth (fun v => v = (.string (bs (xB la lp)))), .oth (fun v => v = .bool true), .oth (fun v => v = .bool true), .oth (fun v => v = .bool true), .oth (fun v => v = .bool true), .oth (fun v => v = .bool true), .oth (fun v => v = .bool true)] w4) (fun k => ([undef, undef, undef, undef, undef, undef, undef, undef, undef, undef, undef, undef, undef, undef, undef, undef, undef, undef, undef, undef, undef, undef, undef, undef, undef, undef, undef, undef, undef, undef, undef, undef, undef, undef, undef, undef, undef, undef, undef, undef, undef, undef, Value.bool false] : List Value).getD k undef) (by kernel_rfl) (by kernel_rfl) ?_ (by rfl) Keep.drew (holds_soft (by kernel_rfl)) ?_ ?_
  · intro u i v h
    rcases i with _ | _ | _ | _ | _ | _ | _ | _ | _ | _ | _ | _ | _ | _ | _ | _ | _ | _ | _ | _ | _ | _ | _ | _ | _ | _ | _ | _ | _ | _ | _ | _ | _ | _ | _ | _ | _ | _ | _ | _ | _ | _ | _ | i
    all_goals first | (simp [Act.put, putV]; done) | (exfalso; simp at h; omega)
  · intro hs
    refine ⟨?_, ?_, ?_, ?_, ?_, ?_, ?_, ?_, ?_, ?_, ?_, ?_, ?_, ?_, ?_, ?_, ?_, ?_, ?_, ?_, ?_, ?_, ?_, ?_, ?_, ?_, ?_, ?_, ?_, ?_, ?_, ?_, ?_, ?_, ?_, ?_, ?_, ?_, ?_, ?_, ?_, ?_, ?_, trivial⟩
    · exact step_pureO hs (wants_none rfl) rfl fun L u W hG hdep => ⟨_, run_move rfl, rfl⟩
    · refine step_pureO hs (wants_none rfl) rfl fun L u W hG hdep => ⟨_, ?_, rfl⟩
      have e0 := (show u 0 = .slice (some ⟨g3, 0, none⟩) 32 c3 from hG 0 (hdep 0 (by kernel_rfl)))
      go_simp
    · refine step_pureO hs (wants_none rfl) rfl fun L u W hG hdep => ⟨_, ?_, rfl⟩
      have e0 := (show u 1 = .int .i64 32 from hG 1 (hdep 1 (by kernel_rfl)))
      go_simp
      try simp [bne]
    · exact step_pureO hs (wants_none rfl) rfl fun L u W hG hdep => ⟨_, run_move rfl, (show u 2 = .bool true from hG 2 (hdep 2 (by kernel_rfl)))⟩
    · exact step_pureO hs (wants_on 3 rfl rfl (by kernel_rfl) (fun _ => rfl)) rfl fun L u W hG hdep => ⟨_, run_move rfl, rfl⟩
    · refine step_callRt hs (wants_on 3 rfl rfl (by kernel_rfl) (fun _ => rfl)) rfl fun L u W hJ hG hL hdep K hK => ?_
      have x0 := (show u 4 = .slice a 32 capa from hG 4 (hdep 4 (by kernel_rfl)))
      have hRB0 := (ha.below hbel).below (hJ.all rfl)
      go_simp
      go_at_call 17
      (with_reducible refine (baseB hRB0).mono ?_); rintro e w1 ⟨g, n, cap, r, rfl, h1, h2, h3, h4, h5, hb⟩
      have hk := hK.out _ _ _ _ _ h1 h2 h3 h4 h5 hb
      simp only [x0] at hk
      exact hk
    · exact step_convT 5 hs (wants_on 3 rfl rfl (by kernel_rfl) (fun _ => rfl)) rfl rfl rfl (by kernel_rfl) (fun _ => rfl)
    · exact step_pureO hs (wants_on 3 rfl rfl (by kernel_rfl) (fun _ => rfl)) rfl fun L u W hG hdep => ⟨_, run_move rfl, rfl⟩
    · exact step_pureO hs (wants_on 3 rfl rfl (by kernel_rfl) (fun _ => rfl)) rfl fun L u W hG hdep => ⟨_, run_move rfl, rfl⟩
    · refine step_callRt hs (wants_on 3 rfl rfl (by kernel_rfl) (fun _ => rfl)) rfl fun L u W hJ hG hL hdep K hK => ?_
      have x0 := (show u 7 = .slice a 32 capa from hG 7 (hdep 7 (by kernel_rfl)))
      have x1 := (show u 8 = .slice (some ⟨w.heap.size, 0, none⟩) 32 32 from hG 8 (hdep 8 (by kernel_rfl)))
      have hRB0 := (ha.below hbel).below (hJ.all rfl)
      have hRB1 := (RdB.blk (n := 32) (cap := 32) [] (by simpa using HN6.out) (by rfl) (Nat.le_refl _) (by unfold maxLen; omega)).below (hJ.all rfl)
      go_simp
      go_at_call 13
      (with_reducible refine (multB hRB0 hRB1).mono ?_); rintro e w1 ⟨g, n, cap, r, rfl, h1, h2, h3, h4, h5, hb⟩
      have hk := hK.out _ _ _ _ _ h1 h2 h3 h4 h5 hb
      simp only [x0, x1] at hk
      exact hk
    · exact step_convT 9 hs (wants_on 3 rfl rfl (by kernel_rfl) (fun _ => rfl)) rfl rfl rfl (by kernel_rfl) (fun _ => rfl)
    · exact step_pureO hs (wants_on 3 rfl rfl (by kernel_rfl) (fun _ => rfl)) rfl fun L u W hG hdep => ⟨_, run_eqlS rfl (show u 6 = (.string (bs (xB la [9]))) from hG 6 (hdep 6 (by kernel_rfl))) (show u 10 = (.string (bs (xB la nineB))) from hG 10 (hdep 10 (by kernel_rfl))), by rw [decide_eq_true (show xB la [9] = xB la nineB from (by first | exact HN.out | exact (HN.out).symm))]⟩
    · exact step_pick true hs (wants_none rfl) rfl rfl (fun L u W hG hdep => (show u 3 = .bool true from hG 3 (hdep 3 (by kernel_rfl)))) (fun L u W hG hdep => (show u 11 = .bool true from hG 11 (hdep 11 (by kernel_rfl))))
    · exact step_pureO hs (wants_none rfl) rfl fun L u W hG hdep => ⟨_, run_move rfl, (show u 12 = .bool true from hG 12 (hdep 12 (by kernel_rfl)))⟩
    · exact step_pureO hs (wants_on 13 rfl rfl (by kernel_rfl) (fun _ => rfl)) rfl fun L u W hG hdep => ⟨_, run_move rfl, rfl⟩
    · exact step_pureO hs (wants_on 13 rfl rfl (by kernel_rfl) (fun _ => rfl)) rfl fun L u W hG hdep => ⟨_, run_move rfl, rfl⟩
    · refine step_callRt hs (wants_on 13 rfl rfl (by kernel_rfl) (fun _ => rfl)) rfl fun L u W hJ hG hL hdep K hK => ?_
      have x0 := (show u 14 = .slice a 32 capa from hG 14 (hdep 14 (by kernel_rfl)))
      have x1 := (show u 15 = .slice (some ⟨gc, 0, none⟩) 32 cc from hG 15 (hdep 15 (by kernel_rfl)))
      have hRB0 := (ha.below hbel).below (hJ.all rfl)
      have hRB1 := (RdB.blk rc HC4.out HQL.out hcc hmc).below (hJ.all rfl)
      go_simp
      go_at_call 13
      (with_reducible refine (multB hRB0 hRB1).mono ?_); rintro e w1 ⟨g, n, cap, r, rfl, h1, h2, h3, h4, h5, hb⟩
      have hk := hK.out _ _ _ _ _ h1 h2 h3 h4 h5 hb
      simp only [x0, x1] at hk
      exact hk
    · exact step_convT 16 hs (wants_on 13 rfl rfl (by kernel_rfl) (fun _ => rfl)) rfl rfl rfl (by kernel_rfl) (fun _ => rfl)
    · exact step_pureO hs (wants_on 13 rfl rfl (by kernel_rfl) (fun _ => rfl)) rfl fun L u W hG hdep => ⟨_, run_move rfl, rfl⟩
    · exact step_convC hs (wants_on 13 rfl rfl (by kernel_rfl) (fun _ => rfl)) rfl rfl (RdB.blk r3 HB3.out (xB_len _ _) hc3 hm3) (by kernel_rfl) (fun L u W hG hdep => (show u 18 = .slice (some ⟨g3, 0, none⟩) 32 c3 from hG 18 (hdep 18 (by kernel_rfl))))
    · exact step_pureO hs (wants_on 13 rfl rfl (by kernel_rfl) (fun _ => rfl)) rfl fun L u W hG hdep => ⟨_, run_eqlS rfl (show u 17 = (.string (bs (xB la Q))) from hG 17 (hdep 17 (by kernel_rfl))) (show u 19 = (.string (bs (xB la lp))) from hG 19 (hdep 19 (by kernel_rfl))), by rw [decide_eq_true (show xB la Q = xB la lp from (by first | exact HQ.out | exact (HQ.out).symm))]⟩
    · exact step_pick true hs (wants_none rfl) rfl rfl (fun L u W hG hdep => (show u 13 = .bool true from hG 13 (hdep 13 (by kernel_rfl)))) (fun L u W hG hdep => (show u 20 = .bool true from hG 20 (hdep 20 (by kernel_rfl))))
    · exact step_pureO hs (wants_none rfl) rfl fun L u W hG hdep => ⟨_, run_move rfl, (show u 21 = .bool true from hG 21 (hdep 21 (by kernel_rfl)))⟩
    · exact step_build0s hs (wants_on 22 rfl rfl (by kernel_rfl) (fun _ => rfl)) rfl (fun ev w => by unfold execOp; go_simp)
    · exact step_pureO hs (wants_on 22 rfl rfl (by kernel_rfl) (fun _ => rfl)) rfl fun L u W hG hdep => ⟨_, run_move rfl, rfl⟩
    · refine step_app (l1 := ([])) (l2 := la) 23 (wants_on 22 rfl rfl (by kernel_rfl) (fun _ => rfl)) rfl rfl rfl (by kernel_rfl) (fun _ => rfl) (fun L u W hG hdep => (show u 24 = .slice a 32 capa from hG 24 (hdep 24 (by kernel_rfl)))) (ha.below hbel) (by have h1 := HL.out; have h2 := HLP.out; have h3 := HML.out; have h4 := HM.out; simp; omega) (by kernel_rfl) (fun k l' v' hk => ?_)
      rcases k with _ | _ | _ | _ | _ | _ | _ | _ | _ | _ | _ | _ | _ | _ | _ | _ | _ | _ | _ | _ | _ | _ | _ | _ | _ | _ | _ | _ | _ | _ | _ | _ | _ | _ | _ | _ | _ | _ | _ | _ | _ | _ | _ | k
      · cases hk
      · cases hk
      · cases hk
      · cases hk
      · cases hk
      · cases hk; exact .inl (.cons (c := 22) (by kernel_rfl) (.cons (c := 21) (by kernel_rfl) (.cons (c := 13) (by kernel_rfl) (.cons (c := 12) (by kernel_rfl) (.cons (c := 11) (by kernel_rfl) (.one (by kernel_rfl)))))))
      · cases hk
      · cases hk
      · cases hk
      · cases hk; exact .inl (.cons (c := 22) (by kernel_rfl) (.cons (c := 21) (by kernel_rfl) (.cons (c := 13) (by kernel_rfl) (.cons (c := 12) (by kernel_rfl) (.cons (c := 11) (by kernel_rfl) (.one (by kernel_rfl)))))))
      · cases hk
      · cases hk
      · cases hk
      · cases hk
      · cases hk
      · cases hk
      · cases hk; exact .inl (.cons (c := 22) (by kernel_rfl) (.cons (c := 21) (by kernel_rfl) (.cons (c := 20) (by kernel_rfl) (.one (by kernel_rfl)))))
      · cases hk
      · cases hk
      · cases hk
      · cases hk
      · cases hk
      · cases hk
      · cases hk
      · cases hk
      · cases hk
      · cases hk
      · cases hk
      · cases hk
      · cases hk
      · cases hk
      · cases hk
      · cases hk
      · cases hk; exact .inr (.cons (c := 27) (by kernel_rfl) (.one (by kernel_rfl)))
      · cases hk
      · cases hk
      · cases hk
      · cases hk
      · cases hk
      · cases hk
      · cases hk
      · cases hk
      · cases hk
      · cases hk
    · exact step_pureO hs (wants_on 22 rfl rfl (by kernel_rfl) (fun _ => rfl)) rfl fun L u W hG hdep => ⟨_, run_move rfl, rfl⟩
    · refine step_app (l1 := la) (l2 := lm) 25 (wants_on 22 rfl rfl (by kernel_rfl) (fun _ => rfl)) rfl rfl rfl (by kernel_rfl) (fun _ => rfl) (fun L u W hG hdep => (show u 26 = .slice d m capd from hG 26 (hdep 26 (by kernel_rfl)))) (hm'.below hbel) (by have h1 := HL.out; have h2 := HLP.out; have h3 := HML.out; have h4 := HM.out; simp; omega) (by kernel_rfl) (fun k l' v' hk => ?_)
      rcases k with _ | _ | _ | _ | _ | _ | _ | _ | _ | _ | _ | _ | _ | _ | _ | _ | _ | _ | _ | _ | _ | _ | _ | _ | _ | _ | _ | _ | _ | _ | _ | _ | _ | _ | _ | _ | _ | _ | _ | _ | _ | _ | _ | k
      · cases hk
      · cases hk
      · cases hk
      · cases hk
      · cases hk
      · cases hk; exact .inl (.cons (c := 22) (by kernel_rfl) (.cons (c := 21) (by kernel_rfl) (.cons (c := 13) (by kernel_rfl) (.cons (c := 12) (by kernel_rfl) (.cons (c := 11) (by kernel_rfl) (.one (by kernel_rfl)))))))
      · cases hk
      · cases hk
      · cases hk
      · cases hk; exact .inl (.cons (c := 22) (by kernel_rfl) (.cons (c := 21) (by kernel_rfl) (.cons (c := 13) (by kernel_rfl) (.cons (c := 12) (by kernel_rfl) (.cons (c := 11) (by kernel_rfl) (.one (by kernel_rfl)))))))
      · cases hk
      · cases hk
      · cases hk
      · cases hk
      · cases hk
      · cases hk
      · cases hk; exact .inl (.cons (c := 22) (by kernel_rfl) (.cons (c := 21) (by kernel_rfl) (.cons (c := 20) (by kernel_rfl) (.one (by kernel_rfl)))))
      · cases hk
      · cases hk
      · cases hk
      · cases hk
      · cases hk
      · cases hk
      · cases hk
      · cases hk
      · cases hk
      · cases hk
      · cases hk
      · cases hk
      · cases hk
      · cases hk
      · cases hk
      · cases hk
      · cases hk; exact .inr (.one (by kernel_rfl))
      · cases hk
      · cases hk
      · cases hk
      · cases hk
      · cases hk
      · cases hk
      · cases hk
      · cases hk
      · cases hk
      · cases hk
    · exact step_build0s hs (wants_on 22 rfl rfl (by kernel_rfl) (fun _ => rfl)) rfl (fun ev w => by unfold execOp; go_simp)
    · exact step_pureO hs (wants_on 22 rfl rfl (by kernel_rfl) (fun _ => rfl)) rfl fun L u W hG hdep => ⟨_, run_move rfl, rfl⟩
    · refine step_app (l1 := ([])) (l2 := lp) 28 (wants_on 22 rfl rfl (by kernel_rfl) (fun _ => rfl)) rfl rfl rfl (by kernel_rfl) (fun _ => rfl) (fun L u W hG hdep => (show u 29 = .slice b 32 capb from hG 29 (hdep 29 (by kernel_rfl)))) (hp.below hbel) (by have h1 := HL.out; have h2 := HLP.out; have h3 := HML.out; have h4 := HM.out; simp; omega) (by kernel_rfl) (fun k l' v' hk => ?_)
      rcases k with _ | _ | _ | _ | _ | _ | _ | _ | _ | _ | _ | _ | _ | _ | _ | _ | _ | _ | _ | _ | _ | _ | _ | _ | _ | _ | _ | _ | _ | _ | _ | _ | _ | _ | _ | _ | _ | _ | _ | _ | _ | _ | _ | k
      · cases hk
      · cases hk
      · cases hk
      · cases hk
      · cases hk
      · cases hk; exact .inl (.cons (c := 22) (by kernel_rfl) (.cons (c := 21) (by kernel_rfl) (.cons (c := 13) (by kernel_rfl) (.cons (c := 12) (by kernel_rfl) (.cons (c := 11) (by kernel_rfl) (.one (by kernel_rfl)))))))
      · cases hk
      · cases hk
      · cases hk
      · cases hk; exact .inl (.cons (c := 22) (by kernel_rfl) (.cons (c := 21) (by kernel_rfl) (.cons (c := 13) (by kernel_rfl) (.cons (c := 12) (by kernel_rfl) (.cons (c := 11) (by kernel_rfl) (.one (by kernel_rfl)))))))
      · cases hk
      · cases hk
      · cases hk
      · cases hk
      · cases hk
      · cases hk
      · cases hk; exact .inl (.cons (c := 22) (by kernel_rfl) (.cons (c := 21) (by kernel_rfl) (.cons (c := 20) (by kernel_rfl) (.one (by kernel_rfl)))))
      · cases hk
      · cases hk
      · cases hk
      · cases hk
      · cases hk
      · cases hk
      · cases hk
      · cases hk
      · cases hk
      · cases hk
      · cases hk
      · cases hk
      · cases hk
      · cases hk
      · cases hk
      · cases hk
      · cases hk; exact .inr (.cons (c := 32) (by kernel_rfl) (.one (by kernel_rfl)))
      · cases hk
      · cases hk
      · cases hk
      · cases hk
      · cases hk
      · cases hk
      · cases hk
      · cases hk
      · cases hk
      · cases hk
    · exact step_pureO hs (wants_on 22 rfl rfl (by kernel_rfl) (fun _ => rfl)) rfl fun L u W hG hdep => ⟨_, run_move rfl, rfl⟩
    · refine step_app (l1 := lp) (l2 := lm) 30 (wants_on 22 rfl rfl (by kernel_rfl) (fun _ => rfl)) rfl rfl rfl (by kernel_rfl) (fun _ => rfl) (fun L u W hG hdep => (show u 31 = .slice d m capd from hG 31 (hdep 31 (by kernel_rfl)))) (hm'.below hbel) (by have h1 := HL.out; have h2 := HLP.out; have h3 := HML.out; have h4 := HM.out; simp; omega) (by kernel_rfl) (fun k l' v' hk => ?_)
      rcases k with _ | _ | _ | _ | _ | _ | _ | _ | _ | _ | _ | _ | _ | _ | _ | _ | _ | _ | _ | _ | _ | _ | _ | _ | _ | _ | _ | _ | _ | _ | _ | _ | _ | _ | _ | _ | _ | _ | _ | _ | _ | _ | _ | k
      · cases hk
      · cases hk
      · cases hk
      · cases hk
      · cases hk
      · cases hk; exact .inl (.cons (c := 22) (by kernel_rfl) (.cons (c := 21) (by kernel_rfl) (.cons (c := 13) (by kernel_rfl) (.cons (c := 12) (by kernel_rfl) (.cons (c := 11) (by kernel_rfl) (.one (by kernel_rfl)))))))
      · cases hk
      · cases hk
      · cases hk
      · cases hk; exact .inl (.cons (c := 22) (by kernel_rfl) (.cons (c := 21) (by kernel_rfl) (.cons (c := 13) (by kernel_rfl) (.cons (c := 12) (by kernel_rfl) (.cons (c := 11) (by kernel_rfl) (.one (by kernel_rfl)))))))
      · cases hk
      · cases hk
      · cases hk
      · cases hk
      · cases hk
      · cases hk
      · cases hk; exact .inl (.cons (c := 22) (by kernel_rfl) (.cons (c := 21) (by kernel_rfl) (.cons (c := 20) (by kernel_rfl) (.one (by kernel_rfl)))))
      · cases hk
      · cases hk
      · cases hk
      · cases hk
      · cases hk
      · cases hk
      · cases hk
      · cases hk
      · cases hk
      · cases hk
      · cases hk
      · cases hk
      · cases hk
      · cases hk
      · cases hk
      · cases hk
      · cases hk; exact .inr (.one (by kernel_rfl))
      · cases hk
      · cases hk
      · cases hk
      · cases hk
      · cases hk
      · cases hk
      · cases hk
      · cases hk
      · cases hk
      · cases hk
    · refine step_callRt hs (wants_on 22 rfl rfl (by kernel_rfl) (fun _ => rfl)) rfl fun L u W hJ hG hL hdep K hK => ?_
      obtain ⟨gO0, nO0, cO0, x0, hO0⟩ : ∃ g n cap, u 27 = .slice (some ⟨g, 0, none⟩) n cap ∧ (L 33 = false → RdB W (some ⟨g, 0, none⟩) n cap (la ++ lm)) := by
        obtain ⟨g, cap, h1, _, _, h4⟩ := (show ∃ g cap, u 27 = .slice (some ⟨g, 0, none⟩) (la ++ lm).length cap ∧ w4.heap.size ≤ g ∧ g < W.heap.size ∧ (L 33 = false → W.ownsRow w4.heap.size 5 1 (.slice (some ⟨g, 0, none⟩) (la ++ lm).length cap) (la ++ lm).length ((la ++ lm).map bV)) from hG 27 (hdep 27 (by kernel_rfl)))
        exact ⟨g, _, cap, h1, fun hl => own_RdB (h4 hl)⟩
      obtain ⟨gO1, nO1, cO1, x1, hO1⟩ : ∃ g n cap, u 32 = .slice (some ⟨g, 0, none⟩) n cap ∧ (L 33 = false → RdB W (some ⟨g, 0, none⟩) n cap (lp ++ lm)) := by
        obtain ⟨g, cap, h1, _, _, h4⟩ := (show ∃ g cap, u 32 = .slice (some ⟨g, 0, none⟩) (lp ++ lm).length cap ∧ w4.heap.size ≤ g ∧ g < W.heap.size ∧ (L 33 = false → W.ownsRow w4.heap.size 5 1 (.slice (some ⟨g, 0, none⟩) (lp ++ lm).length cap) (lp ++ lm).length ((lp ++ lm).map bV)) from hG 32 (hdep 32 (by kernel_rfl)))
        exact ⟨g, _, cap, h1, fun hl => own_RdB (h4 hl)⟩
      have hB0 := hO0 hL
      have hB1 := hO1 hL
      go_simp
      go_at_call 13
      (with_reducible refine (multB hB0 hB1).mono ?_); rintro e w1 ⟨g, n, cap, r, rfl, h1, h2, h3, h4, h5, hb⟩
      have hk := hK.out _ _ _ _ _ h1 h2 h3 h4 h5 hb
      simp only [x0, x1] at hk
      exact hk
    · exact step_convT 33 hs (wants_on 22 rfl rfl (by kernel_rfl) (fun _ => rfl)) rfl rfl rfl (by kernel_rfl) (fun _ => rfl)
    · exact step_pureO hs (wants_on 22 rfl rfl (by kernel_rfl) (fun _ => rfl)) rfl fun L u W hG hdep => ⟨_, run_move rfl, rfl⟩
    · exact step_convC hs (wants_on 22 rfl rfl (by kernel_rfl) (fun _ => rfl)) rfl rfl (RdB.blk r3 HB3.out (xB_len _ _) hc3 hm3) (by kernel_rfl) (fun L u W hG hdep => (show u 35 = .slice (some ⟨g3, 0, none⟩) 32 c3 from hG 35 (hdep 35 (by kernel_rfl))))
    · exact step_pureO hs (wants_on 22 rfl rfl (by kernel_rfl) (fun _ => rfl)) rfl fun L u W hG hdep => ⟨_, run_eqlS rfl (show u 34 = (.string (bs (xB (la ++ lm) (lp ++ lm)))) from hG 34 (hdep 34 (by kernel_rfl))) (show u 36 = (.string (bs (xB la lp))) from hG 36 (hdep 36 (by kernel_rfl))), by rw [decide_eq_true (show xB (la ++ lm) (lp ++ lm) = xB la lp from (by first | exact HA1.out | exact (HA1.out).symm))]⟩
    · exact step_pick true hs (wants_none rfl) rfl rfl (fun L u W hG hdep => (show u 22 = .bool true from hG 22 (hdep 22 (by kernel_rfl)))) (fun L u W hG hdep => (show u 37 = .bool true from hG 37 (hdep 37 (by kernel_rfl))))
    · exact step_pureO hs (wants_none rfl) rfl fun L u W hG hdep => ⟨_, run_move rfl, (show u 38 = .bool true from hG 38 (hdep 38 (by kernel_rfl)))⟩
    · refine step_callO hs (wants_on 39 rfl rfl (by kernel_rfl) (fun _ => rfl)) rfl fun L u W hJ hG hdep K hK => ?_
      go_simp
      go_at_call 9
      (with_reducible refine (law6awake_any _).mono ?_); rintro e w1 ⟨rfl, hb⟩
      have hk := hK.out _ _ rfl hb
      exact hk
    · exact step_pick true hs (wants_none rfl) rfl rfl (fun L u W hG hdep => (show u 39 = .bool true from hG 39 (hdep 39 (by kernel_rfl)))) (fun L u W hG hdep => (show u 40 = .bool true from hG 40 (hdep 40 (by kernel_rfl))))
    · exact step_pureO hs (wants_none rfl) rfl fun L u W hG hdep => ⟨_, run_assign rfl, (show u 41 = .bool true from hG 41 (hdep 41 (by kernel_rfl)))⟩
  intro L8 u8 W8 hall hJ hG
  have hb := hJ.all rfl
  have hbel := Below.call hbel hb
  have HC41 := Lib.hid (show u8 2 = .bool true from hG 2 (by simp))
  have HC42 := Lib.hid (show u8 3 = .bool true from hG 3 (by simp))
  have HC50 := Lib.hid (show u8 11 = .bool true from hG 11 (by simp))
  have HC51 := Lib.hid (show u8 12 = .bool true from hG 12 (by simp))
  have HC52 := Lib.hid (show u8 13 = .bool true from hG 13 (by simp))
  have HC59 := Lib.hid (show u8 20 = .bool true from hG 20 (by simp))
  have HC60 := Lib.hid (show u8 21 = .bool true from hG 21 (by simp))
  have HC61 := Lib.hid (show u8 22 = .bool true from hG 22 (by simp))
  have HC76 := Lib.hid (show u8 37 = .bool true from hG 37 (by simp))
  have HC77 := Lib.hid (show u8 38 = .bool true from hG 38 (by simp))
  have HC78 := Lib.hid (show u8 39 = .bool true from hG 39 (by simp))
  have HC79 := Lib.hid (show u8 40 = .bool true from hG 40 (by simp))
  have HC80 := Lib.hid (show u8 41 = .bool true from hG 41 (by simp))
  have HC6 := Lib.hid (show u8 42 = .bool true from hG 42 (by simp))
  have hbel0 := hbel
  clear hJ hG hall hb
  rw [HC6.out]
  go_wp2
  go_ret
  exact ⟨rfl, hbel⟩
end Go.Proofs.Ytmoggjbnlimepaa
namespace Go.Proofs.Ytmoggjbnlimepaa
open Go.ChangeShapes Go.WideShapes Go.ChangeAt Go.RowKit
open Go.ChangeMaps (open_string shut_string)

theorem xBases_any {a b d : Option Addr} {n m k capa capb capd : Nat} {la lp lm : List UInt8} (w : World) (ha : RdB w a n capa la) (hb : RdB w b m capb lp) (hd : RdB w d k capd lm) :
    Calls Try.prog 8 #[.slice a n capa, .slice b m capb, .slice d k capd] w fun e w' => e = .returned (.bool true) ∧ Below w.heap.size w w' := by
  by_cases hn : n = 32
  · subst hn
    by_cases hm : m = 32
    · subst hm
      by_cases hk : k ≤ 40
      · exact xBases_32 w ha hb hd hk
      · have d1 : decide ((40 : Int) < (k : Int)) = true := by simp; omega
        clear hk
        go_enter Try.func8, Try.ntmps8
        go_wp2_with (go_at_call 9; (with_reducible refine (law6awake_any _).mono ?_); rintro e w2 ⟨rfl, h2⟩)
        go_ret
        exact ⟨rfl, h2⟩
    · have d1 : ((m : Int) != 32) = true := by simp; omega
      have d2 : ((m : Int) == 32) = false := by simp; omega
      clear hm
      go_enter Try.func8, Try.ntmps8
      go_wp2_with (go_at_call 9; (with_reducible refine (law6awake_any _).mono ?_); rintro e w2 ⟨rfl, h2⟩)
      go_ret
      exact ⟨rfl, h2⟩
  · have d1 : ((n : Int) != 32) = true := by simp; omega
    have d2 : ((n : Int) == 32) = false := by simp; omega
    clear hn
    go_enter Try.func8, Try.ntmps8
    go_wp2_with (go_at_call 9; (with_reducible refine (law6awake_any _).mono ?_); rintro e w2 ⟨rfl, h2⟩)
    go_ret
    exact ⟨rfl, h2⟩
namespace xBasesDone
theorem own : ownKnob Try.prog.godebug = none := by kernel_rfl
theorem laidOut : laidOutB Try.prog = true := by kernel_rfl
set_option maxRecDepth 100000 in
theorem lifted (os : Os) (started : os.Started) (H : Type) (enc : TypeId × Value → H) :
    ReturnsInHanded {} Try.checked os 8 .any (Rows.xBasesSpec.pre6 enc Try.prog Try.f8 Rows.xBasesRow.domain false) (Rows.xBasesSpec.post enc Try.prog Try.f8 false true false false) := by
  refine returnsInHanded_of_change (C := Try.checked) own started (by kernel_rfl) Try.func8
    (ChangeSpec.witness6 (enc := enc) (C := Try.checked) false ⟨#[], #[.slice none 0 0, .slice none 0 0, .slice none 0 0], []⟩ 8 (by kernel_rfl) (by kernel_rfl) (by kernel_rfl) (by kernel_rfl)) ?_
  intro W base args ds gs before hval0 hW hcnd _
  have hval : ∀ (j : Nat) t v, Try.f8.params[j]? = some t → args[j]? = some v → Value.okWide Try.prog W .any base t v := hval0
  have hW' := hW
  obtain ⟨p, q, hA0, hV, rfl, hfz, hnd⟩ := hW
  have hA : DataW.TrodAll enc Try.prog W 0 (fun _ => true) true Try.f8.params.toList args.toList ds p := hA0
  rw [Try.params8] at hA hval
  obtain ⟨v0, vs0, d0, ds0, p0, q0, hargs, rfl, rfl, h0, r0⟩ := trodAll_cons hA
  obtain ⟨v1, vs1, d1, ds1, p1, q1, rfl, rfl, rfl, h1, r1⟩ := trodAll_cons r0
  obtain ⟨v2, vs2, d2, ds2, p2, q2, rfl, rfl, rfl, h2, r2⟩ := trodAll_cons r1
  obtain ⟨rfl, rfl, rfl⟩ := trodAll_nil r2
  obtain rfl : args = #[v0, v1, v2] := by cases args; simp_all
  obtain ⟨rfl, rfl⟩ := trodVars_none hV
  obtain ⟨a0, len0, cap0, rfl⟩ := okWide_slice Try.underlying22 (hval 0 22 v0 rfl rfl)
  have k0 := h0
  have lt0 : ∀ x ∈ p0, x.block < W.heap.size := by obtain ⟨m, hm⟩ := k0; exact DataW.trod_lt m _ _ _ hm
  obtain ⟨l0, w0⟩ : ∃ l, RdB W a0 len0 cap0 l := by
    obtain ⟨fuel, hf⟩ := h0
    rcases open_ints Try.underlying22 Try.underlying5 (by kernel_rfl) hf with ⟨hcs, _⟩ | ⟨x, l, c, zs, hcs, _, hl, hm, hz, _, hcell, hwz⟩
    · simp [Value.cells] at hcs
      obtain ⟨rfl, rfl, rfl⟩ := hcs
      exact ⟨[], RdB.nil _⟩
    · simp [Value.cells] at hcs
      obtain ⟨rfl, rfl, rfl⟩ := hcs
      exact RdB.of_ints (.inr ⟨_, rfl, hl, hm, by simpa using hz, hcell, hwz⟩)
  obtain ⟨a1, len1, cap1, rfl⟩ := okWide_slice Try.underlying22 (hval 1 22 v1 rfl rfl)
  have k1 := h1
  have lt1 : ∀ x ∈ p1, x.block < W.heap.size := by obtain ⟨m, hm⟩ := k1; exact DataW.trod_lt m _ _ _ hm
  obtain ⟨l1, w1⟩ : ∃ l, RdB W a1 len1 cap1 l := by
    obtain ⟨fuel, hf⟩ := h1
    rcases open_ints Try.underlying22 Try.underlying5 (by kernel_rfl) hf with ⟨hcs, _⟩ | ⟨x, l, c, zs, hcs, _, hl, hm, hz, _, hcell, hwz⟩
    · simp [Value.cells] at hcs
      obtain ⟨rfl, rfl, rfl⟩ := hcs
      exact ⟨[], RdB.nil _⟩
    · simp [Value.cells] at hcs
      obtain ⟨rfl, rfl, rfl⟩ := hcs
      exact RdB.of_ints (.inr ⟨_, rfl, hl, hm, by simpa using hz, hcell, hwz⟩)
  obtain ⟨a2, len2, cap2, rfl⟩ := okWide_slice Try.underlying22 (hval 2 22 v2 rfl rfl)
  have k2 := h2
  have lt2 : ∀ x ∈ p2, x.block < W.heap.size := by obtain ⟨m, hm⟩ := k2; exact DataW.trod_lt m _ _ _ hm
  obtain ⟨l2, w2⟩ : ∃ l, RdB W a2 len2 cap2 l := by
    obtain ⟨fuel, hf⟩ := h2
    rcases open_ints Try.underlying22 Try.underlying5 (by kernel_rfl) hf with ⟨hcs, _⟩ | ⟨x, l, c, zs, hcs, _, hl, hm, hz, _, hcell, hwz⟩
    · simp [Value.cells] at hcs
      obtain ⟨rfl, rfl, rfl⟩ := hcs
      exact ⟨[], RdB.nil _⟩
    · simp [Value.cells] at hcs
      obtain ⟨rfl, rfl, rfl⟩ := hcs
      exact RdB.of_ints (.inr ⟨_, rfl, hl, hm, by simpa using hz, hcell, hwz⟩)
  clear hA0 hval0
  refine (xBases_any W w0 w1 w2).mono fun e W' ⟨he, bel⟩ => ?_
  subst he
  exact ⟨_, rfl, _, _, _, [], _, [], hW', trodAll_mk1 (shut_bool Try.underlying4 _), (trodAll_cons_mk (Below.trod laidOut (by kernel_rfl) (of_decide_eq_true (by kernel_rfl)) k0 bel lt0) (trodAll_cons_mk (Below.trod laidOut (by kernel_rfl) (of_decide_eq_true (by kernel_rfl)) k1 bel lt1) (trodAll_cons_mk (Below.trod laidOut (by kernel_rfl) (of_decide_eq_true (by kernel_rfl)) k2 bel lt2) trodAll_mk0))), rfl, bel.frame _, fun h => by cases h⟩
theorem over : Rows.xBasesRow.holds Try.pinned (OpenSpec.ofChange Rows.xBasesSpec) :=
  OpenClaim.holds_of_wide 8 Try.f8 rfl rfl rfl rfl rfl rfl rfl ⟨rfl, rfl, rfl, rfl, rfl⟩ rfl rfl rfl rfl rfl (by kernel_rfl) Try.func8 (by kernel_rfl)
    (of_decide_eq_true (by kernel_rfl)) (by unfold Func.isWrapper; first | (rw [if_pos (by decide +kernel)]; kernel_rfl) | (rw [if_neg (by decide +kernel)]; exact ⟨rfl, rfl⟩))
    (fun os started H enc _ => lifted os started H enc)
theorem proved : Rows.XBasesSaid := over
#print axioms proved
end xBasesDone

end Go.Proofs.Ytmoggjbnlimepaa
