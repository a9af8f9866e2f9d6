/- Of chapter 6: XClamps for 32 bytes. -/
import Derived.Test.YtmoggjbnlimepaaXpl
namespace Go.Proofs.Ytmoggjbnlimepaa
open Go Go.RowKit

theorem or8' (c d : UInt8) : bits BinOp.or IntKind.u8 (c.toNat : Int) (d.toNat : Int) = (((c ||| d).toNat : Nat) : Int) := by
  rw [u8_or_nat _ _ c.toNat_lt d.toNat_lt]; simp
/-- A new empty slice of the call's own. -/
theorem own_none (w : World) (E : TypeId) (base : Nat) (hb : base ≤ w.heap.size) : (w.alloc (.cells #[] E)).ownsRow base E 1 (.slice (some ⟨w.heap.size, 0, none⟩) 0 0) 0 [] :=
  ⟨rfl, .inr ⟨w.heap.size, 0, #[], rfl, hb, (by show (w.heap.push _)[w.heap.size]? = _; simp), by omega, by simp, rfl, rfl⟩⟩
set_option maxHeartbeats 4000000 in
theorem xClamps_32 {a : Option Addr} {capa : Nat} {la : List UInt8} {lo hi : UInt8} (w : World) (ha : RdB w a 32 capa la) :
    Calls Try.prog 7 #[.slice a 32 capa, .int .u8 (lo.toNat : Int), .int .u8 (hi.toNat : Int)] w fun e w' => e = .returned (.bool true) ∧ Below w.heap.size w w' := by
  have hl : la.length = 32 := ha.hlen
  have HT := Lib.hid (clamp_turn hl lo hi)
  have HTL : Hid ((turnB la lo hi).length = 32) := Lib.hid (by rw [turnB_len, hl])
  have HTD : Hid (turnB la lo hi = (la.set 0 ((la.getD 0 0 &&& 248) ||| (lo &&& 7))).set 31 ((la.getD 31 0 &&& 63) ||| (hi &&& 192))) := Lib.hid rfl
  have HK := Lib.hid (clamp_clamp hl)
  have HKL := Lib.hid (clampB_len la)
  obtain ⟨c0, hc0⟩ : ∃ c, c = la.getD 0 0 := ⟨_, rfl⟩
  obtain ⟨c1, hc1⟩ : ∃ c, c = la.getD 31 0 := ⟨_, rfl⟩
  rw [← hc0, ← hc1] at HTD
  have H0 := Lib.hid hc0; have H1 := Lib.hid hc1
  generalize turnB la lo hi = T at *
  have HL := Lib.hid hl
  clear hl hc0 hc1
  go_enter Try.func7, Try.ntmps7
  go_upto_region 4 with (first | (at_builtin; go_must (refine app_bytes _ rfl (.tmp 13) (.tmp 14) rfl w.heap.size _ 0 [] rfl (own_none w 5 w.heap.size (Nat.le_refl _)) _ _ _ la rfl (by exact ha.below (by repeat (first | (with_reducible refine Below.alloc' ?_ _) | (with_reducible refine Below.drew ?_) | (with_reducible refine below_drewN ?_ _) | ((with_reducible refine Below.setCell ?_ ?_ _); rotate_left; (focus (first | exact Nat.le_refl _ | (simp; done) | (simp; omega)))) | (with_reducible assumption) | (with_reducible exact Below.refl _ _)))) (by omega) (by simp) w (by exact (by repeat (first | (with_reducible refine Below.alloc' ?_ _) | (with_reducible refine Below.drew ?_) | (with_reducible refine below_drewN ?_ _) | ((with_reducible refine Below.setCell ?_ ?_ _); rotate_left; (focus (first | exact Nat.le_refl _ | (simp; done) | (simp; omega)))) | (with_reducible assumption) | (with_reducible exact Below.refl _ _)))) ?_; intro v1 w1 hown hb1)))
  obtain ⟨gc, cc, rc, rfl, hgc, hC, _, hcc, hmc⟩ := own_rdb (n := 32) (l := la) hown (by omega)
  have k0 : w1.cell? ⟨gc, 0, none⟩ = some (.int .u8 (c0.toNat : Int)) := by
    rw [hC.cell, List.getElem?_append_left (by simp [HL.out]), H0.out]
    simp [bV, List.getElem?_eq_getElem (show 0 < la.length by have := HL.out; omega)]
  have k1 : w1.cell? ⟨gc, 31, none⟩ = some (.int .u8 (c1.toNat : Int)) := by
    rw [hC.cell, List.getElem?_append_left (by simp [HL.out]), H1.out]
    simp [bV, List.getElem?_eq_getElem (show 31 < la.length by have := HL.out; omega)]
  have kf := hC.frozen
  obtain ⟨d0, hd0⟩ : ∃ d, d = c0 &&& 248 := ⟨_, rfl⟩
  obtain ⟨d1, hd1⟩ : ∃ d, d = lo &&& 7 := ⟨_, rfl⟩
  obtain ⟨d2, hd2⟩ : ∃ d, d = d0 ||| d1 := ⟨_, rfl⟩
  obtain ⟨f0, hf0⟩ : ∃ d, d = c1 &&& 63 := ⟨_, rfl⟩
  obtain ⟨f1, hf1⟩ : ∃ d, d = hi &&& 192 := ⟨_, rfl⟩
  obtain ⟨f2, hf2⟩ : ∃ d, d = f0 ||| f1 := ⟨_, rfl⟩
  rw [← hd0, ← hd1, ← hf0, ← hf1, ← hd2, ← hf2] at HTD
  have e0 : bits BinOp.and IntKind.u8 (c0.toNat : Int) 248 = (d0.toNat : Int) := by rw [hd0]; exact and8 c0 248
  have e1 : bits BinOp.and IntKind.u8 (lo.toNat : Int) 7 = (d1.toNat : Int) := by rw [hd1]; exact and8 lo 7
  have e2 : bits BinOp.or IntKind.u8 (d0.toNat : Int) (d1.toNat : Int) = (d2.toNat : Int) := by rw [hd2]; exact or8' d0 d1
  have e3 : bits BinOp.and IntKind.u8 (c1.toNat : Int) 63 = (f0.toNat : Int) := by rw [hf0]; exact and8 c1 63
  have e4 : bits BinOp.and IntKind.u8 (hi.toNat : Int) 192 = (f1.toNat : Int) := by rw [hf1]; exact and8 hi 192
  have e5 : bits BinOp.or IntKind.u8 (f0.toNat : Int) (f1.toNat : Int) = (f2.toNat : Int) := by rw [hf2]; exact or8' f0 f1
  have HC := Lib.hid hC
  clear hC hown hd0 hd1 hd2 hf0 hf1 hf2
  go_upto_region 6 with fail
  have hC2 := (HC.out.set 0 (.int .u8 (d2.toNat : Int))).set 31 (.int .u8 (f2.toNat : Int))
  have hC3 : Blk ((w1.setCell ⟨gc, 0, none⟩ (.int .u8 (d2.toNat : Int))).setCell ⟨gc, 31, none⟩ (.int .u8 (f2.toNat : Int))) gc (T.map bV ++ rc) 5 := by
    have e : ((la.map bV ++ rc).set 0 (.int .u8 (d2.toNat : Int))).set 31 (.int .u8 (f2.toNat : Int)) = T.map bV ++ rc := by
      rw [HTD.out, List.map_set, List.map_set]
      rw [List.set_append_left _ _ (by simp [HL.out]), List.set_append_left _ _ (by simp [HL.out])]
      rfl
    rw [e] at hC2; exact hC2
  have hbel2 : Below w.heap.size w ((w1.setCell ⟨gc, 0, none⟩ (.int .u8 (d2.toNat : Int))).setCell ⟨gc, 31, none⟩ (.int .u8 (f2.toNat : Int))) := (hb1.setCell (by simp; omega) _).setCell (by simp; omega) _
  have HC3 := Lib.hid hC3
  clear hC2 hC3 HC k0 k1 kf
  generalize (w1.setCell ⟨gc, 0, none⟩ (.int .u8 (d2.toNat : Int))).setCell ⟨gc, 31, none⟩ (.int .u8 (f2.toNat : Int)) = w2 at *
  go_upto_region 7 with (go_at_call 14; (refine (clampB' (ha.below hbel2)).mono ?_; rintro e w3 ⟨g3, n3, c3, r3, rfl, hg3, hB3, hl3, hc3, hm3, hb3⟩; (rw [HKL.out] at hl3); subst hl3; have hbel := Below.call hbel2 hb3; have HB3 := Lib.hid hB3; have HC4 := Lib.hid (HC3.out.below' hb3); clear hb3 hB3 hbel2))
  have hbel0 := hbel
  refine wp_region_mid (fun u => (Value.slice a 32 capa :: Value.int IntKind.u8 ↑lo.toNat :: Value.int IntKind.u8 ↑hi.toNat :: undef :: undef :: undef :: u 26 :: Value.slice (some { block := gc, off := 0 }) 32 cc :: Value.slice (some { block := g3, off := 0 }) 32 c3 :: Value.slice a 32 capa :: Value.int IntKind.i64 32 :: Value.bool false :: undef :: Value.slice (some { block := w.heap.size, off := 0 }) 0 0 :: Value.slice a 32 capa :: Value.slice (some { block := gc, off := 0 }) 32 cc :: Value.slice (some { block := gc, off := 0 }) 32 cc :: Value.slice (some { block := gc, off := 0 }) 32 cc :: Value.pointer (some { block := gc, off := 0 }) :: Value.int IntKind.u8 ↑c0.toNat :: Value.int IntKind.u8 ↑d0.toNat :: Value.int IntKind.u8 ↑lo.toNat :: Value.int IntKind.u8 ↑d1.toNat :: Value.int IntKind.u8 ↑d2.toNat :: Value.pointer (some { block := gc, off := 0 }) :: Value.slice (some { block := gc, off := 0 }) 32 cc :: Value.slice (some { block := gc, off := 0 }) 32 cc :: Value.pointer (some { block := gc, off := 31 }) :: Value.int IntKind.u8 ↑c1.toNat :: Value.int IntKind.u8 ↑f0.toNat :: Value.int IntKind.u8 ↑hi.toNat :: Value.int IntKind.u8 ↑f1.toNat :: Value.int IntKind.u8 ↑f2.toNat :: Value.pointer (some { block := gc, off := 31 }) :: Value.slice a 32 capa :: Value.slice (some { block := g3, off := 0 }) 32 c3 :: u 0 :: u 1 :: u 2 :: u 3 :: u 4 :: u 5 :: u 6 :: u 7 :: u 8 :: u 9 :: u 10 :: u 11 :: u 12 :: u 13 :: u 14 :: u 15 :: u 16 :: u 17 :: u 18 :: u 19 :: u 20 :: u 21 :: u 22 :: u 23 :: u 24 :: u 25 :: []).toArray) (Holds [.oth (fun v => v = .slice a 32 capa), .rd (xB la [9]), .oth (fun v => v = (.string (bs (xB la [9])))), .oth (fun v => v = .slice (some ⟨gc, 0, none⟩) 32 cc), .rd (xB T [9]), .oth (fun v => v = (.string (bs (xB T [9])))), .oth (fun v => v = .bool true), .oth (fun v => v = .bool true), .oth (fun v => v = .slice (some ⟨g3, 0, none⟩) 32 c3), .rd (clampB (clampB la)), .oth (fun v => v = (.string (bs (clampB (clampB la))))), .oth (fun v => v = .slice (some ⟨g3, 0, none⟩) 32 c3), .oth (fun v => v = (.string (bs (clampB la)))), .oth (fun v => v = .bool true), .oth (fun v => v = .bool true), .oth (fun v => v = .bool true), .oth (fun v => v = .slice (some ⟨gc, 0, none⟩) 32 cc), .rd (clampB T), .oth (fun v => v = (.string (bs (clampB T)))), .oth (fun v => v = .slice (some ⟨g3, 0, none⟩) 32 c3), .oth (fun v => v = (.string (bs (clampB la)))), .oth (fun v => v = .bool true), .oth (fun v => v = .bool true), .oth (fun v => v = .bool true), .oth (fun v => v = .bool true), .oth (fun v => v = .bool true), .oth (fun v => v = .bool true)] w3) (Keep [.oth (fun v => v = .slice a 32 capa), .rd (xB la [9]), .oth (fun v => v = (.string (bs (xB la [9])))), .oth (fun v => v = .slice (some ⟨gc, 0, none⟩) 32 cc), .rd (xB T [9]), .oth (fun v => v = (.string (bs (xB T [9])))), .oth (fun v => v = .bool true), .oth (fun v => v = .bool true), .oth (fun v => v = .slice (some ⟨g3, 0, none⟩) 32 c3), .rd (clampB (clampB la)), .oth (fun v => v = (.string (bs (clampB (clampB la))))), .oth (fun v => v = .slice (some ⟨g3, 0, none⟩) 32 c3), .oth (fun v => v = (.string (bs (clampB la)))), .oth (fun v => v = .bool true), .oth (fun v => v = .bool true), .oth (fun v => v = .bool true), .oth (fun v => v = .slice (some ⟨gc, 0, none⟩) 32 cc), .rd (clampB T), .oth (fun v => v = (.string (bs (clampB T)))), .oth (fun v => v = .slice (some ⟨g3, 0, none⟩) 32 c3), .oth (fun v => v = (.string (bs (clampB la)))), .oth (fun v => v = .bool true), .oth (fun v => v = .bool true), .oth (fun v => v = .bool true), .oth (fun v => v = .bool true), .oth (fun v => v = .bool true), .oth (fun v => v = .bool true)] w3) (fun k => ([undef, undef, undef, undef, undef, undef, undef, undef, undef, undef, undef, undef, undef, undef, undef, undef, undef, undef, undef, undef, undef, undef, undef, undef, undef, undef, Value.bool false] : List Value).getD k undef) (by kernel_rfl) (by kernel_rfl) ?_ (by rfl) Keep.drew (holds_soft (by kernel_rfl)) ?_ ?_
  · intro u i v h
    rcases i with _ | _ | _ | _ | _ | _ | _ | _ | _ | _ | _ | _ | _ | _ | _ | _ | _ | _ | _ | _ | _ | _ | _ | _ | _ | _ | _ | i
    all_goals first | (simp [Act.put, putV]; done) | (exfalso; simp at h; omega)
  · intro hs
    refine ⟨?_, ?_, ?_, ?_, ?_, ?_, ?_, ?_, ?_, ?_, ?_, ?_, ?_, ?_, ?_, ?_, ?_, ?_, ?_, ?_, ?_, ?_, ?_, ?_, ?_, ?_, ?_, trivial⟩
    · exact step_pureO hs (wants_none rfl) rfl fun L u W hG hdep => ⟨_, run_move rfl, rfl⟩
    · refine step_callB hs (wants_none rfl) rfl fun L u W hJ hG hdep K hK => ?_
      have x0 := (show u 0 = .slice a 32 capa from hG 0 (hdep 0 (by kernel_rfl)))
      have hRB0 := (ha.below hbel).below (hJ.all rfl)
      go_simp
      go_at_call 17
      (with_reducible refine (baseB hRB0).mono ?_); rintro e w1 ⟨g, n, cap, r, rfl, h1, h2, h3, h4, h5, hb⟩
      have hk := hK.out _ _ _ _ _ h1 h2 h3 h4 h5 hb
      simp only [x0] at hk
      exact hk
    · exact step_conv 1 hs (wants_none rfl) rfl rfl rfl (by kernel_rfl) (fun _ => rfl)
    · exact step_pureO hs (wants_none rfl) rfl fun L u W hG hdep => ⟨_, run_move rfl, rfl⟩
    · refine step_callB hs (wants_none rfl) rfl fun L u W hJ hG hdep K hK => ?_
      have x0 := (show u 3 = .slice (some ⟨gc, 0, none⟩) 32 cc from hG 3 (hdep 3 (by kernel_rfl)))
      have hRB0 := (RdB.blk rc HC4.out HTL.out hcc hmc).below (hJ.all rfl)
      go_simp
      go_at_call 17
      (with_reducible refine (baseB hRB0).mono ?_); rintro e w1 ⟨g, n, cap, r, rfl, h1, h2, h3, h4, h5, hb⟩
      have hk := hK.out _ _ _ _ _ h1 h2 h3 h4 h5 hb
      simp only [x0] at hk
      exact hk
    · exact step_conv 4 hs (wants_none rfl) rfl rfl rfl (by kernel_rfl) (fun _ => rfl)
    · exact step_pureO hs (wants_none rfl) rfl fun L u W hG hdep => ⟨_, run_eqlS rfl (show u 2 = (.string (bs (xB la [9]))) from hG 2 (hdep 2 (by kernel_rfl))) (show u 5 = (.string (bs (xB T [9]))) from hG 5 (hdep 5 (by kernel_rfl))), by rw [decide_eq_true (show xB la [9] = xB T [9] from xB_clamp HT.out.symm)]⟩
    · exact step_pureO hs (wants_none rfl) rfl fun L u W hG hdep => ⟨_, run_move rfl, (show u 6 = .bool true from hG 6 (hdep 6 (by kernel_rfl)))⟩
    · exact step_pureO hs (wants_on 7 rfl rfl (by kernel_rfl) (fun _ => rfl)) rfl fun L u W hG hdep => ⟨_, run_move rfl, rfl⟩
    · refine step_callB hs (wants_on 7 rfl rfl (by kernel_rfl) (fun _ => rfl)) rfl fun L u W hJ hG hdep K hK => ?_
      have x0 := (show u 8 = .slice (some ⟨g3, 0, none⟩) 32 c3 from hG 8 (hdep 8 (by kernel_rfl)))
      have hRB0 := (RdB.blk r3 HB3.out HKL.out hc3 hm3).below (hJ.all rfl)
      go_simp
      go_at_call 14
      (with_reducible refine (clampB' hRB0).mono ?_); rintro e w1 ⟨g, n, cap, r, rfl, h1, h2, h3, h4, h5, hb⟩
      have hk := hK.out _ _ _ _ _ h1 h2 h3 h4 h5 hb
      simp only [x0] at hk
      exact hk
    · exact step_conv 9 hs (wants_on 7 rfl rfl (by kernel_rfl) (fun _ => rfl)) rfl rfl rfl (by kernel_rfl) (fun _ => rfl)
    · exact step_pureO hs (wants_on 7 rfl rfl (by kernel_rfl) (fun _ => rfl)) rfl fun L u W hG hdep => ⟨_, run_move rfl, rfl⟩
    · exact step_convC hs (wants_on 7 rfl rfl (by kernel_rfl) (fun _ => rfl)) rfl rfl (RdB.blk r3 HB3.out HKL.out hc3 hm3) (by kernel_rfl) (fun L u W hG hdep => (show u 11 = .slice (some ⟨g3, 0, none⟩) 32 c3 from hG 11 (hdep 11 (by kernel_rfl))))
    · exact step_pureO hs (wants_on 7 rfl rfl (by kernel_rfl) (fun _ => rfl)) rfl fun L u W hG hdep => ⟨_, run_eqlS rfl (show u 10 = (.string (bs (clampB (clampB la)))) from hG 10 (hdep 10 (by kernel_rfl))) (show u 12 = (.string (bs (clampB la))) from hG 12 (hdep 12 (by kernel_rfl))), by rw [decide_eq_true (show clampB (clampB la) = clampB la from HK.out)]⟩
    · exact step_pick true hs (wants_none rfl) rfl rfl (fun L u W hG hdep => (show u 7 = .bool true from hG 7 (hdep 7 (by kernel_rfl)))) (fun L u W hG hdep => (show u 13 = .bool true from hG 13 (hdep 13 (by kernel_rfl))))
    · exact step_pureO hs (wants_none rfl) rfl fun L u W hG hdep => ⟨_, run_move rfl, (show u 14 = .bool true from hG 14 (hdep 14 (by kernel_rfl)))⟩
    · exact step_pureO hs (wants_on 15 rfl rfl (by kernel_rfl) (fun _ => rfl)) rfl fun L u W hG hdep => ⟨_, run_move rfl, rfl⟩
    · refine step_callB hs (wants_on 15 rfl rfl (by kernel_rfl) (fun _ => rfl)) rfl fun L u W hJ hG hdep K hK => ?_
      have x0 := (show u 16 = .slice (some ⟨gc, 0, none⟩) 32 cc from hG 16 (hdep 16 (by kernel_rfl)))
      have hRB0 := (RdB.blk rc HC4.out HTL.out hcc hmc).below (hJ.all rfl)
      go_simp
      go_at_call 14
      (with_reducible refine (clampB' hRB0).mono ?_); rintro e w1 ⟨g, n, cap, r, rfl, h1, h2, h3, h4, h5, hb⟩
      have hk := hK.out _ _ _ _ _ h1 h2 h3 h4 h5 hb
      simp only [x0] at hk
      exact hk
    · exact step_conv 17 hs (wants_on 15 rfl rfl (by kernel_rfl) (fun _ => rfl)) rfl rfl rfl (by kernel_rfl) (fun _ => rfl)
    · exact step_pureO hs (wants_on 15 rfl rfl (by kernel_rfl) (fun _ => rfl)) rfl fun L u W hG hdep => ⟨_, run_move rfl, rfl⟩
    · exact step_convC hs (wants_on 15 rfl rfl (by kernel_rfl) (fun _ => rfl)) rfl rfl (RdB.blk r3 HB3.out HKL.out hc3 hm3) (by kernel_rfl) (fun L u W hG hdep => (show u 19 = .slice (some ⟨g3, 0, none⟩) 32 c3 from hG 19 (hdep 19 (by kernel_rfl))))
    · exact step_pureO hs (wants_on 15 rfl rfl (by kernel_rfl) (fun _ => rfl)) rfl fun L u W hG hdep => ⟨_, run_eqlS rfl (show u 18 = (.string (bs (clampB T))) from hG 18 (hdep 18 (by kernel_rfl))) (show u 20 = (.string (bs (clampB la))) from hG 20 (hdep 20 (by kernel_rfl))), by rw [decide_eq_true (show clampB T = clampB la from HT.out)]⟩
    · exact step_pick true hs (wants_none rfl) rfl rfl (fun L u W hG hdep => (show u 15 = .bool true from hG 15 (hdep 15 (by kernel_rfl)))) (fun L u W hG hdep => (show u 21 = .bool true from hG 21 (hdep 21 (by kernel_rfl))))
    · exact step_pureO hs (wants_none rfl) rfl fun L u W hG hdep => ⟨_, run_move rfl, (show u 22 = .bool true from hG 22 (hdep 22 (by kernel_rfl)))⟩
    · refine step_callO hs (wants_on 23 rfl rfl (by kernel_rfl) (fun _ => rfl)) rfl fun L u W hJ hG hdep K hK => ?_
      go_simp
      go_at_call 9
      (with_reducible refine (law6awake_any _).mono ?_); rintro e w1 ⟨rfl, hb⟩
      have hk := hK.out _ _ rfl hb
      exact hk
    · exact step_pick true hs (wants_none rfl) rfl rfl (fun L u W hG hdep => (show u 23 = .bool true from hG 23 (hdep 23 (by kernel_rfl)))) (fun L u W hG hdep => (show u 24 = .bool true from hG 24 (hdep 24 (by kernel_rfl))))
    · exact step_pureO hs (wants_none rfl) rfl fun L u W hG hdep => ⟨_, run_assign rfl, (show u 25 = .bool true from hG 25 (hdep 25 (by kernel_rfl)))⟩
  intro L7 u7 W7 hall hJ hG
  have hb := hJ.all rfl
  have hbel := Below.call hbel hb
  have HC42 := Lib.hid (show u7 6 = .bool true from hG 6 (by simp))
  have HC43 := Lib.hid (show u7 7 = .bool true from hG 7 (by simp))
  have HC49 := Lib.hid (show u7 13 = .bool true from hG 13 (by simp))
  have HC50 := Lib.hid (show u7 14 = .bool true from hG 14 (by simp))
  have HC51 := Lib.hid (show u7 15 = .bool true from hG 15 (by simp))
  have HC57 := Lib.hid (show u7 21 = .bool true from hG 21 (by simp))
  have HC58 := Lib.hid (show u7 22 = .bool true from hG 22 (by simp))
  have HC59 := Lib.hid (show u7 23 = .bool true from hG 23 (by simp))
  have HC60 := Lib.hid (show u7 24 = .bool true from hG 24 (by simp))
  have HC61 := Lib.hid (show u7 25 = .bool true from hG 25 (by simp))
  have HC6 := Lib.hid (show u7 26 = .bool true from hG 26 (by simp))
  have hbel0 := hbel
  clear hJ hG hall hb
  rw [HC6.out]
  go_wp2
  go_ret
  exact ⟨rfl, hbel⟩
end Go.Proofs.Ytmoggjbnlimepaa
