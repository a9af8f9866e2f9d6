/- ServerKeeps: a name's key is never changed, its version never lessened: for every input. -/
import Derived.Test.YtknlbpjcjdenbaaGreatZSKF
import Derived.Test.YtknlbpjcjdenbaaGreatRows
import Derived.ProofKit
import Derived.ShutString
import Derived.ChangeOld
namespace Go.Proofs.YtknlbpjcjdenbaaGreat
open Go Go.ChangeShapes Go.WideShapes Go.ChangeAt Go.RowKit Go.Maps
set_option linter.unusedVariables false

abbrev nmNo : ByteArray := ⟨#[]⟩
set_option maxRecDepth 100000 in
set_option maxHeartbeats 8000000 in
theorem keeps_any {a b va vb : Int} (w : World) : Calls Tryz.prog 4 #[.int .i64 a, .int .i64 b, .int .i64 va, .int .i64 vb] w fun e w' => e = .returned (.bool true) ∧ Below w.heap.size w w' := by
  obtain ⟨B0, hB0⟩ : ∃ B, B = lawB a va 0 := ⟨_, rfl⟩
  obtain ⟨B1, hB1⟩ : ∃ B, B = lawB b vb 0 := ⟨_, rfl⟩
  have st0 := fun W : World => law_step (w := W) nmNo a va 0
  have st1 := fun W : World => law_step (w := W) nmNo b vb 0
  rw [← hB0] at st0
  rw [← hB1] at st1
  have F0 : Hid (B0.onceId = 0 ∧ B0.kemId = 0 ∧ verB B0 1 = 0 ∧ B0.fine) := Lib.hid (by rw [hB0]; exact ⟨law_id _ _ _, law_kem0 _ _, verB_law _ _ _, law_fine _ _ _⟩)
  have F1 : Hid (B1.onceId = 0 ∧ B1.kemId = 0 ∧ verB B1 1 = 0 ∧ B1.fine) := Lib.hid (by rw [hB1]; exact ⟨law_id _ _ _, law_kem0 _ _, verB_law _ _ _, law_fine _ _ _⟩)
  have ST0 := Lib.hid st0
  have ST1 := Lib.hid st1
  clear hB0 hB1 st0 st1
  go_enter Tryz.func4, Tryz.ntmps4
  go_upto_region 4 with (go_at_call 9; go_must (refine (snew_any _).mono ?_; rintro r w1 ⟨rfl, hg1, hb1⟩; have HG1 := Lib.hid hg1; have HB1 := Lib.hid hb1; clear hg1 hb1))
  obtain ⟨g, hg⟩ : ∃ g, g = w.heap.size := ⟨_, rfl⟩
  obtain ⟨p, hp⟩ : ∃ p, p = w1.heap.size := ⟨_, rfl⟩
  obtain ⟨p2, hp2⟩ : ∃ p2, p2 = w1.heap.size + 1 := ⟨_, rfl⟩
  have hgp : g < p := by have := HG1.out.lt; omega
  have hgp2 : g < p2 := by have := HG1.out.lt; omega
  refine wp_gen (fun W => Blk W g [.map none] 60 ∧ Blk W p (stepC nmNo a va) 27 ∧ Blk W p2 (stepC nmNo b vb) 27 ∧ Below w.heap.size w W) ⟨?_, ?_, ?_, ?_⟩ (fun W0 ⟨hG, hP, hP2, hB⟩ => ?_)
  · rw [hg]; exact (HG1.out.alloc _).alloc _
  · rw [hp]; exact (Blk.new w1 _ _).alloc _
  · rw [hp2, show w1.heap.size + 1 = (w1.alloc (.cells (stepC nmNo a va).toArray 27)).heap.size from (by simp)]; exact Blk.new _ _ _
  · exact Below.alloc' (Below.alloc' HB1.out _) _
  rw [← hg, ← hp]
  have ep : p + 1 = p2 := by omega
  rw [ep]
  have hp0 := hP.cell 0; have hp1 := hP.cell 1; have hp2' := hP.cell 2; have hp3 := hP.cell 3; have hp4 := hP.cell 4; have hp5 := hP.cell 5
  have HG := Lib.hid hG
  have HP := Lib.hid hP
  have HP2 := Lib.hid hP2
  have HB := Lib.hid hB
  have HGP := Lib.hid hgp
  have HGP2 := Lib.hid hgp2
  have HGE := Lib.hid hg
  have HNB : Hid (nameB nmBob = true) := Lib.hid (by decide)
  have HSZ : Hid (nmBob.size ≤ 1000) := Lib.hid (by decide)
  clear hG hP hP2 hB hgp hgp2 hg hp hp2 ep HG1 HB1
  go_upto_region 6 with (first | (go_at_call 11; go_must (refine (ST0.out _).mono ?_; rintro r w2 ⟨cs, rfl, hb2, hv2⟩; have HB2 := Lib.hid hb2; have HV2 := Lib.hid hv2; clear hb2 hv2)) | (go_at_call 10; go_must (refine (srv_reg0 nmBob HSZ.out HNB.out (HG.out.below' HB2.out) HV2.out F0.out.1 F0.out.2.1 F0.out.2.2.1 F0.out.2.2.2 (Nat.not_le.2 HG.out.lt)).mono ?_; rintro r w3 ⟨rfl, T, hS3, hT3, hf3⟩; have HS3 := Lib.hid hS3; have HT3 := Lib.hid hT3; have HF3 := Lib.hid hf3; clear hS3 hT3 hf3)))
  have hP3 : Blk w3 p (stepC nmNo a va) 27 := HF3.out.blk (HP.out.below' HB2.out) (fun h => by have h : p = g := h; have := HGP.out; omega)
  have hP23 : Blk w3 p2 (stepC nmNo b vb) 27 := HF3.out.blk (HP2.out.below' HB2.out) (fun h => by have h : p2 = g := h; have := HGP2.out; omega)
  have hb3 : Below w.heap.size w w3 := (Below.call HB.out HB2.out).trans (HF3.out.below (Nat.le_trans HB.out.size HB2.out.size) (fun x hx => by have h1 : x = g := hx; have := HGE.out; omega))
  have ho3 : ∀ x, x < w.heap.size → ¬ mine T 4 x := fun x hx => HT3.out x (by have := HB.out.size; have := HB2.out.size; omega)
  have hn3 := HT3.out p (Nat.lt_of_lt_of_le HP.out.lt HB2.out.size)
  have hn23 := HT3.out p2 (Nat.lt_of_lt_of_le HP2.out.lt HB2.out.size)
  have HP3 := Lib.hid hP3
  have HP23 := Lib.hid hP23
  have hrp2 := hP23.rng
  have HB3 := Lib.hid hb3
  have HO3 := Lib.hid ho3
  have HN3 := Lib.hid hn3
  have HN23 := Lib.hid hn23
  clear hP3 hP23 hb3 ho3 hn3 hn23 hp0 hp1 hp2' hp3 hp4 hp5
  go_upto_region 7 with (first | (refine wpList_load_mid rfl 27 (.tmp 11) rfl p2 0 rfl (stepC nmNo b vb) _ hrp2 Tryz.underlying27 rfl info27 ?_) | (go_at_call 11; go_must (refine (ST1.out _).mono ?_; rintro r w4 ⟨cs4, rfl, hb4, hv4⟩; have HB4 := Lib.hid hb4; have HV4 := Lib.hid hv4; clear hb4 hv4)) | (go_at_call 10; go_must (refine (srv_again nmBob HSZ.out HNB.out (HS3.out.below HB4.out) rfl HV4.out (fun x hx => HS3.out.srv.new x hx) F1.out.1 F1.out.2.1 F1.out.2.2.1 F1.out.2.2.2).mono ?_; rintro r w5 ⟨rfl, T5, hT5, hS5, hf5⟩; have HT5 := Lib.hid hT5; have HS5 := Lib.hid hS5; have HF5 := Lib.hid hf5; clear hT5 hS5 hf5)))
  have hT4 : ∀ x, x < w4.heap.size → (mine T5 4 x ↔ mine T 4 x) := fun x hx => mine_eq (HT5.out x hx)
  have hP5 : Blk w5 p (stepC nmNo a va) 27 := HF5.out.blk (HP3.out.below' HB4.out) HN3.out
  have hP25 : Blk w5 p2 (stepC nmNo b vb) 27 := HF5.out.blk (HP23.out.below' HB4.out) HN23.out
  have hb4 : Below w.heap.size w w4 := Below.call HB3.out HB4.out
  have hb5 : Below w.heap.size w w5 := hb4.trans (HF5.out.below hb4.size fun x hx => by
    rcases Nat.lt_or_ge x w.heap.size with k | k
    · exact absurd hx (HO3.out x k)
    · exact k)
  obtain ⟨rc, hrc⟩ : ∃ rc, rc = rcode B0 B1 := ⟨_, rfl⟩
  obtain ⟨e5, he5⟩ : ∃ e, e = rent ⟨B0, [], fun _ => 0, fun _ => 0⟩ B1 := ⟨_, rfl⟩
  have hS5 := HS5.out
  rw [← he5] at hS5
  rw [← hrc]
  have HP5 := Lib.hid hP5
  have HP25 := Lib.hid hP25
  have HB5 := Lib.hid hb5
  have HS5' := Lib.hid hS5
  have HRC := Lib.hid hrc
  have HE5 := Lib.hid he5
  clear hP5 hP25 hb4 hb5 hrc he5 hS5 hT4 hrp2 HS5
  refine rgTwo [(13, 4), (0, 5), (23, 0), (0, 1), (0, 2), (0, 3)] B0 B1 (.agg (stepC nmNo a va).toArray) (.agg (stepC nmNo b vb).toArray) ?_ (fun u W7 hb7 hP7 => ?_)
  · refine ⟨?_, ?_, ?_, ?_, ?_, ?_, ?_, ?_, trivial⟩
    · refine k2P (by omega) (.one (by kernel_rfl)) rfl fun u W hb => ?_
      exact ex_load27 rfl rfl ((HP5.out.below' hb).rng)
    · refine k2C (by omega) (.one (by kernel_rfl)) fun u W hb hu K hK => ?_
      have e0 : u 0 = .agg (stepC nmNo a va).toArray := hu 0 (by kernel_rfl) (by omega)
      go_simp
      go_at_call 11
      refine (ST0.out _).mono ?_
      rintro r w6 ⟨cs6, rfl, hb6, hv6⟩
      have hk9 := hK.out _ w6 hb6 ⟨cs6, rfl, hv6.later fun x hx ha => ⟨rfl, Nat.le_trans hb.size ha⟩⟩
      first | exact hk9 | (simp only [e0] at hk9; exact hk9)
    · refine k2P (by omega) (.cons (c := 3) (by kernel_rfl) (.one (by kernel_rfl))) rfl fun u W hb => ?_
      exact ex_load27 rfl rfl ((HP25.out.below' hb).rng)
    · refine k2C (by omega) (.one (by kernel_rfl)) fun u W hb hu K hK => ?_
      have e2 : u 2 = .agg (stepC nmNo b vb).toArray := hu 2 (by kernel_rfl) (by omega)
      go_simp
      go_at_call 11
      refine (ST1.out _).mono ?_
      rintro r w6 ⟨cs6, rfl, hb6, hv6⟩
      have hk9 := hK.out _ w6 hb6 ⟨cs6, rfl, hv6.later fun x hx ha => ⟨rfl, Nat.le_trans hb.size ha⟩⟩
      first | exact hk9 | (simp only [e2] at hk9; exact hk9)
    · exact k2A (.inl rfl) (.one (by kernel_rfl)) fun u W => by kernel_rfl
    · exact k2A (.inr rfl) (.one (by kernel_rfl)) fun u W => by kernel_rfl
    · refine k2S rfl rfl (fun j hj => ?_) (by kernel_rfl) (fun u => rfl) (fun u => rfl)
      have h9 : j = 0 ∨ j = 1 ∨ j = 2 ∨ j = 3 ∨ j = 4 ∨ j = 5 := by omega
      rcases h9 with rfl | rfl | rfl | rfl | rfl | rfl
      · exact .one (by kernel_rfl)
      · exact .one (by kernel_rfl)
      · exact .cons (c := 3) (by kernel_rfl) (.one (by kernel_rfl))
      · exact .one (by kernel_rfl)
      · exact .one (by kernel_rfl)
      · exact .one (by kernel_rfl)
    · exact k2Z rfl rfl (by kernel_rfl) (fun u => rfl) (fun u => rfl)
  obtain ⟨q, q2, cs, ds, e4, e5', hne, h4, h5, hQ, hQ2, hv0, hv1⟩ := hP7
  simp only [e4, e5']
  obtain ⟨x0, x1, x2, x3, x5, x7, x8, ex, rx, _⟩ := bn_cells hv0
  obtain ⟨y0, y1, y2, y3, y5, y7, y8, ey, ry, _⟩ := bn_cells hv1
  obtain rfl : cs = [x0, x1, x2, x3, .int .i64 B0.onceId, x5, .int .i64 B0.kemId, x7, x8, .bool B0.last, .int .i64 B0.version] := congrArg Array.toList (by injection ex)
  obtain rfl : ds = [y0, y1, y2, y3, .int .i64 B1.onceId, y5, .int .i64 B1.kemId, y7, y8, .bool B1.last, .int .i64 B1.version] := congrArg Array.toList (by injection ey)
  have x00 := hQ.cell 0; have x10 := hQ.cell 10
  have y00 := hQ2.cell 0; have y10 := hQ2.cell 10
  have HS7 := Lib.hid (HS5'.out.below hb7)
  have HB7 := Lib.hid (Below.call HB5.out hb7)
  have HQ := Lib.hid hQ
  have HQ2 := Lib.hid hQ2
  have HV0 := Lib.hid hv0
  have HV1 := Lib.hid hv1
  have HNE := Lib.hid hne
  have RX := Lib.hid rx
  have RY := Lib.hid ry
  have HND := Lib.hid (bn_noB hv1)
  have HQL := Lib.hid (Nat.le_trans HB5.out.size h5)
  have HBS : Hid (∀ l m, bs l = bs m → l = m) := Lib.hid fun l m h => bs_inj h
  clear hQ hQ2 hv0 hv1 hne rx ry ex ey hb7 h4 h5 e4 e5'
  obtain ⟨l0, hl0⟩ : ∃ l, l = B0.sign := ⟨_, rfl⟩
  obtain ⟨l1, hl1⟩ : ∃ l, l = B1.sign := ⟨_, rfl⟩
  rw [← hl0] at RX
  rw [← hl1] at RY
  have HL0 := Lib.hid hl0
  have HL1 := Lib.hid hl1
  clear hl0 hl1
  by_cases hsg : l0 = l1
  · subst hsg
    obtain ⟨v0, hv0⟩ : ∃ v, v = B0.version := ⟨_, rfl⟩
    obtain ⟨v1, hv1⟩ : ∃ v, v = B1.version := ⟨_, rfl⟩
    have hxv : W7.cell? ⟨q, 10, none⟩ = some (.int .i64 v0) := by rw [hv0]; exact x10
    have hyv : W7.cell? ⟨q2, 10, none⟩ = some (.int .i64 v1) := by rw [hv1]; exact y10
    clear x10 y10
    have HV0' := Lib.hid hv0
    have HV1' := Lib.hid hv1
    have hse : B0.sign = B1.sign := by rw [← HL0.out, ← HL1.out]
    clear hv0 hv1
    by_cases hlt : v1 < v0
    · have hrc : rc = 4 := by rw [HRC.out, rcode, if_pos hse, if_pos (by rw [← HV0'.out, ← HV1'.out]; exact hlt)]
      have he : e5 = ⟨B0, [], fun _ => 0, fun _ => 0⟩ := by rw [HE5.out, rent, if_pos hse]; show (if B1.version < B0.version then _ else _) = _; rw [if_pos (by rw [← HV0'.out, ← HV1'.out]; exact hlt)]
      subst hrc he
      have hd : decide (v1 < v0) = true := decide_eq_true hlt
      clear hse
      go_upto_region 13 with (first | (refine wpList_of_ex rfl (ex_conv rfl rfl RX.out) ?_) | (refine wpList_of_ex rfl (ex_conv rfl rfl RY.out) ?_))
      clear hxv hyv
      have x10 := trivial
      have y10 := trivial
      clear x00 x10 y00 y10
      go_upto_region 14 with (first | (go_at_call 14; go_must (refine (srv_base nmBob HSZ.out HNB.out HS7.out rfl).mono ?_; rintro r w8 ⟨z6, A6, rfl, hz6, hb6⟩; obtain ⟨z0, z1, z2, z3, z5, z7, z8, rfl, _⟩ := bn_cells hz6; have hi6 : (Tryz.prog.info? 32).map (·.size) = some #[z0, z1, z2, z3, .int .i64 B0.onceId, z5, .int .i64 B0.kemId, z7, z8, .bool B0.last, .int .i64 B0.version].size := info32; have h61 := bn_one hz6; have HZ6 := Lib.hid hz6; have HB6 := Lib.hid hb6; clear hz6 hb6)) | (refine wpList_store_row rfl 32 _ _ rfl w8.heap.size _ rfl rfl 32 bn0 (Blk.new w8 _ _) hi6 rfl h61 ?_))
      obtain ⟨f, hf⟩ : ∃ f, f = w8.heap.size := ⟨_, rfl⟩
      obtain ⟨U, hU⟩ : ∃ U, U = (w8.alloc (.cells bn0 32)).setRow w8.heap.size #[z0, z1, z2, z3, .int .i64 B0.onceId, z5, .int .i64 B0.kemId, z7, z8, .bool B0.last, .int .i64 B0.version] := ⟨_, rfl⟩
      have hu : Below w8.heap.size w8 U := by rw [hU]; exact below_setRow (Below.alloc' (Below.refl _ _) _) (Nat.le_refl _) _
      have hF : Blk U f [z0, z1, z2, z3, .int .i64 B0.onceId, z5, .int .i64 B0.kemId, z7, z8, .bool B0.last, .int .i64 B0.version] 32 := by rw [hU, hf]; exact setRow_blk (Blk.new w8 _ _)
      have hfq : f ≠ q2 := by rw [hf]; have := (HQ2.out.below' HB6.out).lt; omega
      have hQU : Blk U q [x0, x1, x2, x3, .int .i64 B0.onceId, x5, .int .i64 B0.kemId, x7, x8, .bool B0.last, .int .i64 B0.version] 32 := (HQ.out.below' HB6.out).below' hu
      have hQ2U : Blk U q2 [y0, y1, y2, y3, .int .i64 B1.onceId, y5, .int .i64 B1.kemId, y7, y8, .bool B1.last, .int .i64 B1.version] 32 := (HQ2.out.below' HB6.out).below' hu
      have hbU : Below w.heap.size w U := Below.call (Below.call HB7.out HB6.out) hu
      rw [← hU, ← hf]
      have HFU := Lib.hid hF
      have HFQ := Lib.hid hfq
      have HQU := Lib.hid hQU
      have HQ2U := Lib.hid hQ2U
      have HBU := Lib.hid hbU
      have HZU := Lib.hid (HZ6.out.below hu)
      have HV0U := Lib.hid ((HV0.out.below HB6.out).below hu)
      have HV1U := Lib.hid ((HV1.out.below HB6.out).below hu)
      clear hF hfq hQU hQ2U hbU hU hf hu hi6 h61
      have hrq := HQU.out.rng
      have hq2 := HQ2U.out
      have h7 := bn_one HV0U.out
      go_upto_region 16 with (first | (refine wpList_load_mid rfl 32 (.tmp 13) rfl q 0 rfl [x0, x1, x2, x3, .int .i64 B0.onceId, x5, .int .i64 B0.kemId, x7, x8, .bool B0.last, .int .i64 B0.version] _ hrq Tryz.underlying32 rfl info32 ?_) | (refine wpList_store_row rfl 32 _ _ rfl q2 _ rfl rfl 32 ([y0, y1, y2, y3, .int .i64 B1.onceId, y5, .int .i64 B1.kemId, y7, y8, .bool B1.last, .int .i64 B1.version] : List Value).toArray hq2 info32 rfl h7 ?_))
      obtain ⟨Y, hY⟩ : ∃ Y, Y = U.setRow q2 ([x0, x1, x2, x3, .int .i64 B0.onceId, x5, .int .i64 B0.kemId, x7, x8, .bool B0.last, .int .i64 B0.version] : List Value).toArray := ⟨_, rfl⟩
      have hFY : Blk Y f [z0, z1, z2, z3, .int .i64 B0.onceId, z5, .int .i64 B0.kemId, z7, z8, .bool B0.last, .int .i64 B0.version] 32 := by rw [hY]; exact (setRow_other U q2 f _ HFQ.out).trans HFU.out
      have hQY : Blk Y q2 [x0, x1, x2, x3, .int .i64 B0.onceId, x5, .int .i64 B0.kemId, x7, x8, .bool B0.last, .int .i64 B0.version] 32 := by rw [hY]; exact setRow_blk HQ2U.out
      rw [show U.setRow q2 #[x0, x1, x2, x3, .int .i64 B0.onceId, x5, .int .i64 B0.kemId, x7, x8, .bool B0.last, .int .i64 B0.version] = Y from hY.symm]
      have f0 := hFY.cell 0
      have f1 := hFY.cell 1
      have f2 := hFY.cell 2
      have f3 := hFY.cell 3
      have f4 := hFY.cell 4
      have f5 := hFY.cell 5
      have f6 := hFY.cell 6
      have f7 := hFY.cell 7
      have f8 := hFY.cell 8
      have f9 := hFY.cell 9
      have f10 := hFY.cell 10
      have g0 := hQY.cell 0
      have g1 := hQY.cell 1
      have g2 := hQY.cell 2
      have g3 := hQY.cell 3
      have g4 := hQY.cell 4
      have g5 := hQY.cell 5
      have g6 := hQY.cell 6
      have g7 := hQY.cell 7
      have g8 := hQY.cell 8
      have g9 := hQY.cell 9
      have g10 := hQY.cell 10
      have HZY := Lib.hid ((HZU.out.off HQ2U.out HND.out).later (A' := fun _ => True) (w' := Y) fun x _ hx => ⟨by rw [hY]; exact setRow_other U q2 x _ hx.2, trivial⟩)
      have HVY := Lib.hid ((HV0U.out).later (A' := fun _ => True) (w' := Y) fun x _ hx => ⟨by rw [hY]; exact setRow_other U q2 x _ hx.2.2, trivial⟩)
      have HBY := Lib.hid (show Below w.heap.size w Y by rw [hY]; exact below_setRow HBU.out HQL.out _)
      clear hFY hQY hrq hq2 h7 hY
      go_wp2_with (first | (go_at_call 15; go_must (refine (same_call HZY.out HVY.out).mono ?_; rintro r w9 ⟨rfl, hb9⟩; have HB9 := Lib.hid hb9; clear hb9)) | (go_at_call 8; go_must (refine (awake_any _).mono ?_; rintro r wa ⟨rfl, hba⟩; have HBA := Lib.hid hba; clear hba)))
      go_ret
      exact ⟨rfl, Below.call (Below.call HBY.out HB9.out) HBA.out⟩
    · have hrc : rc = 0 := by rw [HRC.out, rcode, if_pos hse, if_neg (by rw [← HV0'.out, ← HV1'.out]; exact hlt)]
      have he : e5 = ⟨B1, [], fun _ => 0, fun _ => 0⟩ := by rw [HE5.out, rent, if_pos hse]; show (if B1.version < B0.version then _ else _) = _; rw [if_neg (by rw [← HV0'.out, ← HV1'.out]; exact hlt)]
      subst hrc he
      have hd : decide (v1 < v0) = false := decide_eq_false hlt
      clear hse
      go_upto_region 13 with (first | (refine wpList_of_ex rfl (ex_conv rfl rfl RX.out) ?_) | (refine wpList_of_ex rfl (ex_conv rfl rfl RY.out) ?_))
      clear hxv hyv
      have x10 := trivial
      have y10 := trivial
      clear x00 x10 y00 y10
      go_upto_region 14 with (first | (go_at_call 14; go_must (refine (srv_base nmBob HSZ.out HNB.out HS7.out rfl).mono ?_; rintro r w8 ⟨z6, A6, rfl, hz6, hb6⟩; obtain ⟨z0, z1, z2, z3, z5, z7, z8, rfl, _⟩ := bn_cells hz6; have hi6 : (Tryz.prog.info? 32).map (·.size) = some #[z0, z1, z2, z3, .int .i64 B1.onceId, z5, .int .i64 B1.kemId, z7, z8, .bool B1.last, .int .i64 B1.version].size := info32; have h61 := bn_one hz6; have HZ6 := Lib.hid hz6; have HB6 := Lib.hid hb6; clear hz6 hb6)) | (refine wpList_store_row rfl 32 _ _ rfl w8.heap.size _ rfl rfl 32 bn0 (Blk.new w8 _ _) hi6 rfl h61 ?_))
      obtain ⟨f, hf⟩ : ∃ f, f = w8.heap.size := ⟨_, rfl⟩
      obtain ⟨U, hU⟩ : ∃ U, U = (w8.alloc (.cells bn0 32)).setRow w8.heap.size #[z0, z1, z2, z3, .int .i64 B1.onceId, z5, .int .i64 B1.kemId, z7, z8, .bool B1.last, .int .i64 B1.version] := ⟨_, rfl⟩
      have hu : Below w8.heap.size w8 U := by rw [hU]; exact below_setRow (Below.alloc' (Below.refl _ _) _) (Nat.le_refl _) _
      have hF : Blk U f [z0, z1, z2, z3, .int .i64 B1.onceId, z5, .int .i64 B1.kemId, z7, z8, .bool B1.last, .int .i64 B1.version] 32 := by rw [hU, hf]; exact setRow_blk (Blk.new w8 _ _)
      have hfq : f ≠ q2 := by rw [hf]; have := (HQ2.out.below' HB6.out).lt; omega
      have hQU : Blk U q [x0, x1, x2, x3, .int .i64 B0.onceId, x5, .int .i64 B0.kemId, x7, x8, .bool B0.last, .int .i64 B0.version] 32 := (HQ.out.below' HB6.out).below' hu
      have hQ2U : Blk U q2 [y0, y1, y2, y3, .int .i64 B1.onceId, y5, .int .i64 B1.kemId, y7, y8, .bool B1.last, .int .i64 B1.version] 32 := (HQ2.out.below' HB6.out).below' hu
      have hbU : Below w.heap.size w U := Below.call (Below.call HB7.out HB6.out) hu
      rw [← hU, ← hf]
      have HFU := Lib.hid hF
      have HFQ := Lib.hid hfq
      have HQU := Lib.hid hQU
      have HQ2U := Lib.hid hQ2U
      have HBU := Lib.hid hbU
      have HZU := Lib.hid (HZ6.out.below hu)
      have HV0U := Lib.hid ((HV0.out.below HB6.out).below hu)
      have HV1U := Lib.hid ((HV1.out.below HB6.out).below hu)
      clear hF hfq hQU hQ2U hbU hU hf hu hi6 h61
      have hFY := HFU.out
      have hQY := HQ2U.out
      have f0 := hFY.cell 0
      have f1 := hFY.cell 1
      have f2 := hFY.cell 2
      have f3 := hFY.cell 3
      have f4 := hFY.cell 4
      have f5 := hFY.cell 5
      have f6 := hFY.cell 6
      have f7 := hFY.cell 7
      have f8 := hFY.cell 8
      have f9 := hFY.cell 9
      have f10 := hFY.cell 10
      have g0 := hQY.cell 0
      have g1 := hQY.cell 1
      have g2 := hQY.cell 2
      have g3 := hQY.cell 3
      have g4 := hQY.cell 4
      have g5 := hQY.cell 5
      have g6 := hQY.cell 6
      have g7 := hQY.cell 7
      have g8 := hQY.cell 8
      have g9 := hQY.cell 9
      have g10 := hQY.cell 10
      clear hFY hQY
      go_wp2_with (first | (go_at_call 15; go_must (refine (same_call HZU.out HV1U.out).mono ?_; rintro r w9 ⟨rfl, hb9⟩; have HB9 := Lib.hid hb9; clear hb9)) | (go_at_call 8; go_must (refine (awake_any _).mono ?_; rintro r wa ⟨rfl, hba⟩; have HBA := Lib.hid hba; clear hba)))
      go_ret
      exact ⟨rfl, Below.call (Below.call HBU.out HB9.out) HBA.out⟩
  · have hbs : ((bs l0).toList == (bs l1).toList) = false := by rw [bs_toList, bs_toList]; exact beq_eq_false_iff_ne.2 hsg
    have hrc : rc = 3 := by rw [HRC.out, rcode, if_neg (by rw [← HL0.out, ← HL1.out]; exact hsg)]
    have he : e5 = ⟨B0, [], fun _ => 0, fun _ => 0⟩ := by rw [HE5.out, rent, if_neg (by rw [← HL0.out, ← HL1.out]; exact hsg)]
    subst hrc he
    clear hsg
    go_upto_region 13 with (first | (refine wpList_of_ex rfl (ex_conv rfl rfl RX.out) ?_) | (refine wpList_of_ex rfl (ex_conv rfl rfl RY.out) ?_))
    clear x00 x10 y00 y10
    go_upto_region 14 with (first | (go_at_call 14; go_must (refine (srv_base nmBob HSZ.out HNB.out HS7.out rfl).mono ?_; rintro r w8 ⟨z6, A6, rfl, hz6, hb6⟩; obtain ⟨z0, z1, z2, z3, z5, z7, z8, rfl, _⟩ := bn_cells hz6; have hi6 : (Tryz.prog.info? 32).map (·.size) = some #[z0, z1, z2, z3, .int .i64 B0.onceId, z5, .int .i64 B0.kemId, z7, z8, .bool B0.last, .int .i64 B0.version].size := info32; have h61 := bn_one hz6; have HZ6 := Lib.hid hz6; have HB6 := Lib.hid hb6; clear hz6 hb6)) | (refine wpList_store_row rfl 32 _ _ rfl w8.heap.size _ rfl rfl 32 bn0 (Blk.new w8 _ _) hi6 rfl h61 ?_))
    obtain ⟨f, hf⟩ : ∃ f, f = w8.heap.size := ⟨_, rfl⟩
    obtain ⟨U, hU⟩ : ∃ U, U = (w8.alloc (.cells bn0 32)).setRow w8.heap.size #[z0, z1, z2, z3, .int .i64 B0.onceId, z5, .int .i64 B0.kemId, z7, z8, .bool B0.last, .int .i64 B0.version] := ⟨_, rfl⟩
    have hu : Below w8.heap.size w8 U := by rw [hU]; exact below_setRow (Below.alloc' (Below.refl _ _) _) (Nat.le_refl _) _
    have hF : Blk U f [z0, z1, z2, z3, .int .i64 B0.onceId, z5, .int .i64 B0.kemId, z7, z8, .bool B0.last, .int .i64 B0.version] 32 := by rw [hU, hf]; exact setRow_blk (Blk.new w8 _ _)
    have hfq : f ≠ q2 := by rw [hf]; have := (HQ2.out.below' HB6.out).lt; omega
    have hQU : Blk U q [x0, x1, x2, x3, .int .i64 B0.onceId, x5, .int .i64 B0.kemId, x7, x8, .bool B0.last, .int .i64 B0.version] 32 := (HQ.out.below' HB6.out).below' hu
    have hQ2U : Blk U q2 [y0, y1, y2, y3, .int .i64 B1.onceId, y5, .int .i64 B1.kemId, y7, y8, .bool B1.last, .int .i64 B1.version] 32 := (HQ2.out.below' HB6.out).below' hu
    have hbU : Below w.heap.size w U := Below.call (Below.call HB7.out HB6.out) hu
    rw [← hU, ← hf]
    have HFU := Lib.hid hF
    have HFQ := Lib.hid hfq
    have HQU := Lib.hid hQU
    have HQ2U := Lib.hid hQ2U
    have HBU := Lib.hid hbU
    have HZU := Lib.hid (HZ6.out.below hu)
    have HV0U := Lib.hid ((HV0.out.below HB6.out).below hu)
    have HV1U := Lib.hid ((HV1.out.below HB6.out).below hu)
    clear hF hfq hQU hQ2U hbU hU hf hu hi6 h61
    have hrq := HQU.out.rng
    have hq2 := HQ2U.out
    have h7 := bn_one HV0U.out
    go_upto_region 16 with (first | (refine wpList_load_mid rfl 32 (.tmp 13) rfl q 0 rfl [x0, x1, x2, x3, .int .i64 B0.onceId, x5, .int .i64 B0.kemId, x7, x8, .bool B0.last, .int .i64 B0.version] _ hrq Tryz.underlying32 rfl info32 ?_) | (refine wpList_store_row rfl 32 _ _ rfl q2 _ rfl rfl 32 ([y0, y1, y2, y3, .int .i64 B1.onceId, y5, .int .i64 B1.kemId, y7, y8, .bool B1.last, .int .i64 B1.version] : List Value).toArray hq2 info32 rfl h7 ?_))
    obtain ⟨Y, hY⟩ : ∃ Y, Y = U.setRow q2 ([x0, x1, x2, x3, .int .i64 B0.onceId, x5, .int .i64 B0.kemId, x7, x8, .bool B0.last, .int .i64 B0.version] : List Value).toArray := ⟨_, rfl⟩
    have hFY : Blk Y f [z0, z1, z2, z3, .int .i64 B0.onceId, z5, .int .i64 B0.kemId, z7, z8, .bool B0.last, .int .i64 B0.version] 32 := by rw [hY]; exact (setRow_other U q2 f _ HFQ.out).trans HFU.out
    have hQY : Blk Y q2 [x0, x1, x2, x3, .int .i64 B0.onceId, x5, .int .i64 B0.kemId, x7, x8, .bool B0.last, .int .i64 B0.version] 32 := by rw [hY]; exact setRow_blk HQ2U.out
    rw [show U.setRow q2 #[x0, x1, x2, x3, .int .i64 B0.onceId, x5, .int .i64 B0.kemId, x7, x8, .bool B0.last, .int .i64 B0.version] = Y from hY.symm]
    have f0 := hFY.cell 0
    have f1 := hFY.cell 1
    have f2 := hFY.cell 2
    have f3 := hFY.cell 3
    have f4 := hFY.cell 4
    have f5 := hFY.cell 5
    have f6 := hFY.cell 6
    have f7 := hFY.cell 7
    have f8 := hFY.cell 8
    have f9 := hFY.cell 9
    have f10 := hFY.cell 10
    have g0 := hQY.cell 0
    have g1 := hQY.cell 1
    have g2 := hQY.cell 2
    have g3 := hQY.cell 3
    have g4 := hQY.cell 4
    have g5 := hQY.cell 5
    have g6 := hQY.cell 6
    have g7 := hQY.cell 7
    have g8 := hQY.cell 8
    have g9 := hQY.cell 9
    have g10 := hQY.cell 10
    have HZY := Lib.hid ((HZU.out.off HQ2U.out HND.out).later (A' := fun _ => True) (w' := Y) fun x _ hx => ⟨by rw [hY]; exact setRow_other U q2 x _ hx.2, trivial⟩)
    have HVY := Lib.hid ((HV0U.out).later (A' := fun _ => True) (w' := Y) fun x _ hx => ⟨by rw [hY]; exact setRow_other U q2 x _ hx.2.2, trivial⟩)
    have HBY := Lib.hid (show Below w.heap.size w Y by rw [hY]; exact below_setRow HBU.out HQL.out _)
    clear hFY hQY hrq hq2 h7 hY
    go_wp2_with (first | (go_at_call 15; go_must (refine (same_call HZY.out HVY.out).mono ?_; rintro r w9 ⟨rfl, hb9⟩; have HB9 := Lib.hid hb9; clear hb9)) | (go_at_call 8; go_must (refine (awake_any _).mono ?_; rintro r wa ⟨rfl, hba⟩; have HBA := Lib.hid hba; clear hba)))
    go_ret
    exact ⟨rfl, Below.call (Below.call HBY.out HB9.out) HBA.out⟩
theorem serverKeeps_any {a b va vb : Int} (w : World) (_h1 : (Lit.int .i64 a).wf = true) (_h2 : (Lit.int .i64 b).wf = true) (_h3 : (Lit.int .i64 va).wf = true) (_h4 : (Lit.int .i64 vb).wf = true) : Calls Tryz.prog 4 #[.int .i64 a, .int .i64 b, .int .i64 va, .int .i64 vb] w fun e w' => e = .returned (.bool true) ∧ Below w.heap.size w w' := keeps_any w
namespace serverKeepsDone
theorem own : ownKnob Tryz.prog.godebug = none := by kernel_rfl
theorem laidOut : laidOutB Tryz.prog = true := by kernel_rfl
set_option maxRecDepth 100000 in
theorem lifted (os : Os) (started : os.Started) (H : Type) (enc : TypeId × Value → H) :
    ReturnsInHanded {} Tryz.checked os 4 .any (Rows.serverKeepsSpec.pre6 enc Tryz.prog Tryz.f4 Rows.serverKeepsRow.domain false) (Rows.serverKeepsSpec.post enc Tryz.prog Tryz.f4 false true false false) := by
  refine returnsInHanded_of_change (C := Tryz.checked) own started (by kernel_rfl) Tryz.func4
    (ChangeSpec.witness6 (enc := enc) (C := Tryz.checked) false ⟨#[], #[.int .i64 0, .int .i64 0, .int .i64 0, .int .i64 0], []⟩ 8 (by kernel_rfl) (by kernel_rfl) (by kernel_rfl) (by kernel_rfl)) ?_
  intro W base args ds gs before hval0 hW hcnd _
  have hval : ∀ (j : Nat) t v, Tryz.f4.params[j]? = some t → args[j]? = some v → Value.okWide Tryz.prog W .any base t v := hval0
  have hW' := hW
  obtain ⟨p, q, hA0, hV, rfl, hfz, hnd⟩ := hW
  have hA : DataW.TrodAll enc Tryz.prog W 0 (fun _ => true) true Tryz.f4.params.toList args.toList ds p := hA0
  rw [Tryz.params4] at hA hval
  obtain ⟨v0, vs0, d0, ds0, p0, q0, hargs, rfl, rfl, h0, r0⟩ := trodAll_cons hA
  obtain ⟨v1, vs1, d1, ds1, p1, q1, rfl, rfl, rfl, h1, r1⟩ := trodAll_cons r0
  obtain ⟨v2, vs2, d2, ds2, p2, q2, rfl, rfl, rfl, h2, r2⟩ := trodAll_cons r1
  obtain ⟨v3, vs3, d3, ds3, p3, q3, rfl, rfl, rfl, h3, r3⟩ := trodAll_cons r2
  obtain ⟨rfl, rfl, rfl⟩ := trodAll_nil r3
  obtain rfl : args = #[v0, v1, v2, v3] := by cases args; simp_all
  obtain ⟨rfl, rfl⟩ := trodVars_none hV
  obtain ⟨a0, rfl, rfl, rfl, w0⟩ := open_int Tryz.underlying3 (hval 0 3 v0 rfl rfl) h0
  obtain ⟨a1, rfl, rfl, rfl, w1⟩ := open_int Tryz.underlying3 (hval 1 3 v1 rfl rfl) h1
  obtain ⟨a2, rfl, rfl, rfl, w2⟩ := open_int Tryz.underlying3 (hval 2 3 v2 rfl rfl) h2
  obtain ⟨a3, rfl, rfl, rfl, w3⟩ := open_int Tryz.underlying3 (hval 3 3 v3 rfl rfl) h3
  clear hA0 hval0
  refine (serverKeeps_any W w0 w1 w2 w3).mono fun e W' ⟨he, bel⟩ => ?_
  subst he
  exact ⟨_, rfl, _, _, _, [], _, [], hW', trodAll_mk1 (shut_bool Tryz.underlying4 _), (trodAll_cons_mk (shut_int Tryz.underlying3 w0) (trodAll_cons_mk (shut_int Tryz.underlying3 w1) (trodAll_cons_mk (shut_int Tryz.underlying3 w2) (trodAll_cons_mk (shut_int Tryz.underlying3 w3) trodAll_mk0)))), rfl, bel.frame _, fun h => by cases h⟩
theorem over : Rows.serverKeepsRow.holds Tryz.pinned (OpenSpec.ofChange Rows.serverKeepsSpec) :=
  OpenClaim.holds_of_wide 4 Tryz.f4 rfl rfl rfl rfl rfl rfl rfl ⟨rfl, rfl, rfl, rfl, rfl⟩ rfl rfl rfl rfl rfl (by kernel_rfl) Tryz.func4 (by kernel_rfl)
    (of_decide_eq_true (by kernel_rfl)) (by unfold Func.isWrapper; first | (rw [if_pos (by decide +kernel)]; kernel_rfl) | (rw [if_neg (by decide +kernel)]; exact ⟨rfl, rfl⟩))
    (fun os started H enc _ => lifted os started H enc)
theorem proved : Rows.ServerKeepsSaid := over
#print axioms proved
end serverKeepsDone

end Go.Proofs.YtknlbpjcjdenbaaGreat
