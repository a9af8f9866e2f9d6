/- ServerOnce: a one-time bundle is fetched once, in the order in which they came; behind them the base, for ever; what was there once is taken no more. For every input. -/
import Derived.Test.YtknlbpjcjdenbaaGreatZSOF
import Derived.Test.YtknlbpjcjdenbaaGreatRows
import Derived.ProofKit
import Derived.ShutString
import Derived.ChangeOld
namespace Go.Proofs.YtknlbpjcjdenbaaGreat
open Go Go.ChangeShapes Go.WideShapes Go.ChangeAt Go.RowKit Go.Maps
set_option linter.unusedVariables false

set_option maxRecDepth 100000 in
theorem once_big {n v f : Int} (w : World) (h : f < 0 ∨ 8 < f) : Calls Tryz.prog 3 #[.int .i64 n, .int .i64 v, .int .i64 f] w fun e w' => e = .returned (.bool true) ∧ Below w.heap.size w w' := by
  by_cases h1 : f < 0
  · have d1 : decide (f < 0) = true := decide_eq_true h1
    clear h
    go_enter Tryz.func3, Tryz.ntmps3
    go_wp2_with (go_at_call 8; go_must (refine (awake_any _).mono ?_; rintro r w1 ⟨rfl, hb⟩))
    go_ret
    exact ⟨rfl, hb⟩
  · have d1 : decide (f < 0) = false := decide_eq_false h1
    have h2 : 8 < f := by omega
    have d2 : decide (8 < f) = true := decide_eq_true h2
    clear h
    go_enter Tryz.func3, Tryz.ntmps3
    go_wp2_with (go_at_call 8; go_must (refine (awake_any _).mono ?_; rintro r w1 ⟨rfl, hb⟩))
    go_ret
    exact ⟨rfl, hb⟩
set_option maxRecDepth 100000 in
set_option maxHeartbeats 8000000 in
theorem once_main {n v : Int} {F : Nat} (w : World) (hF : F ≤ 8) : Calls Tryz.prog 3 #[.int .i64 n, .int .i64 v, .int .i64 (F : Int)] w fun e w' => e = .returned (.bool true) ∧ Below w.heap.size w w' := by
  have d1 : decide ((F : Int) < 0) = false := decide_eq_false (by omega)
  have d2 : decide (8 < (F : Int)) = false := decide_eq_false (by omega)
  have hF1 : ¬ (F : Int) < 0 := by omega
  have hF2 : ¬ 8 < (F : Int) := by omega
  go_enter Tryz.func3, Tryz.ntmps3
  go_upto_region 5 with (go_at_call 9; go_must (refine (snew_any _).mono ?_; rintro r w1 ⟨rfl, hg1, hb1⟩; have HG1 := Lib.hid hg1; have HB1 := Lib.hid hb1; clear hg1 hb1))
  obtain ⟨g, hg⟩ : ∃ g, g = w.heap.size := ⟨_, rfl⟩
  obtain ⟨p, hp⟩ : ∃ p, p = w1.heap.size := ⟨_, rfl⟩
  have hgp : g < p := by have := HG1.out.lt; omega
  refine wp_gen (fun W => Blk W g [.map none] 60 ∧ Blk W p (stepC nmBob n v) 27 ∧ Below w.heap.size w W) ⟨?_, ?_, ?_⟩ (fun W0 ⟨hG, hP, hB⟩ => ?_)
  · rw [hg]; exact HG1.out.alloc _
  · rw [hp]; exact Blk.new w1 _ _
  · exact Below.alloc' HB1.out _
  rw [← hg, ← hp]
  have hp0 := hP.cell 0; have hp1 := hP.cell 1; have hp2 := hP.cell 2; have hp3 := hP.cell 3; have hp4 := hP.cell 4; have hp5 := hP.cell 5
  have HG := Lib.hid hG
  have HP := Lib.hid hP
  have HB := Lib.hid hB
  have HGP := Lib.hid hgp
  have HGE := Lib.hid hg
  have HNB : Hid (nameB nmBob = true) := Lib.hid (by decide)
  have HSZ : Hid (nmBob.size ≤ 1000) := Lib.hid (by decide)
  have HFF := Lib.hid hF
  clear hG hP hB hgp hg hp HG1 HB1 hF
  go_upto_region 7 with (first | (go_at_call 11; go_must (refine (law_step nmBob n v 0).mono ?_; rintro r w2 ⟨cs, rfl, hb2, hv2⟩; have HB2 := Lib.hid hb2; have HV2 := Lib.hid hv2; clear hb2 hv2)) | (go_at_call 10; go_must (refine (srv_reg nmBob HSZ.out HNB.out (HG.out.below' HB2.out) HV2.out (law_id _ _ _) (law_kem0 _ _) (verB_law _ _ _) (law_fine _ _ _) (Nat.not_le.2 HG.out.lt)).mono ?_; rintro r w3 ⟨rfl, T, hS3, hT3, hf3⟩; have HS3 := Lib.hid hS3; have HT3 := Lib.hid hT3; have HF3 := Lib.hid hf3; clear hS3 hT3 hf3)))
  have HL3 : Hid (Lw w w3 g p nmBob n v T 1 (e0 n v)) := Lib.hid ⟨HS3.out, HF3.out.blk (HP.out.below' HB2.out) (fun h => by have h : p = g := h; have := HGP.out; omega), HT3.out p (Nat.lt_of_lt_of_le HP.out.lt HB2.out.size), (Below.call HB.out HB2.out).trans (HF3.out.below (Nat.le_trans HB.out.size HB2.out.size) (fun x hx => by have h1 : x = g := hx; have := HGE.out; omega)), fun x hx => HT3.out x (by have := HB.out.size; have := HB2.out.size; omega)⟩
  clear hp0 hp1 hp2 hp3 hp4 hp5
  refine rgN 16 10 [(9, 14), (0, 15), (27, 11), (0, 0), (0, 1), (0, 2), (0, 3), (0, 4), (0, 5), (0, 6), (0, 7), (0, 8), (0, 9), (0, 10), (0, 12), (0, 13)] [knw (.pointer (some ⟨g, 0, none⟩)), knw (.agg (stepC nmBob n v).toArray), (wB w3.heap.size (lawB n v 2)), knw (.agg (stepC nmBob n v).toArray), (wB w3.heap.size (lawB n v 1)), knw (.agg (stepC nmBob n v).toArray), (wB w3.heap.size (lawB n v 2)), knw (.agg (stepC nmBob n v).toArray), (wB w3.heap.size (lawB n v 3)), (wS w3.heap.size [lawB n v 2, lawB n v 1, lawB n v 2, lawB n v 3]), knw (.tuple #[.int .i64 3, .int .i64 0]), knw (.tuple #[.int .i64 3, .int .i64 0]), knw (.int .i64 3), knw (.int .i64 0), knw (.int .i64 3), knw (.int .i64 0)] (fun W => ∃ T', Lw w W g p nmBob n v T' 5 (e3 n v)) ?_ (fun u6 W6 hPd hv => ?_) (by decide)
  · refine ⟨?_, ?_, ?_, ?_, ?_, ?_, ?_, ?_, ?_, ?_, ?_, ?_, ?_, ?_, ?_, ?_, trivial⟩
    · refine knP (.one (by kernel_rfl)) (by rfl) fun u W hb hu => ?_
      go_simp
    · refine knP (.cons (c := 9) (by kernel_rfl) (.cons (c := 2) (by kernel_rfl) (.one (by kernel_rfl)))) (by rfl) fun u W hb hu => ?_
      exact ex_load27 rfl rfl ((HL3.out.stp.below' hb).rng)
    · refine knC (.cons (c := 9) (by kernel_rfl) (.one (by kernel_rfl))) fun u W hb hu K hK => ?_
      have e1 : u 1 = .agg (stepC nmBob n v).toArray := hu 1 (by kernel_rfl)
      go_simp
      go_at_call 11
      refine (law_step nmBob n v 2).mono ?_
      rintro r w6 ⟨cs6, rfl, hb6, hv6⟩
      have hk9 := hK.out _ w6 hb6 ⟨cs6, rfl, hv6.later fun x hx ha => ⟨rfl, Nat.le_trans hb.size ha⟩⟩
      first | exact hk9 | (simp only [e1] at hk9; exact hk9)
    · refine knP (.cons (c := 9) (by kernel_rfl) (.cons (c := 4) (by kernel_rfl) (.one (by kernel_rfl)))) (by rfl) fun u W hb hu => ?_
      exact ex_load27 rfl rfl ((HL3.out.stp.below' hb).rng)
    · refine knC (.cons (c := 9) (by kernel_rfl) (.one (by kernel_rfl))) fun u W hb hu K hK => ?_
      have t2 : (wB w3.heap.size (lawB n v 2)).P (u 2) W := hu 2 (by kernel_rfl)
      have e3 : u 3 = .agg (stepC nmBob n v).toArray := hu 3 (by kernel_rfl)
      go_simp
      go_at_call 11
      refine (law_step nmBob n v 1).mono ?_
      rintro r w6 ⟨cs6, rfl, hb6, hv6⟩
      have hk9 := hK.out _ w6 hb6 ⟨cs6, rfl, hv6.later fun x hx ha => ⟨rfl, Nat.le_trans hb.size ha⟩⟩
      first | exact hk9 | (simp only [e3] at hk9; exact hk9)
    · refine knP (.cons (c := 8) (by kernel_rfl) (.cons (c := 6) (by kernel_rfl) (.one (by kernel_rfl)))) (by rfl) fun u W hb hu => ?_
      exact ex_load27 rfl rfl ((HL3.out.stp.below' hb).rng)
    · refine knC (.cons (c := 8) (by kernel_rfl) (.one (by kernel_rfl))) fun u W hb hu K hK => ?_
      have t4 : (wB w3.heap.size (lawB n v 1)).P (u 4) W := hu 4 (by kernel_rfl)
      have e5 : u 5 = .agg (stepC nmBob n v).toArray := hu 5 (by kernel_rfl)
      go_simp
      go_at_call 11
      refine (law_step nmBob n v 2).mono ?_
      rintro r w6 ⟨cs6, rfl, hb6, hv6⟩
      have hk9 := hK.out _ w6 hb6 ⟨cs6, rfl, hv6.later fun x hx ha => ⟨rfl, Nat.le_trans hb.size ha⟩⟩
      first | exact hk9 | (simp only [e5] at hk9; exact hk9)
    · refine knP (.cons (c := 8) (by kernel_rfl) (.one (by kernel_rfl))) (by rfl) fun u W hb hu => ?_
      exact ex_load27 rfl rfl ((HL3.out.stp.below' hb).rng)
    · refine knC (.one (by kernel_rfl)) fun u W hb hu K hK => ?_
      have t6 : (wB w3.heap.size (lawB n v 2)).P (u 6) W := hu 6 (by kernel_rfl)
      have e7 : u 7 = .agg (stepC nmBob n v).toArray := hu 7 (by kernel_rfl)
      go_simp
      go_at_call 11
      refine (law_step nmBob n v 3).mono ?_
      rintro r w6 ⟨cs6, rfl, hb6, hv6⟩
      have hk9 := hK.out _ w6 hb6 ⟨cs6, rfl, hv6.later fun x hx ha => ⟨rfl, Nat.le_trans hb.size ha⟩⟩
      first | exact hk9 | (simp only [e7] at hk9; exact hk9)
    · refine knM (.one (by kernel_rfl)) (fun u W hb hu => ?_)
      obtain ⟨c0, e0, h0⟩ : ∃ cs : List Value, u 2 = .agg cs.toArray ∧ BnV (fun x => w3.heap.size ≤ x) W (lawB n v 2) (.agg cs.toArray) := hu 2 (by kernel_rfl)
      obtain ⟨c1, e1, h1⟩ : ∃ cs : List Value, u 4 = .agg cs.toArray ∧ BnV (fun x => w3.heap.size ≤ x) W (lawB n v 1) (.agg cs.toArray) := hu 4 (by kernel_rfl)
      obtain ⟨c2, e2, h2⟩ : ∃ cs : List Value, u 6 = .agg cs.toArray ∧ BnV (fun x => w3.heap.size ≤ x) W (lawB n v 2) (.agg cs.toArray) := hu 6 (by kernel_rfl)
      obtain ⟨c3, e3, h3⟩ : ∃ cs : List Value, u 8 = .agg cs.toArray ∧ BnV (fun x => w3.heap.size ≤ x) W (lawB n v 3) (.agg cs.toArray) := hu 8 (by kernel_rfl)
      have al := (Below.refl W.heap.size W).alloc (Nat.le_refl _) (.cells (c0 ++ c1 ++ c2 ++ c3).toArray 32)
      refine ⟨_, _, ex_bslice4 rfl e0 e1 e2 e3 (bn_len h0) (bn_len h1) (bn_len h2) (bn_len h3), ⟨W.heap.size, c0 ++ c1 ++ c2 ++ c3, rfl, hb.size, Blk.new W _ _, ?_⟩, al⟩
      have hl : ∀ {B : Bn} {c : List Value}, BnV (fun x => w3.heap.size ≤ x) W B (.agg c.toArray) → BnV (fun x => w3.heap.size ≤ x) (W.alloc (.cells (c0 ++ c1 ++ c2 ++ c3).toArray 32)) B (.agg c.toArray) := fun h => h.below al
      exact rowsB4 (hl h0) (hl h1) (hl h2) (hl h3)
    · refine knN (by rfl) fun u W hb hu K hK => ?_
      have e0 : u 0 = .pointer (some ⟨g, 0, none⟩) := hu 0 (by kernel_rfl)
      have t8 : (wB w3.heap.size (lawB n v 3)).P (u 8) W := hu 8 (by kernel_rfl)
      have t9 : (wS w3.heap.size [lawB n v 2, lawB n v 1, lawB n v 2, lawB n v 3]).P (u 9) W := hu 9 (by kernel_rfl)
      obtain ⟨q, zs, e9, hq9, hz9, hr9⟩ := t9
      go_simp
      go_at_call 12
      refine (srv_once nmBob HSZ.out HNB.out (A := fun x => w3.heap.size ≤ x) (HL3.out.srv.below hb) HL3.out.srv.new hz9.rng hr9 hq9 (law_fines n v [2, 1, 2, 3]) (by simp)).mono ?_
      rintro r w9 ⟨rfl, T9, hT9, hS9, hf9⟩
      rw [adds_e3 n v] at hS9 ⊢
      have hk9 := hK.out w9 ⟨T9, ((HL3.out.below hb).step hT9 hS9 hf9)⟩
      first | exact hk9 | (simp only [e0, e9] at hk9; exact hk9)
    · refine knA (.one (by kernel_rfl)) (by rfl) fun u W hu => ?_
      have e10 : u 10 = .tuple #[.int .i64 3, .int .i64 0] := hu 10 (by kernel_rfl) _ rfl
      go_simp
    · refine knA (.cons (c := 11) (by kernel_rfl) (.one (by kernel_rfl))) (by rfl) fun u W hu => ?_
      have e11 : u 11 = .tuple #[.int .i64 3, .int .i64 0] := hu 11 (by kernel_rfl) _ rfl
      go_simp
    · refine knA (.cons (c := 11) (by kernel_rfl) (.one (by kernel_rfl))) (by rfl) fun u W hu => ?_
      have e11 : u 11 = .tuple #[.int .i64 3, .int .i64 0] := hu 11 (by kernel_rfl) _ rfl
      go_simp
    · refine knA (.one (by kernel_rfl)) (by rfl) fun u W hu => ?_
      have e0 : u 0 = .pointer (some ⟨g, 0, none⟩) := hu 0 (by kernel_rfl) _ rfl
      have e1 : u 1 = .agg (stepC nmBob n v).toArray := hu 1 (by kernel_rfl) _ rfl
      have e3 : u 3 = .agg (stepC nmBob n v).toArray := hu 3 (by kernel_rfl) _ rfl
      have e5 : u 5 = .agg (stepC nmBob n v).toArray := hu 5 (by kernel_rfl) _ rfl
      have e7 : u 7 = .agg (stepC nmBob n v).toArray := hu 7 (by kernel_rfl) _ rfl
      have e10 : u 10 = .tuple #[.int .i64 3, .int .i64 0] := hu 10 (by kernel_rfl) _ rfl
      have e11 : u 11 = .tuple #[.int .i64 3, .int .i64 0] := hu 11 (by kernel_rfl) _ rfl
      have e12 : u 12 = .int .i64 3 := hu 12 (by kernel_rfl) _ rfl
      go_simp
    · refine knA (.one (by kernel_rfl)) (by rfl) fun u W hu => ?_
      have e0 : u 0 = .pointer (some ⟨g, 0, none⟩) := hu 0 (by kernel_rfl) _ rfl
      have e1 : u 1 = .agg (stepC nmBob n v).toArray := hu 1 (by kernel_rfl) _ rfl
      have e3 : u 3 = .agg (stepC nmBob n v).toArray := hu 3 (by kernel_rfl) _ rfl
      have e5 : u 5 = .agg (stepC nmBob n v).toArray := hu 5 (by kernel_rfl) _ rfl
      have e7 : u 7 = .agg (stepC nmBob n v).toArray := hu 7 (by kernel_rfl) _ rfl
      have e10 : u 10 = .tuple #[.int .i64 3, .int .i64 0] := hu 10 (by kernel_rfl) _ rfl
      have e11 : u 11 = .tuple #[.int .i64 3, .int .i64 0] := hu 11 (by kernel_rfl) _ rfl
      have e12 : u 12 = .int .i64 3 := hu 12 (by kernel_rfl) _ rfl
      have e13 : u 13 = .int .i64 0 := hu 13 (by kernel_rfl) _ rfl
      have e14 : u 14 = .int .i64 3 := hu 14 (by kernel_rfl) _ rfl
      go_simp
  obtain ⟨T6, hL6⟩ := hPd
  have e14 := hv 14 (by omega) _ rfl
  have e15 := hv 15 (by omega) _ rfl
  have HL6 := Lib.hid hL6
  clear hL6 hv
  go_upto_region 11 with (go_at_call 13; go_must (refine (srv_count nmBob HSZ.out HNB.out HL6.out.srv).mono ?_; rintro r w7 ⟨rfl, rfl⟩))
  obtain ⟨qw, hqw⟩ : ∃ qw, qw = W6.heap.size := ⟨_, rfl⟩
  refine wp_gen (fun W => Blk W qw [.int .i64 2, .int .i64 1, .int .i64 3] 3 ∧ Below W6.heap.size W6 W) ⟨?_, ?_⟩ (fun W7 ⟨hQ, hb7⟩ => ?_)
  · rw [hqw]; exact Blk.new W6 _ _
  · exact (Below.refl _ _).alloc (Nat.le_refl _) _
  rw [← hqw]
  have HL7 := Lib.hid (HL6.out.below hb7)
  have HNQ := Lib.hid (show ¬ mine T6 4 qw from HL6.out.srv.new qw (Nat.le_of_eq hqw.symm))
  have HQ := Lib.hid hQ
  clear hQ hb7 hqw
  go_wp2
  go_loopw [12] (fun i wr => ∃ (k : Nat) (T7 : Nat → Nat), k ≤ F ∧ i = .int .i64 k ∧ Lw w wr g p nmBob n v T7 5 ⟨lawB n v 0, (e3 n v).once.drop k, (e3 n v).onces, (e3 n v).kems⟩ ∧ ¬ mine T7 4 qw ∧ Blk wr qw [.int .i64 2, .int .i64 1, .int .i64 3] 3) (fun i _ => F - (intOf i).toNat)
  case atStart => exact ⟨0, T6, Nat.zero_le _, rfl, HL7.out, HNQ.out, HQ.out⟩
  case round =>
    obtain ⟨k, T7, hk, rfl, hLr, hnq, hQr⟩ := hrel
    by_cases hlt : k < F
    · have hltz : (k : Int) < (F : Int) := by omega
      have HLR := Lib.hid hLr
      have HNR := Lib.hid hnq
      have HQR := Lib.hid hQr
      have HK := Lib.hid hlt
      by_cases hk3 : k < 3
      · obtain ⟨B, id, hd, hid, hw⟩ : ∃ (B : Bn) (id : Int), (e3 n v).once.drop k = B :: (e3 n v).once.drop (k + 1) ∧ B.onceId = id ∧ ([.int .i64 2, .int .i64 1, .int .i64 3] : List Value)[k]? = some (.int .i64 id) := by
          have h : k = 0 ∨ k = 1 ∨ k = 2 := by omega
          rcases h with rfl | rfl | rfl
          · exact ⟨lawB n v 2, 2, rfl, rfl, rfl⟩
          · exact ⟨lawB n v 1, 1, rfl, rfl, rfl⟩
          · exact ⟨lawB n v 3, 3, rfl, rfl, rfl⟩
        have hk3z : (k : Int) < 3 := by omega
        have HD := Lib.hid hd
        have HI := Lib.hid hid
        have HW := Lib.hid hw
        clear hlt hLr hnq hQr hd hid hw
        go_upto_region 15 with (first | (go_at_call 14; go_must (refine (srv_fetch nmBob HSZ.out HNB.out HLR.out.srv HD.out).mono ?_; rintro r w6 ⟨z6, T8, A6, rfl, hz6, hT6, hS6, hf6⟩; obtain ⟨y6, rfl⟩ : ∃ y6 : List Value, z6 = .agg y6.toArray := (by obtain ⟨y, e, _⟩ := hz6; exact ⟨y, e⟩); have hl6 := bn_len hz6; have hi6 : (Tryz.prog.info? 32).map (·.size) = some y6.toArray.size := (by rw [info32]; simp [hl6]); have ho6 : bn0.size = y6.toArray.size := (by simp [hl6]); have h61 := bn_one hz6; have HZ6 := Lib.hid hz6; have HT6 := Lib.hid hT6; have HS6 := Lib.hid hS6; have HF6 := Lib.hid hf6; clear hz6 hT6 hS6 hf6)) | (refine wpList_store_row rfl 32 _ _ rfl w6.heap.size _ rfl rfl 32 bn0 (Blk.new w6 _ _) hi6 ho6 h61 ?_))
        have hL8 := HLR.out.step HT6.out HS6.out HF6.out
        obtain ⟨U6, hU6⟩ : ∃ U6, U6 = (w6.alloc (.cells bn0 32)).setRow w6.heap.size y6.toArray := ⟨_, rfl⟩
        have hu6 : Below w6.heap.size w6 U6 := by rw [hU6]; exact below_setRow (Below.alloc' (Below.refl _ _) _) (Nat.le_refl _) _
        have hP6 : Blk U6 w6.heap.size y6 32 := by rw [hU6]; exact setRow_blk (Blk.new w6 _ _)
        have hQ6 : Blk U6 qw [.int .i64 2, .int .i64 1, .int .i64 3] 3 := (HF6.out.blk HQR.out HNR.out).below' hu6
        have hc6 := (bn_ids HZ6.out hP6).1
        rw [HI.out] at hc6
        have hcq : U6.cell? ⟨qw, k, none⟩ = some (.int .i64 id) := by rw [hQ6.cell]; exact HW.out
        have HL8 := Lib.hid (hL8.below hu6)
        have HN8 := Lib.hid (show ¬ mine T8 4 qw from fun h => HNR.out ((mine_eq (HT6.out qw HQR.out.lt)).1 h))
        have HQ8 := Lib.hid hQ6
        rw [← hU6]
        clear hU6 hu6 hP6 hQ6 hL8 hi6 ho6 h61
        go_wp2
        have hk1 := HK.out
        refine ⟨?_, ?_⟩
        · repeat apply Exists.intro
          refine And.intro ?_ rfl
          exact ⟨k + 1, T8, HK.out, by simp, HL8.out, HN8.out, HQ8.out⟩
        · show F - (intOf (.int .i64 ((k : Int) + 1))).toNat < F - (intOf (.int .i64 (k : Int))).toNat
          simp only [intOf]
          omega
      · have hd : (e3 n v).once.drop k = [] := List.drop_eq_nil_of_le (by show 3 ≤ k; omega)
        have hd1 : (e3 n v).once.drop (k + 1) = [] := List.drop_eq_nil_of_le (by show 3 ≤ k + 1; omega)
        have hk3z : ¬ (k : Int) < 3 := by omega
        have HD := Lib.hid hd
        have HD1 := Lib.hid hd1
        clear hlt hLr hnq hQr hd hd1
        go_upto_region 15 with (first | (go_at_call 14; go_must (refine (srv_base nmBob HSZ.out HNB.out HLR.out.srv HD.out).mono ?_; rintro r w6 ⟨z6, A6, rfl, hz6, hb6⟩; obtain ⟨y6, rfl⟩ : ∃ y6 : List Value, z6 = .agg y6.toArray := (by obtain ⟨y, e, _⟩ := hz6; exact ⟨y, e⟩); have hl6 := bn_len hz6; have hi6 : (Tryz.prog.info? 32).map (·.size) = some y6.toArray.size := (by rw [info32]; simp [hl6]); have ho6 : bn0.size = y6.toArray.size := (by simp [hl6]); have h61 := bn_one hz6; have HZ6 := Lib.hid hz6; have HB6 := Lib.hid hb6; clear hz6 hb6)) | (refine wpList_store_row rfl 32 _ _ rfl w6.heap.size _ rfl rfl 32 bn0 (Blk.new w6 _ _) hi6 ho6 h61 ?_))
        obtain ⟨U6, hU6⟩ : ∃ U6, U6 = (w6.alloc (.cells bn0 32)).setRow w6.heap.size y6.toArray := ⟨_, rfl⟩
        have hu6 : Below w6.heap.size w6 U6 := by rw [hU6]; exact below_setRow (Below.alloc' (Below.refl _ _) _) (Nat.le_refl _) _
        have hP6 : Blk U6 w6.heap.size y6 32 := by rw [hU6]; exact setRow_blk (Blk.new w6 _ _)
        have hc6 := (bn_ids HZ6.out hP6).1
        have hL8 := (HLR.out.below HB6.out).below hu6
        rw [HD.out, ← HD1.out] at hL8
        have HL8 := Lib.hid hL8
        have HQ8 := Lib.hid ((HQR.out.below' HB6.out).below' hu6)
        rw [show (En.mk (lawB n v 0) ((e3 n v).once.drop k) (e3 n v).onces (e3 n v).kems).base.onceId = 0 from law_id _ _ _] at hc6
        rw [← hU6]
        clear hU6 hu6 hP6 hL8 hi6 ho6 h61
        go_wp2
        have hk1 := HK.out
        refine ⟨?_, ?_⟩
        · repeat apply Exists.intro
          refine And.intro ?_ rfl
          exact ⟨k + 1, T7, HK.out, by simp, HL8.out, HNR.out, HQ8.out⟩
        · show F - (intOf (.int .i64 ((k : Int) + 1))).toNat < F - (intOf (.int .i64 (k : Int))).toNat
          simp only [intOf]
          omega
    · obtain rfl : k = F := by omega
      have HLR := Lib.hid hLr
      have HLE : Hid (((e3 n v).once.drop k).length ≤ 3) := Lib.hid (by rw [List.length_drop]; show 3 - k ≤ 3; omega)
      clear hLr hnq hQr
      go_upto_region 20 with fail
      refine rgN 14 8 [(16, 12), (0, 13), (70, 9), (0, 0), (0, 1), (0, 2), (0, 3), (0, 4), (0, 5), (0, 6), (0, 7), (0, 8), (0, 10), (0, 11)] [knw (.pointer (some ⟨g, 0, none⟩)), knw (.agg (stepC nmBob n v).toArray), (wB wr.heap.size (lawB n v 1)), knw (.agg (stepC nmBob n v).toArray), (wB wr.heap.size (lawB n v 2)), knw (.agg (stepC nmBob n v).toArray), (wB wr.heap.size (lawB n v 3)), (wS wr.heap.size [lawB n v 1, lawB n v 2, lawB n v 3]), knw (.tuple #[.int .i64 0, .int .i64 0]), knw (.tuple #[.int .i64 0, .int .i64 0]), knw (.int .i64 0), knw (.int .i64 0), knw (.int .i64 0), knw (.int .i64 0)] (fun W => ∃ T', Lw w W g p nmBob n v T' 8 ⟨lawB n v 0, (e3 n v).once.drop k, (e3 n v).onces, (e3 n v).kems⟩) ?_ (fun u7 W7 hPe hve => ?_) (by decide)
      · refine ⟨?_, ?_, ?_, ?_, ?_, ?_, ?_, ?_, ?_, ?_, ?_, ?_, ?_, ?_, trivial⟩
        · refine knP (.one (by kernel_rfl)) (by rfl) fun u W hb hu => ?_
          go_simp
        · refine knP (.cons (c := 7) (by kernel_rfl) (.cons (c := 2) (by kernel_rfl) (.one (by kernel_rfl)))) (by rfl) fun u W hb hu => ?_
          exact ex_load27 rfl rfl ((HLR.out.stp.below' hb).rng)
        · refine knC (.cons (c := 7) (by kernel_rfl) (.one (by kernel_rfl))) fun u W hb hu K hK => ?_
          have e1 : u 1 = .agg (stepC nmBob n v).toArray := hu 1 (by kernel_rfl)
          go_simp
          go_at_call 11
          refine (law_step nmBob n v 1).mono ?_
          rintro r w6 ⟨cs6, rfl, hb6, hv6⟩
          have hk9 := hK.out _ w6 hb6 ⟨cs6, rfl, hv6.later fun x hx ha => ⟨rfl, Nat.le_trans hb.size ha⟩⟩
          first | exact hk9 | (simp only [e1] at hk9; exact hk9)
        · refine knP (.cons (c := 6) (by kernel_rfl) (.cons (c := 4) (by kernel_rfl) (.one (by kernel_rfl)))) (by rfl) fun u W hb hu => ?_
          exact ex_load27 rfl rfl ((HLR.out.stp.below' hb).rng)
        · refine knC (.cons (c := 6) (by kernel_rfl) (.one (by kernel_rfl))) fun u W hb hu K hK => ?_
          have t2 : (wB wr.heap.size (lawB n v 1)).P (u 2) W := hu 2 (by kernel_rfl)
          have e3 : u 3 = .agg (stepC nmBob n v).toArray := hu 3 (by kernel_rfl)
          go_simp
          go_at_call 11
          refine (law_step nmBob n v 2).mono ?_
          rintro r w6 ⟨cs6, rfl, hb6, hv6⟩
          have hk9 := hK.out _ w6 hb6 ⟨cs6, rfl, hv6.later fun x hx ha => ⟨rfl, Nat.le_trans hb.size ha⟩⟩
          first | exact hk9 | (simp only [e3] at hk9; exact hk9)
        · refine knP (.cons (c := 6) (by kernel_rfl) (.one (by kernel_rfl))) (by rfl) fun u W hb hu => ?_
          exact ex_load27 rfl rfl ((HLR.out.stp.below' hb).rng)
        · refine knC (.one (by kernel_rfl)) fun u W hb hu K hK => ?_
          have t4 : (wB wr.heap.size (lawB n v 2)).P (u 4) W := hu 4 (by kernel_rfl)
          have e5 : u 5 = .agg (stepC nmBob n v).toArray := hu 5 (by kernel_rfl)
          go_simp
          go_at_call 11
          refine (law_step nmBob n v 3).mono ?_
          rintro r w6 ⟨cs6, rfl, hb6, hv6⟩
          have hk9 := hK.out _ w6 hb6 ⟨cs6, rfl, hv6.later fun x hx ha => ⟨rfl, Nat.le_trans hb.size ha⟩⟩
          first | exact hk9 | (simp only [e5] at hk9; exact hk9)
        · refine knM (.one (by kernel_rfl)) (fun u W hb hu => ?_)
          obtain ⟨c0, e0, h0⟩ : ∃ cs : List Value, u 2 = .agg cs.toArray ∧ BnV (fun x => wr.heap.size ≤ x) W (lawB n v 1) (.agg cs.toArray) := hu 2 (by kernel_rfl)
          obtain ⟨c1, e1, h1⟩ : ∃ cs : List Value, u 4 = .agg cs.toArray ∧ BnV (fun x => wr.heap.size ≤ x) W (lawB n v 2) (.agg cs.toArray) := hu 4 (by kernel_rfl)
          obtain ⟨c2, e2, h2⟩ : ∃ cs : List Value, u 6 = .agg cs.toArray ∧ BnV (fun x => wr.heap.size ≤ x) W (lawB n v 3) (.agg cs.toArray) := hu 6 (by kernel_rfl)
          have al := (Below.refl W.heap.size W).alloc (Nat.le_refl _) (.cells (c0 ++ c1 ++ c2).toArray 32)
          refine ⟨_, _, ex_bslice3 rfl e0 e1 e2 (bn_len h0) (bn_len h1) (bn_len h2), ⟨W.heap.size, c0 ++ c1 ++ c2, rfl, hb.size, Blk.new W _ _, ?_⟩, al⟩
          have hl : ∀ {B : Bn} {c : List Value}, BnV (fun x => wr.heap.size ≤ x) W B (.agg c.toArray) → BnV (fun x => wr.heap.size ≤ x) (W.alloc (.cells (c0 ++ c1 ++ c2).toArray 32)) B (.agg c.toArray) := fun h => h.below al
          exact rowsB3 (hl h0) (hl h1) (hl h2)
        · refine knN (by rfl) fun u W hb hu K hK => ?_
          have e0 : u 0 = .pointer (some ⟨g, 0, none⟩) := hu 0 (by kernel_rfl)
          have t6 : (wB wr.heap.size (lawB n v 3)).P (u 6) W := hu 6 (by kernel_rfl)
          have t7 : (wS wr.heap.size [lawB n v 1, lawB n v 2, lawB n v 3]).P (u 7) W := hu 7 (by kernel_rfl)
          obtain ⟨q, zs, e9, hq9, hz9, hr9⟩ := t7
          go_simp
          go_at_call 12
          refine (srv_once nmBob HSZ.out HNB.out (A := fun x => wr.heap.size ≤ x) (HLR.out.srv.below hb) HLR.out.srv.new hz9.rng hr9 hq9 (law_fines n v [1, 2, 3]) (by simp)).mono ?_
          rintro r w9 ⟨rfl, T9, hT9, hS9, hf9⟩
          rw [adds_again HLE.out] at hS9 ⊢
          have hk9 := hK.out w9 ⟨T9, ((HLR.out.below hb).step hT9 hS9 hf9)⟩
          first | exact hk9 | (simp only [e0, e9] at hk9; exact hk9)
        · refine knA (.one (by kernel_rfl)) (by rfl) fun u W hu => ?_
          have e8 : u 8 = .tuple #[.int .i64 0, .int .i64 0] := hu 8 (by kernel_rfl) _ rfl
          go_simp
        · refine knA (.cons (c := 9) (by kernel_rfl) (.one (by kernel_rfl))) (by rfl) fun u W hu => ?_
          have e9 : u 9 = .tuple #[.int .i64 0, .int .i64 0] := hu 9 (by kernel_rfl) _ rfl
          go_simp
        · refine knA (.cons (c := 9) (by kernel_rfl) (.one (by kernel_rfl))) (by rfl) fun u W hu => ?_
          have e9 : u 9 = .tuple #[.int .i64 0, .int .i64 0] := hu 9 (by kernel_rfl) _ rfl
          go_simp
        · refine knA (.one (by kernel_rfl)) (by rfl) fun u W hu => ?_
          have e0 : u 0 = .pointer (some ⟨g, 0, none⟩) := hu 0 (by kernel_rfl) _ rfl
          have e1 : u 1 = .agg (stepC nmBob n v).toArray := hu 1 (by kernel_rfl) _ rfl
          have e3 : u 3 = .agg (stepC nmBob n v).toArray := hu 3 (by kernel_rfl) _ rfl
          have e5 : u 5 = .agg (stepC nmBob n v).toArray := hu 5 (by kernel_rfl) _ rfl
          have e8 : u 8 = .tuple #[.int .i64 0, .int .i64 0] := hu 8 (by kernel_rfl) _ rfl
          have e9 : u 9 = .tuple #[.int .i64 0, .int .i64 0] := hu 9 (by kernel_rfl) _ rfl
          have e10 : u 10 = .int .i64 0 := hu 10 (by kernel_rfl) _ rfl
          go_simp
        · refine knA (.one (by kernel_rfl)) (by rfl) fun u W hu => ?_
          have e0 : u 0 = .pointer (some ⟨g, 0, none⟩) := hu 0 (by kernel_rfl) _ rfl
          have e1 : u 1 = .agg (stepC nmBob n v).toArray := hu 1 (by kernel_rfl) _ rfl
          have e3 : u 3 = .agg (stepC nmBob n v).toArray := hu 3 (by kernel_rfl) _ rfl
          have e5 : u 5 = .agg (stepC nmBob n v).toArray := hu 5 (by kernel_rfl) _ rfl
          have e8 : u 8 = .tuple #[.int .i64 0, .int .i64 0] := hu 8 (by kernel_rfl) _ rfl
          have e9 : u 9 = .tuple #[.int .i64 0, .int .i64 0] := hu 9 (by kernel_rfl) _ rfl
          have e10 : u 10 = .int .i64 0 := hu 10 (by kernel_rfl) _ rfl
          have e11 : u 11 = .int .i64 0 := hu 11 (by kernel_rfl) _ rfl
          have e12 : u 12 = .int .i64 0 := hu 12 (by kernel_rfl) _ rfl
          go_simp
      obtain ⟨T9, hL9⟩ := hPe
      have e12 := hve 12 (by omega) _ rfl
      have e13 := hve 13 (by omega) _ rfl
      have HL9 := Lib.hid hL9
      have hlen : (((e3 n v).once.drop k).length : Int) = max (3 - (k : Int)) 0 := by rw [List.length_drop]; show ((3 - k : Nat) : Int) = _; omega
      clear hL9 hve
      go_wp2_with (first | (go_at_call 13; go_must (refine (srv_count nmBob HSZ.out HNB.out HL9.out.srv).mono ?_; rintro r w7 ⟨rfl, rfl⟩; rw [hlen])) | (go_at_call 8; go_must (refine (awake_any _).mono ?_; rintro r w8 ⟨rfl, hb8⟩; have HB8 := Lib.hid hb8; clear hb8)))
      all_goals (go_ret; exact ⟨rfl, Below.call HL9.out.bel HB8.out⟩)
theorem serverOnce_any {n v f : Int} (w : World) (_hn : (Lit.int .i64 n).wf = true) (_hv : (Lit.int .i64 v).wf = true) (_hf : (Lit.int .i64 f).wf = true) : Calls Tryz.prog 3 #[.int .i64 n, .int .i64 v, .int .i64 f] w fun e w' => e = .returned (.bool true) ∧ Below w.heap.size w w' := by
  by_cases h : f < 0 ∨ 8 < f
  · exact once_big w h
  · obtain ⟨F, rfl⟩ : ∃ F : Nat, f = (F : Int) := ⟨f.toNat, by omega⟩
    exact once_main w (by omega)
namespace serverOnceDone
theorem own : ownKnob Tryz.prog.godebug = none := by kernel_rfl
theorem laidOut : laidOutB Tryz.prog = true := by kernel_rfl
set_option maxRecDepth 100000 in
theorem lifted (os : Os) (started : os.Started) (H : Type) (enc : TypeId × Value → H) :
    ReturnsInHanded {} Tryz.checked os 3 .any (Rows.serverOnceSpec.pre6 enc Tryz.prog Tryz.f3 Rows.serverOnceRow.domain false) (Rows.serverOnceSpec.post enc Tryz.prog Tryz.f3 false true false false) := by
  refine returnsInHanded_of_change (C := Tryz.checked) own started (by kernel_rfl) Tryz.func3
    (ChangeSpec.witness6 (enc := enc) (C := Tryz.checked) false ⟨#[], #[.int .i64 0, .int .i64 0, .int .i64 0], []⟩ 8 (by kernel_rfl) (by kernel_rfl) (by kernel_rfl) (by kernel_rfl)) ?_
  intro W base args ds gs before hval0 hW hcnd _
  have hval : ∀ (j : Nat) t v, Tryz.f3.params[j]? = some t → args[j]? = some v → Value.okWide Tryz.prog W .any base t v := hval0
  have hW' := hW
  obtain ⟨p, q, hA0, hV, rfl, hfz, hnd⟩ := hW
  have hA : DataW.TrodAll enc Tryz.prog W 0 (fun _ => true) true Tryz.f3.params.toList args.toList ds p := hA0
  rw [Tryz.params3] at hA hval
  obtain ⟨v0, vs0, d0, ds0, p0, q0, hargs, rfl, rfl, h0, r0⟩ := trodAll_cons hA
  obtain ⟨v1, vs1, d1, ds1, p1, q1, rfl, rfl, rfl, h1, r1⟩ := trodAll_cons r0
  obtain ⟨v2, vs2, d2, ds2, p2, q2, rfl, rfl, rfl, h2, r2⟩ := trodAll_cons r1
  obtain ⟨rfl, rfl, rfl⟩ := trodAll_nil r2
  obtain rfl : args = #[v0, v1, v2] := by cases args; simp_all
  obtain ⟨rfl, rfl⟩ := trodVars_none hV
  obtain ⟨a0, rfl, rfl, rfl, w0⟩ := open_int Tryz.underlying3 (hval 0 3 v0 rfl rfl) h0
  obtain ⟨a1, rfl, rfl, rfl, w1⟩ := open_int Tryz.underlying3 (hval 1 3 v1 rfl rfl) h1
  obtain ⟨a2, rfl, rfl, rfl, w2⟩ := open_int Tryz.underlying3 (hval 2 3 v2 rfl rfl) h2
  clear hA0 hval0
  refine (serverOnce_any W w0 w1 w2).mono fun e W' ⟨he, bel⟩ => ?_
  subst he
  exact ⟨_, rfl, _, _, _, [], _, [], hW', trodAll_mk1 (shut_bool Tryz.underlying4 _), (trodAll_cons_mk (shut_int Tryz.underlying3 w0) (trodAll_cons_mk (shut_int Tryz.underlying3 w1) (trodAll_cons_mk (shut_int Tryz.underlying3 w2) trodAll_mk0))), rfl, bel.frame _, fun h => by cases h⟩
theorem over : Rows.serverOnceRow.holds Tryz.pinned (OpenSpec.ofChange Rows.serverOnceSpec) :=
  OpenClaim.holds_of_wide 3 Tryz.f3 rfl rfl rfl rfl rfl rfl rfl ⟨rfl, rfl, rfl, rfl, rfl⟩ rfl rfl rfl rfl rfl (by kernel_rfl) Tryz.func3 (by kernel_rfl)
    (of_decide_eq_true (by kernel_rfl)) (by unfold Func.isWrapper; first | (rw [if_pos (by decide +kernel)]; kernel_rfl) | (rw [if_neg (by decide +kernel)]; exact ⟨rfl, rfl⟩))
    (fun os started H enc _ => lifted os started H enc)
theorem proved : Rows.ServerOnceSaid := over
#print axioms proved
end serverOnceDone

end Go.Proofs.YtknlbpjcjdenbaaGreat
