/- Of chapter 16, StoreDead: for every input the law returns true, and each argument reads behind the call as it read before. No condition. -/
import Derived.Test.YtogjbhkhdccahaaZSOB
import Derived.ProofKit
import Derived.ShutString
import Derived.ChangeOld
namespace Go.Proofs.Ytogjbhkhdccahaa
open Go Go.ChangeShapes Go.WideShapes Go.ChangeAt Go.RowKit Go.Maps

def firL : List UInt8 := [102, 105, 114, 115, 116]
theorem lit_fir (W : World) : (convert 28 28 (.slice (some ⟨W.heap.size, 0, none⟩) 5 5)).run Try.prog (W.alloc (.cells #[.int .u8 102, .int .u8 105, .int .u8 114, .int .u8 115, .int .u8 116] 5)) = .ok (.slice (some ⟨W.heap.size, 0, none⟩) 5 5) (litW W firL) := litW_run W firL rfl
def zrow : List Value := List.replicate 5121 (bV 0)
def zlist : List UInt8 := List.replicate 5121 0
theorem mk5121 (w : World) : (Instr.makeSlice 28 (.int .i64 5121) (.int .i64 5121)).run Try.prog w = .ok (.slice (some ⟨w.heap.size, 0, none⟩) 5121 5121) (w.alloc (.cells zrow.toArray 5)) := mkB 5121 (by omega) w
theorem rd_zeros (w : World) : RdB (w.alloc (.cells zrow.toArray 5)) (some ⟨w.heap.size, 0, none⟩) 5121 5121 zlist := by
  have h := Blk.new w zrow.toArray 5
  rw [List.toList_toArray] at h
  exact RdB.blk (n := 5121) (cap := 5121) (l := zlist) [] (by unfold zlist; rw [List.append_nil, List.map_replicate]; exact h) List.length_replicate (Nat.le_refl _) (by unfold maxLen; omega)
set_option maxRecDepth 100000 in
set_option maxHeartbeats 4000000 in
theorem dead_main {n cut : Int} (w : World) (h0 : 0 ≤ n) (h1 : n ≤ 3000) (h2 : 0 ≤ cut) (h3 : cut ≤ 300) :
    Calls Try.prog 8 #[.int .i64 n, .int .i64 cut] w fun e w' => e = .returned (.bool true) ∧ Below w.heap.size w w' := by
  have f_n : decide (n < 0) = false := decide_eq_false (by omega)
  have d_n : decide (3000 < n) = false := decide_eq_false (by omega)
  have f_cut : decide (cut < 0) = false := decide_eq_false (by omega)
  have d_cut : decide (300 < cut) = false := decide_eq_false (by omega)
  have HR0 := Lib.hid run0
  have HRS : Hid ((saveP d0 st0 firL).2.2 = 0 ∧ (saveP d0 st0 firL).2.1 = ⟨0, 1, firL, false⟩ ∧ Run 101 (saveP d0 st0 firL).1 ⟨0, 1, firL, false⟩) := Lib.hid (by have h := run0.1.save (l := firL) run0.2 (by decide) (by decide); exact ⟨h.1, h.2.1, h.2.2.1⟩)
  have HP0 : Hid (64 ≤ d0.good.length ∧ d0.good.length ≤ 1000 ∧ d0.ops + 1000 < 1000000 ∧ d0.left ≤ 9223372036854775807 ∧ st0.cnt + 1 < 1000000) := Lib.hid ⟨by rw [run0.1.len]; omega, by rw [run0.1.len]; omega, by have := run0.1.ops; omega, run0.1.left, by decide⟩
  obtain ⟨dA, hdA⟩ : ∃ dA, dA = (saveP d0 st0 firL).1 := ⟨_, rfl⟩
  have HDA := Lib.hid hdA
  have hRA : Run 101 dA ⟨0, 1, firL, false⟩ := by rw [hdA]; exact HRS.out.2.2
  obtain ⟨dC, hdC⟩ : ∃ dC, dC = dA.cutAt cut := ⟨_, rfl⟩
  have HDC := Lib.hid hdC
  have hRC : Run 101 dC ⟨0, 1, firL, false⟩ := by rw [hdC]; exact ⟨Bd.cutAt_ok hRA.ok _, hRA.gs.cut _, hRA.len, hRA.ops, by show max cut 0 ≤ _; omega, rfl⟩
  have HPC : Hid (64 ≤ dC.good.length ∧ dC.good.length ≤ 1000 ∧ dC.ops + 1000 < 1000000 ∧ dC.left ≤ 9223372036854775807 ∧ (⟨0, 1, firL, false⟩ : Bs).cnt + 1 < 1000000) := Lib.hid ⟨by rw [hRC.len]; omega, by rw [hRC.len]; omega, by have := hRC.ops; omega, hRC.left, by show 1 + 1 < 1000000; omega⟩
  obtain ⟨nb, hnb⟩ : ∃ nb : Nat, n = (nb : Int) := ⟨n.toNat, by omega⟩
  subst hnb
  have HNB : Hid (nb ≤ 3000) := Lib.hid (by omega)
  obtain ⟨dB, hdB⟩ : ∃ dB, dB = (saveP dC ⟨0, 1, firL, false⟩ (alB nb 1)).1 := ⟨_, rfl⟩
  have HDB := Lib.hid hdB
  obtain ⟨hsv, hnear, _⟩ := save_law (b := alB nb 1) hRC.ok hRC.gs rfl (by rw [alB_len, hRC.len]; omega) (by show 1 + 1 < 1000000; omega)
  rw [← hdB] at hnear
  have HLB : Hid (dB.good.length = 256 ∧ dB.ops ≤ 1000 ∧ dB.left ≤ 9223372036854775807) := Lib.hid ⟨hnear.len.trans hRC.len, by have h := hnear.ops; have h2 := hRC.ops; have h3 : rowsN (alB nb 1) ≤ 100 := by { unfold rowsN; rw [alB_len]; omega }; omega, hnear.left hRC.left⟩
  rcases hsv with ⟨e1, e2, _⟩ | ⟨e1, e2, _⟩
  · have HSV : Hid ((saveP dC ⟨0, 1, firL, false⟩ (alB nb 1)).2.2 = 0 ∧ (saveP dC ⟨0, 1, firL, false⟩ (alB nb 1)).2.1 = ⟨1, 2, alB nb 1, false⟩) := Lib.hid ⟨e1, e2⟩
    have HHP : Hid (holdsP ⟨1, 2, alB nb 1, false⟩ (alB nb 1) 2 = true) := Lib.hid (by unfold holdsP; rw [if_neg (by omega)]; simp)
    clear e1 e2 hnear hRC hRA hdA hdB hdC h0 h1 h2 h3
    go_enter Try.func8, Try.ntmps8
    go_wp2_with (first
      | (go_at_call 10; (with_reducible refine (stFresh_any _).mono ?_); rintro e w1 ⟨g, s, rfl, hS, hb⟩; have HS := Lib.hid hS; have HB := Lib.hid hb; have hlit := lit_fir w1; have HL1 := Lib.hid (litW_rd w1 (l := firL) (n := 5) rfl (by decide)); have HLK := Lib.hid (show ∀ p, (some ⟨w1.heap.size, 0, none⟩ : Option Addr) = some p → onlyK w1.heap.size p.block from fun p hp => by cases hp; rfl); have HSL := Lib.hid (hS.keep (K' := onlyK w1.heap.size) (litW_below w1 firL) (fun x hx => .inr (by cases hx; rw [litW_size]; omega))); have HBL := Lib.hid (hb.trans ((litW_below w1 firL).mono hb.size)); clear hS hb)
      | (go_at_call 13; (with_reducible refine (stSave_new HSL.out HL1.out HLK.out HP0.out.1 HP0.out.2.1 HP0.out.2.2.1 HP0.out.2.2.2.1 HP0.out.2.2.2.2).mono ?_); rw [HRS.out.1, HRS.out.2.1, ← HDA.out]; rintro e w2 ⟨rfl, hS, hO⟩; have HS2 := Lib.hid (hS.keep (K' := noK) (Below.refl _ _) (fun x hx => hx.elim)); have HB2 := Lib.hid (HBL.out.trans (hO.below HBL.out.size)); clear hS hO hlit)
      | (go_at_call 22; (with_reducible refine (bCut_new HS2.out).mono ?_); rw [← HDC.out]; rintro e w3 ⟨rfl, hS, hO⟩; have HS3 := Lib.hid hS; have HB3 := Lib.hid (HB2.out.trans (hO.below HB2.out.size)); clear hS hO)
      | (go_at_call 11; (with_reducible refine (alBlock_any (by have := HNB.out; omega)).mono ?_); rintro e w4 ⟨q, rfl, hq, hB, hb⟩; have HB4 := Lib.hid (HB3.out.trans (hb.mono HB3.out.size)); have HRB := Lib.hid (RdB.blk (n := nb) (cap := nb) (l := alB nb 1) [] (by rw [List.append_nil]; exact hB) (alB_len _ _) (Nat.le_refl _) (by have := HNB.out; unfold maxLen; omega)); have HQK := Lib.hid (show ∀ p, (some ⟨q, 0, none⟩ : Option Addr) = some p → onlyK q p.block from fun p hp => by cases hp; rfl); have HS4 := Lib.hid (HS3.out.keep (K' := onlyK q) hb (fun x hx => .inr (by cases hx; exact ⟨hq, hB.lt⟩))); clear hB hb hq)
      | (go_at_call 13; (with_reducible refine (stSave_new HS4.out HRB.out HQK.out HPC.out.1 HPC.out.2.1 HPC.out.2.2.1 HPC.out.2.2.2.1 HPC.out.2.2.2.2).mono ?_); rw [HSV.out.1, HSV.out.2, ← HDB.out]; rintro e w5 ⟨rfl, hS, hO⟩; have HS5 := Lib.hid hS; have HRB5 := Lib.hid (hO.rd HRB.out HQK.out); have HB5 := Lib.hid (HB4.out.trans (hO.below HB4.out.size)); clear hS hO)
      | (go_at_call 15; go_must (refine (stHolds_S 2 2 rfl true HHP.out HS5.out HRB5.out).mono ?_; rintro e w6 ⟨rfl, hb⟩; have HS6 := Lib.hid (HS5.out.later hb); have HB6 := Lib.hid (HB5.out.trans (hb.mono HB5.out.size)); clear hb))
      | (go_at_call 19; (with_reducible refine (stDead_S HS6.out).mono ?_); rintro e wz ⟨rfl, rfl⟩)
      | (go_at_call 9; (with_reducible refine (stAwake_any _).mono ?_); rintro e w8 ⟨rfl, hb⟩; have HB8 := Lib.hid (Below.call HB6.out hb); clear hb))
    go_ret
    exact ⟨rfl, HB8.out⟩
  · have HSV : Hid ((saveP dC ⟨0, 1, firL, false⟩ (alB nb 1)).2.2 = 10 ∧ (saveP dC ⟨0, 1, firL, false⟩ (alB nb 1)).2.1 = ⟨0, 1, firL, true⟩) := Lib.hid ⟨e1, e2⟩
    have HHP : Hid (holdsP ⟨0, 1, firL, true⟩ firL 1 = true) := Lib.hid (by decide)
    have HPB : Hid (64 ≤ dB.good.length ∧ dB.good.length ≤ 1000 ∧ dB.ops + 1000 < 1000000 ∧ dB.left ≤ 9223372036854775807 ∧ (⟨0, 1, firL, true⟩ : Bs).cnt + 1 < 1000000) := Lib.hid ⟨by rw [HLB.out.1]; omega, by rw [HLB.out.1]; omega, by have := HLB.out.2.1; omega, HLB.out.2.2, by show 1 + 1 < 1000000; omega⟩
    have HS0 : Hid (saveP dB ⟨0, 1, firL, true⟩ [] = (dB, ⟨0, 1, firL, true⟩, 10)) := Lib.hid (by unfold saveP; rw [if_neg (by simp), if_pos rfl])
    have HSB : Hid (saveP dB ⟨0, 1, firL, true⟩ zlist = (dB, ⟨0, 1, firL, true⟩, 11)) := Lib.hid (by unfold saveP; rw [if_pos (by unfold zlist; rw [List.length_replicate, HLB.out.1]; omega)])
    clear e1 e2 hnear hRC hRA hdA hdB hdC h0 h1 h2 h3
    go_enter Try.func8, Try.ntmps8
    go_upto_region 11 with (first
      | (go_at_call 10; (with_reducible refine (stFresh_any _).mono ?_); rintro e w1 ⟨g, s, rfl, hS, hb⟩; have HS := Lib.hid hS; have HB := Lib.hid hb; have hlit := lit_fir w1; have HL1 := Lib.hid (litW_rd w1 (l := firL) (n := 5) rfl (by decide)); have HLK := Lib.hid (show ∀ p, (some ⟨w1.heap.size, 0, none⟩ : Option Addr) = some p → onlyK w1.heap.size p.block from fun p hp => by cases hp; rfl); have HSL := Lib.hid (hS.keep (K' := onlyK w1.heap.size) (litW_below w1 firL) (fun x hx => .inr (by cases hx; rw [litW_size]; omega))); have HBL := Lib.hid (hb.trans ((litW_below w1 firL).mono hb.size)); clear hS hb)
      | (go_at_call 13; (with_reducible refine (stSave_new HSL.out HL1.out HLK.out HP0.out.1 HP0.out.2.1 HP0.out.2.2.1 HP0.out.2.2.2.1 HP0.out.2.2.2.2).mono ?_); rw [HRS.out.1, HRS.out.2.1, ← HDA.out]; rintro e w2 ⟨rfl, hS, hO⟩; have HS2 := Lib.hid (hS.keep (K' := noK) (Below.refl _ _) (fun x hx => hx.elim)); have HB2 := Lib.hid (HBL.out.trans (hO.below HBL.out.size)); clear hS hO hlit)
      | (go_at_call 22; (with_reducible refine (bCut_new HS2.out).mono ?_); rw [← HDC.out]; rintro e w3 ⟨rfl, hS, hO⟩; have HS3 := Lib.hid hS; have HB3 := Lib.hid (HB2.out.trans (hO.below HB2.out.size)); clear hS hO)
      | (go_at_call 11; (with_reducible refine (alBlock_any (by have := HNB.out; omega)).mono ?_); rintro e w4 ⟨q, rfl, hq, hB, hb⟩; have HB4 := Lib.hid (HB3.out.trans (hb.mono HB3.out.size)); have HRB := Lib.hid (RdB.blk (n := nb) (cap := nb) (l := alB nb 1) [] (by rw [List.append_nil]; exact hB) (alB_len _ _) (Nat.le_refl _) (by have := HNB.out; unfold maxLen; omega)); have HQK := Lib.hid (show ∀ p, (some ⟨q, 0, none⟩ : Option Addr) = some p → onlyK q p.block from fun p hp => by cases hp; rfl); have HS4 := Lib.hid (HS3.out.keep (K' := onlyK q) hb (fun x hx => .inr (by cases hx; exact ⟨hq, hB.lt⟩))); clear hB hb hq)
      | (go_at_call 13; (with_reducible refine (stSave_new HS4.out HRB.out HQK.out HPC.out.1 HPC.out.2.1 HPC.out.2.2.1 HPC.out.2.2.2.1 HPC.out.2.2.2.2).mono ?_); rw [HSV.out.1, HSV.out.2, ← HDB.out]; rintro e w5 ⟨rfl, hS, hO⟩; have HS5 := Lib.hid hS; have HRB5 := Lib.hid (hO.rd HRB.out HQK.out); have HB5 := Lib.hid (HB4.out.trans (hO.below HB4.out.size)); clear hS hO))
    have hlit := lit_fir w5
    have HL5 := Lib.hid (litW_rd w5 (l := firL) (n := 5) rfl (by decide))
    have HS6 := Lib.hid (HS5.out.later (litW_below w5 firL))
    have HB6 := Lib.hid (HB5.out.trans ((litW_below w5 firL).mono HB5.out.size))
    go_wp2_with (first
      | (go_at_call 19; (with_reducible refine (stDead_S HS5.out).mono ?_); rintro e wz ⟨rfl, rfl⟩)
      | (go_at_call 15; go_must (refine (stHolds_S 1 1 rfl true HHP.out HS6.out HL5.out).mono ?_; rintro e w7 ⟨rfl, hb⟩; have HS7 := Lib.hid (HS6.out.keep (K' := noK) hb (fun x hx => hx.elim)); have HB7 := Lib.hid (HB6.out.trans (hb.mono HB6.out.size)); have HNI := Lib.hid (RdB.nil w7); have HNK := Lib.hid (show ∀ p, (none : Option Addr) = some p → noK p.block from fun p hp => by cases hp); clear hb))
      | (go_at_call 13; (with_reducible refine (stSave_new HS7.out HNI.out HNK.out HPB.out.1 HPB.out.2.1 HPB.out.2.2.1 HPB.out.2.2.2.1 HPB.out.2.2.2.2).mono ?_); rw [HS0.out]; rintro e w9 ⟨rfl, hS, hO⟩; have HB9 := Lib.hid (HB7.out.trans (hO.below HB7.out.size)); have hmk := mk5121 w9; have hbA := (Below.refl w9.heap.size w9).alloc (Nat.le_refl _) (.cells zrow.toArray 5); have HBA := Lib.hid hbA; have HRZ := Lib.hid (rd_zeros w9); have HZK := Lib.hid (show ∀ p, (some ⟨w9.heap.size, 0, none⟩ : Option Addr) = some p → onlyK w9.heap.size p.block from fun p hp => by cases hp; rfl); have HS9 := Lib.hid (hS.keep (K' := onlyK w9.heap.size) hbA (fun x hx => .inr (by cases hx; simp))); clear hS hO hbA)
      | (go_at_call 13; (with_reducible refine (stSave_new HS9.out HRZ.out HZK.out HPB.out.1 HPB.out.2.1 HPB.out.2.2.1 HPB.out.2.2.2.1 HPB.out.2.2.2.2).mono ?_); rw [HSB.out]; rintro e wa ⟨rfl, hS, hO⟩; have HBa := Lib.hid ((HB9.out.trans (HBA.out.mono HB9.out.size)).trans (hO.below (Nat.le_trans HB9.out.size HBA.out.size))); clear hS hO hmk)
      | (go_at_call 9; (with_reducible refine (stAwake_any _).mono ?_); rintro e w8 ⟨rfl, hb⟩; have HB8 := Lib.hid (Below.call HBa.out hb); clear hb))
    go_ret
    exact ⟨rfl, HB8.out⟩
set_option maxRecDepth 100000 in
set_option maxHeartbeats 1000000 in
theorem dead_big {n cut : Int} (w : World) (h : n < 0 ∨ 3000 < n ∨ cut < 0 ∨ 300 < cut) :
    Calls Try.prog 8 #[.int .i64 n, .int .i64 cut] w fun e w' => e = .returned (.bool true) ∧ Below w.heap.size w w' := by
  by_cases h0 : n < 0
  · have f_n : decide (n < 0) = true := decide_eq_true (by omega)
    clear h h0
    go_enter Try.func8, Try.ntmps8
    go_wp2_with (go_at_call 9; (with_reducible refine (stAwake_any _).mono ?_); rintro e w1 ⟨rfl, hb⟩)
    go_ret
    exact ⟨rfl, hb⟩
  have f_n : decide (n < 0) = false := decide_eq_false (by omega)
  replace h : 3000 < n ∨ cut < 0 ∨ 300 < cut := by omega
  clear h0
  by_cases h1 : 3000 < n
  · have d_n : decide (3000 < n) = true := decide_eq_true (by omega)
    clear h h1
    go_enter Try.func8, Try.ntmps8
    go_wp2_with (go_at_call 9; (with_reducible refine (stAwake_any _).mono ?_); rintro e w1 ⟨rfl, hb⟩)
    go_ret
    exact ⟨rfl, hb⟩
  have d_n : decide (3000 < n) = false := decide_eq_false (by omega)
  replace h : cut < 0 ∨ 300 < cut := by omega
  clear h1
  by_cases h2 : cut < 0
  · have f_cut : decide (cut < 0) = true := decide_eq_true (by omega)
    clear h h2
    go_enter Try.func8, Try.ntmps8
    go_wp2_with (go_at_call 9; (with_reducible refine (stAwake_any _).mono ?_); rintro e w1 ⟨rfl, hb⟩)
    go_ret
    exact ⟨rfl, hb⟩
  have f_cut : decide (cut < 0) = false := decide_eq_false (by omega)
  replace h : 300 < cut := by omega
  clear h2
  have d_cut : decide (300 < cut) = true := decide_eq_true (by omega)
  clear h
  go_enter Try.func8, Try.ntmps8
  go_wp2_with (go_at_call 9; (with_reducible refine (stAwake_any _).mono ?_); rintro e w1 ⟨rfl, hb⟩)
  go_ret
  exact ⟨rfl, hb⟩
theorem storeDead_any {n cut : Int} (w : World) (_hn : (Lit.int .i64 n).wf = true) (_hc : (Lit.int .i64 cut).wf = true) :
    Calls Try.prog 8 #[.int .i64 n, .int .i64 cut] w fun e w' => e = .returned (.bool true) ∧ Below w.heap.size w w' := by
  by_cases h : n < 0 ∨ 3000 < n ∨ cut < 0 ∨ 300 < cut
  · exact dead_big w h
  · exact dead_main w (by omega) (by omega) (by omega) (by omega)
namespace storeDeadDone
theorem own : ownKnob Try.prog.godebug = none := by kernel_rfl
theorem laidOut : laidOutB Try.prog = true := by kernel_rfl
set_option maxRecDepth 100000 in
theorem lifted (os : Os) (started : os.Started) (H : Type) (enc : TypeId × Value → H) :
    ReturnsInHanded {} Try.checked os 8 .any (Rows.storeDeadSpec.pre6 enc Try.prog Try.f8 Rows.storeDeadRow.domain false) (Rows.storeDeadSpec.post enc Try.prog Try.f8 false true false false) := by
  refine returnsInHanded_of_change (C := Try.checked) own started (by kernel_rfl) Try.func8
    (ChangeSpec.witness6 (enc := enc) (C := Try.checked) false ⟨#[], #[.int .i64 0, .int .i64 0], []⟩ 8 (by kernel_rfl) (by kernel_rfl) (by kernel_rfl) (by kernel_rfl)) ?_
  intro W base args ds gs before hval0 hW hcnd _
  have hval : ∀ (j : Nat) t v, Try.f8.params[j]? = some t → args[j]? = some v → Value.okWide Try.prog W .any base t v := hval0
  have hW' := hW
  obtain ⟨p, q, hA0, hV, rfl, hfz, hnd⟩ := hW
  have hA : DataW.TrodAll enc Try.prog W 0 (fun _ => true) true Try.f8.params.toList args.toList ds p := hA0
  rw [Try.params8] at hA hval
  obtain ⟨v0, vs0, d0, ds0, p0, q0, hargs, rfl, rfl, h0, r0⟩ := trodAll_cons hA
  obtain ⟨v1, vs1, d1, ds1, p1, q1, rfl, rfl, rfl, h1, r1⟩ := trodAll_cons r0
  obtain ⟨rfl, rfl, rfl⟩ := trodAll_nil r1
  obtain rfl : args = #[v0, v1] := by cases args; simp_all
  obtain ⟨rfl, rfl⟩ := trodVars_none hV
  obtain ⟨a0, rfl, rfl, rfl, w0⟩ := open_int Try.underlying3 (hval 0 3 v0 rfl rfl) h0
  obtain ⟨a1, rfl, rfl, rfl, w1⟩ := open_int Try.underlying3 (hval 1 3 v1 rfl rfl) h1
  clear hA0 hval0
  refine (storeDead_any W w0 w1).mono fun e W' ⟨he, bel⟩ => ?_
  subst he
  exact ⟨_, rfl, _, _, _, [], _, [], hW', trodAll_mk1 (shut_bool Try.underlying4 _), (trodAll_cons_mk (shut_int Try.underlying3 w0) (trodAll_cons_mk (shut_int Try.underlying3 w1) trodAll_mk0)), rfl, bel.frame _, fun h => by cases h⟩
theorem over : Rows.storeDeadRow.holds Try.pinned (OpenSpec.ofChange Rows.storeDeadSpec) :=
  OpenClaim.holds_of_wide 8 Try.f8 rfl rfl rfl rfl rfl rfl rfl ⟨rfl, rfl, rfl, rfl, rfl⟩ rfl rfl rfl rfl rfl (by kernel_rfl) Try.func8 (by kernel_rfl)
    (of_decide_eq_true (by kernel_rfl)) (by unfold Func.isWrapper; first | (rw [if_pos (by decide +kernel)]; kernel_rfl) | (rw [if_neg (by decide +kernel)]; exact ⟨rfl, rfl⟩))
    (fun os started H enc _ => lifted os started H enc)
theorem proved : Rows.StoreDeadSaid := over
#print axioms proved
end storeDeadDone

end Go.Proofs.Ytogjbhkhdccahaa
