/- Of chapter 16, StoreKeeps: for every input the law returns true, and each argument reads behind the call as it read before. No condition. -/
import Derived.Test.YtogjbhkhdccahaaZSOB
import Derived.ProofKit
import Derived.ShutString
import Derived.ChangeOld
namespace Go.Proofs.Ytogjbhkhdccahaa
open Go Go.ChangeShapes Go.WideShapes Go.ChangeAt Go.RowKit Go.Maps

theorem SxN.setK {B : Nat} {K : Nat → Prop} {w : World} {g s q i : Nat} {d : Bd} {st : Bs} (h : SxN B K w g s d st) (hq : K q) (v : Value) : SxN B K (w.setCell ⟨q, i, none⟩ v) g s d st := by
  obtain ⟨E, F, h1, h2, h3, h4, h5⟩ := h.ex
  have hf : Fr (fun x => x = q) w (w.setCell ⟨q, i, none⟩ v) := Fr.setCell (Fr.refl (fun x => x = q) w) (.inl rfl) v
  exact ⟨⟨E, F, h1.frame hf (fun x hx e => (h4 x hx).2 (by rw [e]; exact hq)), h2.frame hf (fun x hx e => (h5 x hx).2 (by rw [e]; exact hq)), h3, h4, h5⟩, fun x hx => Nat.lt_of_lt_of_le (h.kl x hx) hf.size, Nat.le_trans h.bs hf.size⟩
theorem stLoad_S {B : Nat} {K : Nat → Prop} {w : World} {s g : Nat} {d : Bd} {st : Bs} (h : SxN B K w g s d st) (h0 : st.cnt ≠ 0) : Calls Try.prog 16 #[.pointer (some ⟨s, 0, none⟩)] w fun e w' => ∃ v, e = .returned (.tuple #[v, .int .i64 0]) ∧ w'.ownsRow w.heap.size 5 1 v st.data.length (st.data.map bV) ∧ Below w.heap.size w w' := by
  obtain ⟨E, F, h1, _⟩ := h.ex
  exact stLoad_any h1 h0
theorem own_blk0 {w : World} {base n : Nat} {v : Value} {l : List UInt8} (h : w.ownsRow base 5 1 v n (l.map bV)) (hn : 0 < n) : ∃ q c, v = .slice (some ⟨q, 0, none⟩) n c ∧ base ≤ q ∧ q < w.heap.size ∧ RdB w (some ⟨q, 0, none⟩) n c l ∧ (∃ z, w.cell? ⟨q, 0, none⟩ = some (.int .u8 z)) ∧ w.frozen? ⟨q, 0, none⟩ = false := by
  obtain ⟨q, c, r, rfl, hq, hB, hl, hc, hm⟩ := own_rdb h hn
  refine ⟨q, c, rfl, hq, hB.lt, RdB.blk r hB hl hc hm, ?_, hB.frozen 0⟩
  rcases l with _ | ⟨x, l⟩
  · simp at hl; omega
  · exact ⟨_, hB.cell 0⟩
set_option maxRecDepth 100000 in
set_option maxHeartbeats 4000000 in
theorem keeps_main {n1 cap1 n2 cap2 : Nat} {a1 a2 : Option Addr} {l : List UInt8} {picks : List Int} (w : World) (hp : RdB w a1 n1 cap1 l) (h0 : n1 ≠ 0) (h20 : n1 ≤ 2000) (hq : RdI w a2 n2 cap2 picks) (h10 : n2 ≤ 10) :
    Calls Try.prog 4 #[.slice a1 n1 cap1, .slice a2 n2 cap2] w fun e w' => e = .returned (.bool true) ∧ Below w.heap.size w w' := by
  have HP := Lib.hid hp; have HQ := Lib.hid hq; have H20 := Lib.hid h20; have HR0 := Lib.hid run0; have HLN := Lib.hid hp.hlen
  have HN0 : Hid (0 < n1) := Lib.hid (by omega)
  have z_n1 : ((n1 : Int) == 0) = false := by rw [beq_eq_false_iff_ne]; omega
  have y_n1 : (n1 == 0) = false := by rw [beq_eq_false_iff_ne]; omega
  have d_n1 : decide ((2000 : Int) < (n1 : Int)) = false := decide_eq_false (by omega)
  have e_n1 : decide (2000 < n1) = false := decide_eq_false (by omega)
  have d_n2 : decide ((10 : Int) < (n2 : Int)) = false := decide_eq_false (by omega)
  have e_n2 : decide (10 < n2) = false := decide_eq_false (by omega)
  have hn63 : (n1 : Int) ≤ 2000 := by omega
  have hn64 : (0 : Int) < (n1 : Int) := by omega
  have HRS : Hid ((saveP d0 st0 l).2.2 = 0 ∧ (saveP d0 st0 l).2.1 = ⟨0, 1, l, false⟩ ∧ Run 101 (saveP d0 st0 l).1 ⟨0, 1, l, false⟩) := Lib.hid (by have h := run0.1.save (l := l) run0.2 (by rw [hp.hlen]; omega) (by decide); exact ⟨h.1, h.2.1, h.2.2.1⟩)
  have HP0 : Hid (64 ≤ d0.good.length ∧ d0.good.length ≤ 1000 ∧ d0.ops + 1000 < 1000000 ∧ d0.left ≤ 9223372036854775807 ∧ st0.cnt + 1 < 1000000) := Lib.hid ⟨by rw [run0.1.len]; omega, by rw [run0.1.len]; omega, by have := run0.1.ops; omega, run0.1.left, by decide⟩
  obtain ⟨dA, hdA⟩ : ∃ dA, dA = (saveP d0 st0 l).1 := ⟨_, rfl⟩
  have HDA := Lib.hid hdA
  have hRA : Run 101 dA ⟨0, 1, l, false⟩ := by rw [hdA]; exact HRS.out.2.2
  have HPA : Hid (0 < dA.good.length ∧ dA.good.length ≤ 1000 ∧ dA.ops < 1000000) := Lib.hid ⟨by rw [hRA.len]; omega, by rw [hRA.len]; omega, by have := hRA.ops; omega⟩
  obtain ⟨dC, hdC⟩ : ∃ dC, dC = dA.crash picks := ⟨_, rfl⟩
  have HDC := Lib.hid hdC
  have HGC : Hid (Gs dC 0 1 l ∧ dC.good.length ≤ 1000 ∧ dC.ops < 1000000 ∧ dC.left ≤ 9223372036854775807 ∧ dC.flushC = 0) := Lib.hid (by rw [hdC]; exact ⟨hRA.gs.crash _, by rw [Bd.crash_len, hRA.len]; omega, by show (0 : Nat) < 1000000; omega, by show (0 : Int) ≤ 9223372036854775807; omega, (crash_on _ _).flushC⟩)
  have HHP : Hid (holdsP ⟨0, 1, l, false⟩ l 1 = true) := Lib.hid (by unfold holdsP; rw [if_neg (by omega)]; simp)
  have hqq : ((bs l).toList == (bs l).toList) = true := by simp
  clear hp hq h0 h20 h10 hdA hdC hRA
  go_enter Try.func4, Try.ntmps4
  go_upto_region 6 with (go_at_call 10; (with_reducible refine (stFresh_any _).mono ?_); rintro e w1 ⟨g, s, rfl, hS, hb⟩; have HS := Lib.hid hS; have HB := Lib.hid hb; clear hS hb)
  clear d_n1 e_n1 d_n2 e_n2 z_n1 y_n1
  go_upto_region 7 with (at_builtin; go_must (refine app_bytes _ rfl (.tmp 34) (.tmp 35) rfl w1.heap.size _ 0 [] rfl (own_none w1 5 w1.heap.size (Nat.le_refl _)) _ _ _ l rfl (by exact HP.out.below (Below.call HB.out ((Below.refl _ _).alloc (Nat.le_refl _) _))) (by omega) (by simp) w1 (by exact (Below.refl _ _).alloc (Nat.le_refl _) _) ?_; intro v1 w2 hown hb1; rw [Nat.zero_add, List.nil_append] at hown; obtain ⟨C, cC, rfl, hgC, hCl, hrC, ⟨zC, hcC⟩, hfC⟩ := own_blk0 hown HN0.out; have HB2 := Lib.hid (HB.out.trans (hb1.mono HB.out.size)); have HRC := Lib.hid hrC; have HCC := Lib.hid hcC; have HFC := Lib.hid hfC; have HS2 := Lib.hid (HS.out.keep (K' := onlyK C) hb1 (fun x hx => .inr (by cases hx; exact ⟨hgC, hCl⟩))); have HCW := Lib.hid (And.intro (Nat.le_trans HB.out.size hgC) hCl); clear hown hb1 hgC hCl hrC hcC hfC))
  have hv1 := conv_any HRC.out
  clear hv1
  go_upto_region 9 with (go_at_call 13; go_must (refine (stSave_new HS2.out HRC.out (fun p hp => by cases hp; rfl) HP0.out.1 HP0.out.2.1 HP0.out.2.2.1 HP0.out.2.2.2.1 HP0.out.2.2.2.2).mono ?_; rw [HRS.out.1, HRS.out.2.1, ← HDA.out]; rintro e w3 ⟨rfl, hS, hO⟩; have HS3 := Lib.hid hS; have HB3 := Lib.hid (HB2.out.trans (hO.below HB2.out.size)); have hr3 := hO.rd HRC.out (fun p hp => by cases hp; rfl); have hv1 := conv_any hr3; have hv2 := conv_any (HP.out.below HB3.out); have hcc3 := (hO.cell (p := ⟨C, 0, none⟩) HCW.out.2 (fun hx => hx.2 rfl)).trans HCC.out; have hff3 := (hO.frozen (p := ⟨C, 0, none⟩) HCW.out.2 (fun hx => hx.2 rfl)).trans HFC.out; clear hS hO hr3))
  clear hv1 hv2
  obtain ⟨zD, hzD⟩ : ∃ zD, IntKind.u8.wrap (zC + 1) = zD := ⟨_, rfl⟩
  go_upto_region 10 with fail
  have HS4 := Lib.hid (HS3.out.setK (i := 0) (q := C) rfl (.int .u8 zD))
  have HB4 : Hid (Below w.heap.size w (w3.setCell ⟨C, 0, none⟩ (.int .u8 zD))) := Lib.hid (HB3.out.setCell HCW.out.1 _)
  clear hcc3 hff3 hzD
  generalize w3.setCell ⟨C, 0, none⟩ (.int .u8 zD) = w4 at *
  go_upto_region 13 with (go_at_call 16; go_must (refine (stLoad_S HS4.out (by show 1 ≠ 0; omega)).mono ?_; rintro e w5 ⟨v5, rfl, ho, hb⟩; rw [HLN.out] at ho; obtain ⟨X, cX, rfl, hgX, hXl, hrX, ⟨zX, hcX⟩, hfX⟩ := own_blk0 ho HN0.out; have HB5 := Lib.hid hb; have hv1 := conv_any hrX; have hv2 := conv_any (HP.out.below (Below.call HB4.out hb)); have HGX := Lib.hid hgX; clear ho hb hrX hgX))
  clear hv1 hv2
  obtain ⟨zY, hzY⟩ : ∃ zY, IntKind.u8.wrap (zX + 1) = zY := ⟨_, rfl⟩
  go_upto_region 14 with fail
  have HB6 : Hid (Below w4.heap.size w4 (w5.setCell ⟨X, 0, none⟩ (.int .u8 zY))) := Lib.hid (HB5.out.setCell HGX.out _)
  clear hcX hfX hzY hXl
  generalize w5.setCell ⟨X, 0, none⟩ (.int .u8 zY) = w6 at *
  have HS6 := Lib.hid (HS4.out.later HB6.out)
  have HW6 := Lib.hid (Below.call HB4.out HB6.out)
  go_upto_region 15 with (first
    | (go_at_call 17; go_must (refine (bCrash_fresh HS6.out.dx HPA.out.1 HPA.out.2.1 HPA.out.2.2 (HQ.out.below HW6.out)).mono ?_; rw [← HDC.out]; rintro e w7 ⟨g7, rfl, hD, hb⟩; have HD7 := Lib.hid hD; have HB7 := Lib.hid hb; clear hD hb))
    | (go_at_call 14; go_must (refine (stOpen_new HD7.out HGC.out.1 HGC.out.2.1 HGC.out.2.2.1 HGC.out.2.2.2.1 HGC.out.2.2.2.2).mono ?_; rintro e w9 ⟨s9, rfl, hS, hO⟩; have HS9 := Lib.hid hS; have HB9 := Lib.hid (HB7.out.trans (hO.below HB7.out.size)); clear hS hO)))
  have HSo := Lib.hid (HS6.out.later HB9.out)
  have HRb := Lib.hid (HP.out.below (Below.call HW6.out HB9.out))
  go_wp2_with (first
    | (go_at_call 15; (with_reducible refine (stHolds_S 1 1 z1 true HHP.out HSo.out HRb.out).mono ?_); rintro e wa ⟨rfl, hb⟩; have HSt := Lib.hid (HS9.out.later hb); have HRb2 := Lib.hid (HRb.out.below hb); have HBa := Lib.hid (HB9.out.trans (hb.mono HB9.out.size)); clear hb)
    | (go_at_call 15; (with_reducible refine (stHolds_S 1 1 z1 true HHP.out HSt.out HRb2.out).mono ?_); rintro e wb ⟨rfl, hb⟩; have HBb := Lib.hid (HBa.out.trans (hb.mono HBa.out.size)); clear hb)
    | (go_at_call 9; (with_reducible refine (stAwake_any _).mono ?_); rintro e w8 ⟨rfl, hb⟩; have HB8 := Lib.hid (Below.call HBb.out hb); clear hb))
  go_ret
  exact ⟨rfl, Below.call HW6.out HB8.out⟩
set_option maxRecDepth 100000 in
set_option maxHeartbeats 1000000 in
theorem keeps_big {n1 cap1 n2 cap2 : Nat} {a1 a2 : Option Addr} (w : World) (h : n1 = 0 ∨ 2000 < n1 ∨ 10 < n2) :
    Calls Try.prog 4 #[.slice a1 n1 cap1, .slice a2 n2 cap2] w fun e w' => e = .returned (.bool true) ∧ Below w.heap.size w w' := by
  by_cases h0 : n1 = 0
  · have z_n1 : ((n1 : Int) == 0) = true := by have h0 : n1 = 0 := (by omega); simp [h0]
    have y_n1 : (n1 == 0) = true := by simp; omega
    clear h h0
    go_enter Try.func4, Try.ntmps4
    go_wp2_with (go_at_call 9; (with_reducible refine (stAwake_any _).mono ?_); rintro e w1 ⟨rfl, hb⟩)
    go_ret
    exact ⟨rfl, hb⟩
  have z_n1 : ((n1 : Int) == 0) = false := by rw [beq_eq_false_iff_ne]; omega
  have y_n1 : (n1 == 0) = false := by rw [beq_eq_false_iff_ne]; omega
  replace h : 2000 < n1 ∨ 10 < n2 := by omega
  clear h0
  by_cases h1 : 2000 < n1
  · have d_n1 : decide ((2000 : Int) < (n1 : Int)) = true := decide_eq_true (by omega)
    have e_n1 : decide (2000 < n1) = true := decide_eq_true (by omega)
    clear h h1
    go_enter Try.func4, Try.ntmps4
    go_wp2_with (go_at_call 9; (with_reducible refine (stAwake_any _).mono ?_); rintro e w1 ⟨rfl, hb⟩)
    go_ret
    exact ⟨rfl, hb⟩
  have d_n1 : decide ((2000 : Int) < (n1 : Int)) = false := decide_eq_false (by omega)
  have e_n1 : decide (2000 < n1) = false := decide_eq_false (by omega)
  replace h : 10 < n2 := by omega
  clear h1
  have d_n2 : decide ((10 : Int) < (n2 : Int)) = true := decide_eq_true (by omega)
  have e_n2 : decide (10 < n2) = true := decide_eq_true (by omega)
  clear h
  go_enter Try.func4, Try.ntmps4
  go_wp2_with (go_at_call 9; (with_reducible refine (stAwake_any _).mono ?_); rintro e w1 ⟨rfl, hb⟩)
  go_ret
  exact ⟨rfl, hb⟩
theorem storeKeeps_any {n1 cap1 n2 cap2 : Nat} {a1 a2 : Option Addr} {l : List UInt8} {picks : List Int} (w : World) (hp : RdB w a1 n1 cap1 l) (hq : RdI w a2 n2 cap2 picks) :
    Calls Try.prog 4 #[.slice a1 n1 cap1, .slice a2 n2 cap2] w fun e w' => e = .returned (.bool true) ∧ Below w.heap.size w w' := by
  by_cases h : n1 = 0 ∨ 2000 < n1 ∨ 10 < n2
  · exact keeps_big w h
  · exact keeps_main w hp (by omega) (by omega) hq (by omega)
namespace storeKeepsDone
theorem own : ownKnob Try.prog.godebug = none := by kernel_rfl
theorem laidOut : laidOutB Try.prog = true := by kernel_rfl
set_option maxRecDepth 100000 in
theorem lifted (os : Os) (started : os.Started) (H : Type) (enc : TypeId × Value → H) :
    ReturnsInHanded {} Try.checked os 4 .any (Rows.storeKeepsSpec.pre6 enc Try.prog Try.f4 Rows.storeKeepsRow.domain false) (Rows.storeKeepsSpec.post enc Try.prog Try.f4 false true false false) := by
  refine returnsInHanded_of_change (C := Try.checked) own started (by kernel_rfl) Try.func4
    (ChangeSpec.witness6 (enc := enc) (C := Try.checked) false ⟨#[], #[.slice none 0 0, .slice none 0 0], []⟩ 8 (by kernel_rfl) (by kernel_rfl) (by kernel_rfl) (by kernel_rfl)) ?_
  intro W base args ds gs before hval0 hW hcnd _
  have hval : ∀ (j : Nat) t v, Try.f4.params[j]? = some t → args[j]? = some v → Value.okWide Try.prog W .any base t v := hval0
  have hW' := hW
  obtain ⟨p, q, hA0, hV, rfl, hfz, hnd⟩ := hW
  have hA : DataW.TrodAll enc Try.prog W 0 (fun _ => true) true Try.f4.params.toList args.toList ds p := hA0
  rw [Try.params4] at hA hval
  obtain ⟨v0, vs0, d0, ds0, p0, q0, hargs, rfl, rfl, h0, r0⟩ := trodAll_cons hA
  obtain ⟨v1, vs1, d1, ds1, p1, q1, rfl, rfl, rfl, h1, r1⟩ := trodAll_cons r0
  obtain ⟨rfl, rfl, rfl⟩ := trodAll_nil r1
  obtain rfl : args = #[v0, v1] := by cases args; simp_all
  obtain ⟨rfl, rfl⟩ := trodVars_none hV
  obtain ⟨a0, len0, cap0, rfl⟩ := okWide_slice Try.underlying28 (hval 0 28 v0 rfl rfl)
  have k0 := h0
  have lt0 : ∀ x ∈ p0, x.block < W.heap.size := by obtain ⟨m, hm⟩ := k0; exact DataW.trod_lt m _ _ _ hm
  obtain ⟨l0, w0⟩ : ∃ l, RdB W a0 len0 cap0 l := by
    obtain ⟨fuel, hf⟩ := h0
    rcases open_ints Try.underlying28 Try.underlying5 (by kernel_rfl) hf with ⟨hcs, _⟩ | ⟨x, l, c, zs, hcs, _, hl, hm, hz, _, hcell, hwz⟩
    · simp [Value.cells] at hcs
      obtain ⟨rfl, rfl, rfl⟩ := hcs
      exact ⟨[], RdB.nil _⟩
    · simp [Value.cells] at hcs
      obtain ⟨rfl, rfl, rfl⟩ := hcs
      exact RdB.of_ints (.inr ⟨_, rfl, hl, hm, by simpa using hz, hcell, hwz⟩)
  obtain ⟨a1, len1, cap1, rfl⟩ := okWide_slice Try.underlying22 (hval 1 22 v1 rfl rfl)
  have k1 := h1
  have lt1 : ∀ x ∈ p1, x.block < W.heap.size := by obtain ⟨m, hm⟩ := k1; exact DataW.trod_lt m _ _ _ hm
  obtain ⟨l1, w1⟩ : ∃ l, RdI W a1 len1 cap1 l := by
    obtain ⟨fuel, hf⟩ := h1
    rcases open_ints Try.underlying22 Try.underlying3 (by kernel_rfl) hf with ⟨hcs, _⟩ | ⟨x, l, c, zs, hcs, _, hl, hm, hz, _, hcell, hwz⟩
    · simp [Value.cells] at hcs
      obtain ⟨rfl, rfl, rfl⟩ := hcs
      exact ⟨[], RdI.nil _⟩
    · simp [Value.cells] at hcs
      obtain ⟨rfl, rfl, rfl⟩ := hcs
      exact RdI.of_ints (.inr ⟨_, rfl, hl, hm, by simpa using hz, hcell, hwz⟩)
  clear hA0 hval0
  refine (storeKeeps_any W w0 w1).mono fun e W' ⟨he, bel⟩ => ?_
  subst he
  exact ⟨_, rfl, _, _, _, [], _, [], hW', trodAll_mk1 (shut_bool Try.underlying4 _), (trodAll_cons_mk (Below.trod laidOut (by kernel_rfl) (of_decide_eq_true (by kernel_rfl)) k0 bel lt0) (trodAll_cons_mk (Below.trod laidOut (by kernel_rfl) (of_decide_eq_true (by kernel_rfl)) k1 bel lt1) trodAll_mk0)), rfl, bel.frame _, fun h => by cases h⟩
theorem over : Rows.storeKeepsRow.holds Try.pinned (OpenSpec.ofChange Rows.storeKeepsSpec) :=
  OpenClaim.holds_of_wide 4 Try.f4 rfl rfl rfl rfl rfl rfl rfl ⟨rfl, rfl, rfl, rfl, rfl⟩ rfl rfl rfl rfl rfl (by kernel_rfl) Try.func4 (by kernel_rfl)
    (of_decide_eq_true (by kernel_rfl)) (by unfold Func.isWrapper; first | (rw [if_pos (by decide +kernel)]; kernel_rfl) | (rw [if_neg (by decide +kernel)]; exact ⟨rfl, rfl⟩))
    (fun os started H enc _ => lifted os started H enc)
theorem proved : Rows.StoreKeepsSaid := over
#print axioms proved
end storeKeepsDone

end Go.Proofs.Ytogjbhkhdccahaa
