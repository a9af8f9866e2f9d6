/- Of chapter 15, BlockPlays: for every input the law returns true, and each argument reads behind the call as it read before. No condition. -/
import Derived.Test.YtgehbchaamilhaaZBKC
import Derived.ProofKit
import Derived.ShutString
import Derived.ChangeOld
namespace Go.Proofs.Ytgehbchaamilhaa
open Go Go.ChangeShapes Go.WideShapes Go.ChangeAt Go.RowKit Go.Maps

set_option maxRecDepth 100000 in
set_option maxHeartbeats 4000000 in
theorem plays_main {N n1 cap1 n2 cap2 : Nat} {a1 a2 : Option Addr} {l : List (Int × Int × Int)} {picks : List Int} (w : World) (h0 : 0 < N) (hN : N ≤ 20) (hs : RdSt w a1 n1 cap1 l) (h80 : n1 ≤ 80) (hp : RdI w a2 n2 cap2 picks) (h30 : n2 ≤ 30) :
    Calls Try.prog 5 #[.int .i64 (N : Int), .slice a1 n1 cap1, .slice a2 n2 cap2] w fun e w' => e = .returned (.bool true) ∧ Below w.heap.size w w' := by
  have HS := Lib.hid hs; have HP := Lib.hid hp; have H0 := Lib.hid h0; have HN := Lib.hid hN; have H80 := Lib.hid h80
  have d1 : decide ((20 : Int) < (N : Int)) = false := decide_eq_false (by omega)
  have d2 : decide ((80 : Int) < (n1 : Int)) = false := decide_eq_false (by omega)
  have d3 : decide ((30 : Int) < (n2 : Int)) = false := decide_eq_false (by omega)
  have d4 : decide (20 < N) = false := decide_eq_false (by omega)
  have d5 : decide (80 < n1) = false := decide_eq_false (by omega)
  have d6 : decide (30 < n2) = false := decide_eq_false (by omega)
  have hn63 : (n1 : Int) ≤ 80 := by omega
  clear hs hp h0 hN h80 h30
  go_enter Try.func5, Try.ntmps5
  go_wp2_with (first
    | (go_at_call 9; (with_reducible refine (bNew_any H0.out (by have := HN.out; omega)).mono ?_); rintro e w1 ⟨g, F, rfl, hD, hF, hb1⟩; have HD := Lib.hid hD; have HF := Lib.hid hF; have HB1 := Lib.hid hb1; clear hD hF hb1)
    | (go_at_call 16; (with_reducible refine (dNew_any H0.out (by have := HN.out; omega)).mono ?_); rintro e w2 ⟨m, FM, S, rfl, hM, hFM, hS, hb2⟩; have HM := Lib.hid hM; have HFM := Lib.hid hFM; have HSM := Lib.hid hS; have HB2 := Lib.hid hb2; clear hM hFM hS hb2))
  have HLEN : Hid ((Bd.new N).good.length = N) := Lib.hid List.length_replicate
  have HTW : Hid (TwN w.heap.size w2 g m (Bd.new N)) := Lib.hid (by
    have h1 := HB1.out.size
    exact ⟨F, FM, S, ⟨HD.out.later HB2.out, HM.out, fun x hx => ⟨fun h => by have := HD.out.lt x hx; have := HFM.out x h; omega, fun h => by have := HD.out.lt x hx; have := HSM.out x h; omega⟩⟩, HF.out, fun x hx => Nat.le_trans h1 (HFM.out x hx), fun x hx => Nat.le_trans h1 (HSM.out x hx)⟩)
  have HB12 := Lib.hid (Below.call HB1.out HB2.out)
  clear d1 d2 d3 d4 d5 d6
  go_loopw [11] (fun iv wr => ∃ i : Nat, i ≤ n1 ∧ iv = .int .i64 i ∧ TwN w.heap.size wr g m ((Bd.new N).steps (l.take i)) ∧ Below w.heap.size w wr) (fun iv _ => n1 - (intOf iv).toNat)
  case atStart => exact ⟨0, Nat.zero_le _, rfl, HTW.out, HB12.out⟩
  case round =>
    obtain ⟨i, hi, rfl, hT, hbw⟩ := hrel
    have HT := Lib.hid hT; have HBW := Lib.hid hbw
    have hi8 : (i : Int) ≤ 80 := by omega
    have hi0 : (0 : Int) ≤ (i : Int) := by omega
    have hiw : IntKind.i64.wrap ((i : Int) + 1) = ((i + 1 : Nat) : Int) := by rw [IntKind.wrap_i64]; omega
    by_cases hlt : i < n1
    · have hi1 : (i : Int) < (n1 : Int) := by omega
      obtain ⟨s, hs⟩ : ∃ s, l[i]? = some s := ⟨_, List.getElem?_eq_getElem (by rw [HS.out.hlen]; exact hlt)⟩
      obtain ⟨b, o, rfl, hrg⟩ := (HS.out.below HBW.out).get i s hs
      have HST := Lib.hid (Bd.steps_snoc (Bd.new N) l i s hs)
      have HK : Hid (-9223372036854775808 ≤ s.2.1) := Lib.hid (HS.out.wf s (List.mem_of_getElem? hs)).1
      have HL1 : Hid (((Bd.new N).steps (l.take i)).good.length = N) := Lib.hid (by rw [Bd.steps_len]; exact HLEN.out)
      have HO1 : Hid (((Bd.new N).steps (l.take i)).ops < 1000000) := Lib.hid (by have := (Bd.new N).steps_ops (l.take i); rw [List.length_take] at this; have h : (Bd.new N).ops = 0 := rfl; omega)
      have HF1 : Hid (((Bd.new N).steps (l.take i)).left ≤ 9223372036854775807) := Lib.hid (Bd.steps_left _ _ (by show (0 : Int) ≤ _; omega) (fun t ht => HS.out.wf t (List.mem_of_mem_take ht)))
      have HLT := Lib.hid hlt
      clear hT hbw hlt hi hs
      go_wp2_with (first
        | (refine wpList_load_mid rfl 42 (.tmp 59) rfl b (o + i * 3) rfl [.int .i64 s.1, .int .i64 s.2.1, .int .i64 s.2.2] _ hrg Try.underlying42 rfl infoStep ?_)
        | (go_at_call 17; (with_reducible refine (bDoes_new HT.out HBW.out.size (by rw [HL1.out]; exact H0.out) (by rw [HL1.out]; have := HN.out; omega) HO1.out HF1.out HK.out).mono ?_); rintro e w6 ⟨rfl, hT6, hb6⟩; rw [← HST.out] at hT6; have HT6 := Lib.hid hT6; have HB6 := Lib.hid (HBW.out.trans hb6); clear hT6 hb6))
      go_roundw
      case rel => exact ⟨i + 1, by have := HLT.out; omega, by go_num, HT6.out, HB6.out⟩
      case measure => have := HLT.out; simp [intOf]; omega
    · obtain rfl : i = n1 := by omega
      obtain ⟨d, hd⟩ : ∃ d, d = (Bd.new N).steps (l.take i) := ⟨_, rfl⟩
      have HL1 : Hid (d.good.length = N) := Lib.hid (by rw [hd, Bd.steps_len]; exact HLEN.out)
      have HO1 : Hid (d.ops < 1000000) := Lib.hid (by have := (Bd.new N).steps_ops (l.take i); rw [List.length_take] at this; have h : (Bd.new N).ops = 0 := rfl; rw [hd]; omega)
      rw [← hd] at HT
      have HP1 := Lib.hid (HP.out.below HBW.out)
      have HPOS : Hid (0 < d.good.length ∧ d.good.length ≤ 1000) := Lib.hid (by rw [HL1.out]; have := HN.out; have := H0.out; omega)
      obtain ⟨F, FM, S, hTT, hF, hFM, hS⟩ := HT.out.ex
      have HTT := Lib.hid hTT
      clear hT hbw hlt hi hd hTT hF hFM hS
      go_wp2_with (first
        | (go_at_call 13; (with_reducible refine (bCrash_any HTT.out.dv HPOS.out.1 HPOS.out.2 HO1.out HP1.out).mono ?_); rintro e w6 ⟨g6, F6, rfl, hD6, hF6, hb6⟩; have HD6 := Lib.hid hD6; have HB6 := Lib.hid hb6; clear hD6 hF6 hb6)
        | (go_at_call 18; (with_reducible refine (bShows_any (HTT.out.later HB6.out) HPOS.out.1 HPOS.out.2).mono ?_); rintro e w7 ⟨rfl, hb7⟩; have HB7 := Lib.hid (Below.call HB6.out hb7); have HD7 := Lib.hid (HD6.out.later hb7); clear hb7)
        | (go_at_call 19; (with_reducible refine (dCrash_any (HTT.out.md.later HB7.out) HPOS.out.1 HPOS.out.2 HO1.out (HP1.out.below HB7.out)).mono ?_); rintro e w8 ⟨m8, FM8, S8, rfl, hM8, hFM8, hS8, hb8⟩; have HT8 : Hid (Tw w8 g6 m8 (d.crash picks) F6 FM8 S8) := Lib.hid ⟨HD7.out.later hb8, hM8, fun x hx => ⟨fun h => absurd (HD7.out.lt x hx) (Nat.not_lt.2 (hFM8 x h)), fun h => absurd (HD7.out.lt x hx) (Nat.not_lt.2 (hS8 x h))⟩⟩; have HB8 := Lib.hid (Below.call HB7.out hb8); clear hM8 hFM8 hS8 hb8)
        | (go_at_call 18; (with_reducible refine (bShows_any HT8.out (by rw [Bd.crash_len]; exact HPOS.out.1) (by rw [Bd.crash_len]; exact HPOS.out.2)).mono ?_); rintro e w9 ⟨rfl, hb9⟩; have HB9 := Lib.hid (Below.call HB8.out hb9); clear hb9)
        | (go_at_call 15; (with_reducible refine (bAwake_any _).mono ?_); rintro e w10 ⟨rfl, hb10⟩; have HB10 := Lib.hid (Below.call HB9.out hb10); clear hb10))
      go_ret
      exact ⟨rfl, Below.call HBW.out HB10.out⟩
set_option maxRecDepth 100000 in
set_option maxHeartbeats 1000000 in
theorem plays_big {blocks : Int} {n1 cap1 n2 cap2 : Nat} {a1 a2 : Option Addr} (w : World) (h : 20 < blocks ∨ 80 < n1 ∨ 30 < n2) :
    Calls Try.prog 5 #[.int .i64 blocks, .slice a1 n1 cap1, .slice a2 n2 cap2] w fun e w' => e = .returned (.bool true) ∧ Below w.heap.size w w' := by
  by_cases h1 : 20 < blocks
  · have d1 : decide (20 < blocks) = true := decide_eq_true h1
    clear h h1
    go_enter Try.func5, Try.ntmps5
    go_wp2_with (go_at_call 15; (with_reducible refine (bAwake_any _).mono ?_); rintro e w1 ⟨rfl, hb⟩)
    go_ret
    exact ⟨rfl, hb⟩
  · have d1 : decide (20 < blocks) = false := decide_eq_false h1
    by_cases h2 : 80 < n1
    · have d2 : decide ((80 : Int) < (n1 : Int)) = true := decide_eq_true (by omega)
      have d5 : decide (80 < n1) = true := decide_eq_true h2
      clear h h1 h2
      go_enter Try.func5, Try.ntmps5
      go_wp2_with (go_at_call 15; (with_reducible refine (bAwake_any _).mono ?_); rintro e w1 ⟨rfl, hb⟩)
      go_ret
      exact ⟨rfl, hb⟩
    · have d2 : decide ((80 : Int) < (n1 : Int)) = false := decide_eq_false (by omega)
      have d5 : decide (80 < n1) = false := decide_eq_false h2
      have d3 : decide ((30 : Int) < (n2 : Int)) = true := decide_eq_true (by omega)
      have d6 : decide (30 < n2) = true := decide_eq_true (by omega)
      clear h h1 h2
      go_enter Try.func5, Try.ntmps5
      go_wp2_with (go_at_call 15; (with_reducible refine (bAwake_any _).mono ?_); rintro e w1 ⟨rfl, hb⟩)
      go_ret
      exact ⟨rfl, hb⟩
set_option maxRecDepth 100000 in
set_option maxHeartbeats 1000000 in
theorem plays_none {blocks : Int} {n1 cap1 n2 cap2 : Nat} {a1 a2 : Option Addr} (w : World) (hb : blocks < 1) (h80 : n1 ≤ 80) (h30 : n2 ≤ 30) :
    Calls Try.prog 5 #[.int .i64 blocks, .slice a1 n1 cap1, .slice a2 n2 cap2] w fun e w' => e = .returned (.bool true) ∧ Below w.heap.size w w' := by
  have d1 : decide (20 < blocks) = false := decide_eq_false (by omega)
  have d2 : decide ((80 : Int) < (n1 : Int)) = false := decide_eq_false (by omega)
  have d3 : decide ((30 : Int) < (n2 : Int)) = false := decide_eq_false (by omega)
  have d5 : decide (80 < n1) = false := decide_eq_false (by omega)
  have d6 : decide (30 < n2) = false := decide_eq_false (by omega)
  have HB := Lib.hid hb
  clear hb h80 h30
  go_enter Try.func5, Try.ntmps5
  go_wp2_with (first
    | (go_at_call 9; (with_reducible refine (bNew_no _ (.inl HB.out)).mono ?_); rintro e wz ⟨rfl, rfl⟩)
    | (go_at_call 16; (with_reducible refine (dNew_no _ (.inl HB.out)).mono ?_); rintro e wz ⟨rfl, rfl⟩)
    | (go_at_call 15; (with_reducible refine (bAwake_any _).mono ?_); rintro e w1 ⟨rfl, hb⟩))
  go_ret
  exact ⟨rfl, hb⟩
theorem blockPlays_any {blocks : Int} {n1 cap1 n2 cap2 : Nat} {a1 a2 : Option Addr} {l : List (Int × Int × Int)} {picks : List Int} (w : World) (_hb : (Lit.int .i64 blocks).wf = true) (hs : RdSt w a1 n1 cap1 l) (hp : RdI w a2 n2 cap2 picks) :
    Calls Try.prog 5 #[.int .i64 blocks, .slice a1 n1 cap1, .slice a2 n2 cap2] w fun e w' => e = .returned (.bool true) ∧ Below w.heap.size w w' := by
  by_cases hbig : 20 < blocks ∨ 80 < n1 ∨ 30 < n2
  · exact plays_big w hbig
  · by_cases h1 : blocks < 1
    · exact plays_none w h1 (by omega) (by omega)
    · obtain ⟨N, rfl⟩ : ∃ N : Nat, blocks = N := ⟨blocks.toNat, by omega⟩
      exact plays_main w (by omega) (by omega) hs (by omega) hp (by omega)
namespace blockPlaysDone
theorem own : ownKnob Try.prog.godebug = none := by kernel_rfl
theorem laidOut : laidOutB Try.prog = true := by kernel_rfl
set_option maxRecDepth 100000 in
theorem lifted (os : Os) (started : os.Started) (H : Type) (enc : TypeId × Value → H) :
    ReturnsInHanded {} Try.checked os 5 .any (Rows.blockPlaysSpec.pre6 enc Try.prog Try.f5 Rows.blockPlaysRow.domain false) (Rows.blockPlaysSpec.post enc Try.prog Try.f5 false true false false) := by
  refine returnsInHanded_of_change (C := Try.checked) own started (by kernel_rfl) Try.func5
    (ChangeSpec.witness6 (enc := enc) (C := Try.checked) false ⟨#[], #[.int .i64 0, .slice none 0 0, .slice none 0 0], []⟩ 8 (by kernel_rfl) (by kernel_rfl) (by kernel_rfl) (by kernel_rfl)) ?_
  intro W base args ds gs before hval0 hW hcnd _
  have hval : ∀ (j : Nat) t v, Try.f5.params[j]? = some t → args[j]? = some v → Value.okWide Try.prog W .any base t v := hval0
  have hW' := hW
  obtain ⟨p, q, hA0, hV, rfl, hfz, hnd⟩ := hW
  have hA : DataW.TrodAll enc Try.prog W 0 (fun _ => true) true Try.f5.params.toList args.toList ds p := hA0
  rw [Try.params5] at hA hval
  obtain ⟨v0, vs0, d0, ds0, p0, q0, hargs, rfl, rfl, h0, r0⟩ := trodAll_cons hA
  obtain ⟨v1, vs1, d1, ds1, p1, q1, rfl, rfl, rfl, h1, r1⟩ := trodAll_cons r0
  obtain ⟨v2, vs2, d2, ds2, p2, q2, rfl, rfl, rfl, h2, r2⟩ := trodAll_cons r1
  obtain ⟨rfl, rfl, rfl⟩ := trodAll_nil r2
  obtain rfl : args = #[v0, v1, v2] := by cases args; simp_all
  obtain ⟨rfl, rfl⟩ := trodVars_none hV
  obtain ⟨a0, rfl, rfl, rfl, w0⟩ := open_int Try.underlying3 (hval 0 3 v0 rfl rfl) h0
  obtain ⟨a1, len1, cap1, rfl⟩ := okWide_slice Try.underlying36 (hval 1 36 v1 rfl rfl)
  have k1 := h1
  have lt1 : ∀ x ∈ p1, x.block < W.heap.size := by obtain ⟨m, hm⟩ := k1; exact DataW.trod_lt m _ _ _ hm
  obtain ⟨l1, w1⟩ : ∃ l, RdSt W a1 len1 cap1 l := by
    obtain ⟨fuel, hf⟩ := h1
    exact open_steps hf
  obtain ⟨a2, len2, cap2, rfl⟩ := okWide_slice Try.underlying37 (hval 2 37 v2 rfl rfl)
  have k2 := h2
  have lt2 : ∀ x ∈ p2, x.block < W.heap.size := by obtain ⟨m, hm⟩ := k2; exact DataW.trod_lt m _ _ _ hm
  obtain ⟨l2, w2⟩ : ∃ l, RdI W a2 len2 cap2 l := by
    obtain ⟨fuel, hf⟩ := h2
    rcases open_ints Try.underlying37 Try.underlying3 (by kernel_rfl) hf with ⟨hcs, _⟩ | ⟨x, l, c, zs, hcs, _, hl, hm, hz, _, hcell, hwz⟩
    · simp [Value.cells] at hcs
      obtain ⟨rfl, rfl, rfl⟩ := hcs
      exact ⟨[], RdI.nil _⟩
    · simp [Value.cells] at hcs
      obtain ⟨rfl, rfl, rfl⟩ := hcs
      exact RdI.of_ints (.inr ⟨_, rfl, hl, hm, by simpa using hz, hcell, hwz⟩)
  clear hA0 hval0
  refine (blockPlays_any W w0 w1 w2).mono fun e W' ⟨he, bel⟩ => ?_
  subst he
  exact ⟨_, rfl, _, _, _, [], _, [], hW', trodAll_mk1 (shut_bool Try.underlying4 _), (trodAll_cons_mk (shut_int Try.underlying3 w0) (trodAll_cons_mk (Below.trod laidOut (by kernel_rfl) (of_decide_eq_true (by kernel_rfl)) k1 bel lt1) (trodAll_cons_mk (Below.trod laidOut (by kernel_rfl) (of_decide_eq_true (by kernel_rfl)) k2 bel lt2) trodAll_mk0))), rfl, bel.frame _, fun h => by cases h⟩
theorem over : Rows.blockPlaysRow.holds Try.pinned (OpenSpec.ofChange Rows.blockPlaysSpec) :=
  OpenClaim.holds_of_wide 5 Try.f5 rfl rfl rfl rfl rfl rfl rfl ⟨rfl, rfl, rfl, rfl, rfl⟩ rfl rfl rfl rfl rfl (by kernel_rfl) Try.func5 (by kernel_rfl)
    (of_decide_eq_true (by kernel_rfl)) (by unfold Func.isWrapper; first | (rw [if_pos (by decide +kernel)]; kernel_rfl) | (rw [if_neg (by decide +kernel)]; exact ⟨rfl, rfl⟩))
    (fun os started H enc _ => lifted os started H enc)
theorem proved : Rows.BlockPlaysSaid := over
#print axioms proved
end blockPlaysDone

end Go.Proofs.Ytgehbchaamilhaa
