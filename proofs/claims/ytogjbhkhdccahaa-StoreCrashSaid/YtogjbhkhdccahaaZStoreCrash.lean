/- Of chapter 16, StoreCrash: for every input the law returns true, and each argument reads behind the call as it read before. No condition. -/
import Derived.Test.YtogjbhkhdccahaaZSOB
import Derived.ProofKit
import Derived.ShutString
import Derived.ChangeOld
namespace Go.Proofs.Ytogjbhkhdccahaa
open Go Go.ChangeShapes Go.WideShapes Go.ChangeAt Go.RowKit Go.Maps

/-- A store that runs till the power goes; m: what is saved; n, now: what was to be saved last. -/
structure CrI (i : Nat) (d : Bd) (st : Bs) (m n : Nat) (now : List UInt8) : Prop where
  ok : d.Ok
  len : d.good.length = 256
  ops : d.ops ≤ 100 * i + 1
  left : d.left ≤ 9223372036854775807
  cnt : st.cnt = m
  mi : m ≤ i
  cr : ∀ picks, Gs (d.crash picks) st.inn m st.data ∨ (st.off = true ∧ ∃ i', Gs (d.crash picks) i' n now)
  live : st.off = false → Gs d st.inn m st.data
theorem CrI.run {i : Nat} {d : Bd} {st : Bs} {m n : Nat} {now : List UInt8} (h : CrI i d st m n now) (ho : st.off = false) : Run (100 * i + 1) d st :=
  ⟨h.ok, by rw [h.cnt]; exact h.live ho, h.len, h.ops, h.left, ho⟩
/-- One more Save: done, or cut off. -/
theorem CrI.save {i : Nat} {d : Bd} {st : Bs} {m n : Nat} {now l : List UInt8} (h : CrI i d st m n now) (ho : st.off = false) (hl : l.length ≤ 5120) (hm : m < 1000) :
    ((saveP d st l).2.2 = 0 ∧ (saveP d st l).2.1 = ⟨1 - st.inn, m + 1, l, false⟩ ∧ CrI (i + 1) (saveP d st l).1 ⟨1 - st.inn, m + 1, l, false⟩ (m + 1) (m + 1) l) ∨
    ((saveP d st l).2.2 = 10 ∧ (saveP d st l).2.1 = ⟨st.inn, m, st.data, true⟩ ∧ CrI (i + 1) (saveP d st l).1 ⟨st.inn, m, st.data, true⟩ m (m + 1) l) := by
  have hr := h.run ho
  have h8 : rowsN l ≤ 80 := by unfold rowsN; omega
  obtain ⟨h1, h2, _⟩ := save_law hr.ok hr.gs ho (by rw [hr.len]; omega) (by rw [h.cnt]; omega)
  have hc := h.cnt; have hmi := h.mi; have h0 := h.ops; have h9 := h2.ops
  rcases h1 with ⟨e1, e2, e3⟩ | ⟨e1, e2, e3⟩
  · rw [hc] at e2 e3
    exact .inl ⟨e1, e2, h2.ok hr.ok, h2.len.trans hr.len, by omega, h2.left hr.left, rfl, by omega, fun picks => .inl (e3.crash picks), fun _ => e3⟩
  · rw [hc] at e3
    have e4 : { st with off := true } = (⟨st.inn, m, st.data, true⟩ : Bs) := by rw [← hc]
    rw [e4] at e2
    exact .inr ⟨e1, e2, h2.ok hr.ok, h2.len.trans hr.len, by omega, h2.left hr.left, rfl, by omega, fun picks => (e3 picks).imp id (fun h => ⟨rfl, _, h⟩), fun h => by cases h⟩
theorem zcast (n : Nat) : (n : Int) = ((n : Nat) : Int) := rfl
theorem holds_self {i k : Nat} {x : List UInt8} : holdsP ⟨i, k, x, false⟩ x k = true := by
  unfold holdsP
  split
  · rename_i h; simp [h]
  · simp
theorem save_offS {d : Bd} {i m : Nat} {x l : List UInt8} (h : l.length ≤ 20 * d.good.length) : saveP d ⟨i, m, x, true⟩ l = (d, ⟨i, m, x, true⟩, 10) := by unfold saveP; rw [if_neg (by omega), if_pos rfl]
/-- A device as a crash left it. -/
structure Cd (d : Bd) (i k : Nat) (x : List UInt8) : Prop where
  gs : Gs d i k x
  len : d.good.length = 256
  ops : d.ops = 0
  left : d.left = 0
  on : On d
theorem Cd.crash {d : Bd} {i k : Nat} {x : List UInt8} (hl : d.good.length = 256) (picks : List Int) (h : Gs (d.crash picks) i k x) : Cd (d.crash picks) i k x := ⟨h, (Bd.crash_len _ _).trans hl, rfl, rfl, rfl, rfl⟩
theorem Cd.next {d : Bd} {i k : Nat} {x : List UInt8} (h : Cd d i k x) (z : Int) (picks : List Int) : Cd ((d.cutAt z).flush.crash picks) i k x := Cd.crash (d := (d.cutAt z).flush) ((Bd.flush_near (d.cutAt z)).len.trans h.len) picks (((h.gs.cut z).flush).crash picks)
theorem Cd.next0 {d : Bd} {i k : Nat} {x : List UInt8} (h : Cd d i k x) (picks : List Int) : Cd (d.flush.crash picks) i k x := Cd.crash (d := d.flush) ((Bd.flush_near d).len.trans h.len) picks (h.gs.flush.crash picks)
theorem stLoad_noneS {B : Nat} {K : Nat → Prop} {w : World} {s g : Nat} {d : Bd} {st : Bs} (h : SxN B K w g s d st) (h0 : st.cnt = 0) : Calls Try.prog 16 #[.pointer (some ⟨s, 0, none⟩)] w fun e w' => e = .returned (.tuple #[.slice none 0 0, .int .i64 7]) ∧ w = w' := by
  obtain ⟨E, F, h1, _⟩ := h.ex
  exact stLoad_none h1 h0
theorem stLoad_S {B : Nat} {K : Nat → Prop} {w : World} {s g : Nat} {d : Bd} {st : Bs} (h : SxN B K w g s d st) (h0 : st.cnt ≠ 0) : Calls Try.prog 16 #[.pointer (some ⟨s, 0, none⟩)] w fun e w' => ∃ v, e = .returned (.tuple #[v, .int .i64 0]) ∧ w'.ownsRow w.heap.size 5 1 v st.data.length (st.data.map bV) ∧ Below w.heap.size w w' := by
  obtain ⟨E, F, h1, _⟩ := h.ex
  exact stLoad_any h1 h0
set_option maxRecDepth 100000 in
set_option maxHeartbeats 16000000 in
theorem crash_main {n1 cap1 n2 cap2 n3 cap3 : Nat} {a1 a2 a3 : Option Addr} {cut : Int} {l picks l3 : List Int} (w : World) (hp : RdI w a1 n1 cap1 l) (h20 : n1 ≤ 20) (hq : RdI w a2 n2 cap2 picks) (h40 : n2 ≤ 40) (hk : RdI w a3 n3 cap3 l3) (h4 : n3 ≤ 4) (h0 : 0 ≤ cut) (h5 : cut ≤ 5000) :
    Calls Try.prog 7 #[.slice a1 n1 cap1, .int .i64 cut, .slice a2 n2 cap2, .slice a3 n3 cap3] w fun e w' => e = .returned (.bool true) ∧ Below w.heap.size w w' := by
  have HP := Lib.hid hp; have HQ := Lib.hid hq; have HK := Lib.hid hk; have H20 := Lib.hid h20; have H4 := Lib.hid h4; have HR0 := Lib.hid run0
  have d_n1 : decide ((20 : Int) < (n1 : Int)) = false := decide_eq_false (by omega)
  have e_n1 : decide (20 < n1) = false := decide_eq_false (by omega)
  have d_n2 : decide ((40 : Int) < (n2 : Int)) = false := decide_eq_false (by omega)
  have e_n2 : decide (40 < n2) = false := decide_eq_false (by omega)
  have d_n3 : decide ((4 : Int) < (n3 : Int)) = false := decide_eq_false (by omega)
  have e_n3 : decide (4 < n3) = false := decide_eq_false (by omega)
  have f_cut : decide (cut < 0) = false := decide_eq_false (by omega)
  have d_cut : decide (5000 < cut) = false := decide_eq_false (by omega)
  have hn63 : (n1 : Int) ≤ 20 := by omega
  have hn64 : (n3 : Int) ≤ 4 := by omega
  obtain ⟨dX, hdX⟩ : ∃ dX, dX = d0.cutAt cut := ⟨_, rfl⟩
  have HDX := Lib.hid hdX
  have HCI0 : Hid (CrI 0 dX st0 0 0 []) := Lib.hid (by
    have hG : Gs dX 1 0 [] := by rw [hdX]; exact run0.1.gs.cut cut
    exact ⟨by rw [hdX]; exact Bd.cutAt_ok run0.1.ok _, by rw [hdX]; exact run0.1.len, by rw [hdX]; have := run0.1.ops; exact this, by rw [hdX]; show max cut 0 ≤ _; omega, rfl, Nat.le_refl _, fun picks => .inl (hG.crash picks), fun _ => hG⟩)
  clear hp hq hk h20 h40 h4 h0 h5 hdX
  go_enter Try.func7, Try.ntmps7
  go_wp2_with (first
    | (go_at_call 10; (with_reducible refine (stFresh_any _).mono ?_); rintro e w1 ⟨g, s, rfl, hS, hb⟩; have HS := Lib.hid hS; have HB := Lib.hid hb; clear hS hb)
    | (go_at_call 22; (with_reducible refine (bCut_new HS.out).mono ?_); rw [← HDX.out]; rintro e w2 ⟨rfl, hS, hO⟩; have HS2 := Lib.hid hS; have HBX := Lib.hid (HB.out.trans (hO.below HB.out.size)); clear hS hO))
  clear d_n1 e_n1 d_n2 e_n2 d_n3 e_n3 f_cut d_cut
  go_loopw [12, 13, 14, 15, 16] (fun lv bv mv nv iv wr => ∃ (i m n lc ld : Nat) (la lb : Option Addr) (d : Bd) (st : Bs) (now : List UInt8), i ≤ n1 ∧ iv = .int .i64 i ∧ mv = .int .i64 m ∧ nv = .int .i64 n ∧ lv = .slice la st.data.length lc ∧ bv = .slice lb now.length ld ∧ SxN w.heap.size (fun x => atK la x ∨ atK lb x) wr g s d st ∧ RdB wr la st.data.length lc st.data ∧ RdB wr lb now.length ld now ∧ CrI i d st m n now ∧ Below w.heap.size w wr) (fun _ _ _ _ iv _ => n1 - (intOf iv).toNat)
  case atStart => exact ⟨0, 0, 0, 0, 0, none, none, dX, st0, [], Nat.zero_le _, rfl, rfl, rfl, rfl, rfl, HS2.out.keep (K' := fun x => atK none x ∨ atK none x) (Below.refl _ _) (fun x hx => by rcases hx with ⟨p, hp, _⟩ | ⟨p, hp, _⟩ <;> cases hp), RdB.nil _, RdB.nil _, HCI0.out, HBX.out⟩
  case round =>
    obtain ⟨i, m, n, lc, ld, la, lb, d, st, now, hi, rfl, rfl, rfl, rfl, rfl, hS1, hla, hlb, hCI, hbw⟩ := hrel
    have HS1 := Lib.hid hS1; have HLA0 := Lib.hid hla; have HLB0 := Lib.hid hlb; have HCI := Lib.hid hCI; have HBW := Lib.hid hbw
    have HMI : Hid (m ≤ 20) := Lib.hid (by have := hCI.mi; omega)
    have hi8 : (i : Int) ≤ 20 := by omega
    have hi0 : (0 : Int) ≤ (i : Int) := by omega
    have hiw : IntKind.i64.wrap ((i : Int) + 1) = ((i + 1 : Nat) : Int) := by rw [IntKind.wrap_i64]; omega
    obtain ⟨sd, hsd⟩ : ∃ sd, sd = st.data := ⟨_, rfl⟩
    rw [← hsd] at HLA0
    have HSD := Lib.hid hsd
    obtain ⟨sl, hsl⟩ : ∃ sl : Nat, sl = st.data.length := ⟨_, rfl⟩
    have HSL : Hid (sd.length = sl) := Lib.hid (by rw [hsd, hsl])
    have HLA : Hid (RdB wr la sl lc sd) := Lib.hid (by rw [← HSL.out]; exact HLA0.out)
    rw [← hsl]
    obtain ⟨nl, hnl⟩ : ∃ nl : Nat, nl = now.length := ⟨_, rfl⟩
    have HNL := Lib.hid hnl
    have HLB : Hid (RdB wr lb nl ld now) := Lib.hid (by rw [hnl]; exact HLB0.out)
    rw [← hnl]
    obtain ⟨wA, rfl⟩ : ∃ wA : World, wA = wr := ⟨_, rfl⟩
    clear hsd hsl hnl hS1 hla hlb hCI hbw HLA0 HLB0
    by_cases hoff : st.off = true
    · have HOFF := Lib.hid hoff
      have hlx : decide ((i : Int) < (n1 : Int)) = decide (i < n1) := by simp
      cases hlt : decide (i < n1)
      · have hil : ¬ (i : Int) < (n1 : Int) := by have := of_decide_eq_false hlt; omega
        clear hoff hlx hi
        obtain ⟨dC, hdC⟩ : ∃ dC, dC = d.crash picks := ⟨_, rfl⟩
        have HDC := Lib.hid hdC
        obtain ⟨i1, k1, x1, hG1, hor⟩ : ∃ (i1 k1 : Nat) (x1 : List UInt8), Gs dC i1 k1 x1 ∧ ((k1 = m ∧ x1 = sd) ∨ (k1 = n ∧ x1 = now)) := by
          rw [hdC]
          rcases HCI.out.cr picks with h | ⟨ho, i', h⟩
          · exact ⟨st.inn, m, sd, by rw [HSD.out]; exact h, .inl ⟨rfl, rfl⟩⟩
          · exact ⟨i', n, now, h, .inr ⟨rfl, rfl⟩⟩
        have HC1 : Hid (Cd dC i1 k1 x1) := Lib.hid (by subst hdC; exact Cd.crash HCI.out.len picks hG1)
        have HOR := Lib.hid hor
        have HDP : Hid (0 < d.good.length ∧ d.good.length ≤ 1000 ∧ d.ops < 1000000) := Lib.hid ⟨by rw [HCI.out.len]; omega, by rw [HCI.out.len]; omega, by have := HCI.out.ops; have := H20.out; omega⟩
        have HM5 : Hid (m ≤ 20) := Lib.hid (by have := HCI.out.mi; have := H20.out; omega)
        clear hdC hG1 hor
        go_upto_region 26 with (first | (go_at_call 19; (with_reducible refine (stDead_S HS1.out).mono ?_); rw [HOFF.out]; rintro e wz ⟨rfl, rfl⟩) | (go_at_call 17; go_must (refine (bCrash_fresh HS1.out.dx HDP.out.1 HDP.out.2.1 HDP.out.2.2 (HQ.out.below HBW.out)).mono ?_; rw [← HDC.out]; rintro e wC ⟨gC, rfl, hD, hb⟩; have HDD := Lib.hid hD; have HBC := Lib.hid hb; clear hD hb)))
        clear hi8 hi0 hiw
        go_loopw [19, 20] (fun cv jv wr => ∃ (j gc B2 : Nat) (dc : Bd), j ≤ n3 ∧ jv = .int .i64 j ∧ cv = .pointer (some ⟨gc, 0, none⟩) ∧ DxN B2 noK wr gc dc ∧ wA.heap.size ≤ B2 ∧ Cd dc i1 k1 x1 ∧ Below wA.heap.size wA wr) (fun _ jv _ => n3 - (intOf jv).toNat)
        case atStart => exact ⟨0, gC, _, dC, Nat.zero_le _, rfl, rfl, HDD.out, Nat.le_refl _, HC1.out, HBC.out⟩
        case round =>
          obtain ⟨j, gc, B2, dc, hj, rfl, rfl, hD2, hB2, hC2, hbw2⟩ := hrel
          have HD2 := Lib.hid hD2; have HB2 := Lib.hid hB2; have HC2 := Lib.hid hC2; have HBW2 := Lib.hid hbw2
          have hj8 : (j : Int) ≤ 4 := by omega
          have hj0 : (0 : Int) ≤ (j : Int) := by omega
          have hjw : IntKind.i64.wrap ((j : Int) + 1) = ((j + 1 : Nat) : Int) := by rw [IntKind.wrap_i64]; omega
          have HWR := Lib.hid (HBW.out.trans (hbw2.mono HBW.out.size))
          by_cases hlt : j < n3
          · have hj1 : (j : Int) < (n3 : Int) := by omega
            obtain ⟨b3, o3, rfl, hc3⟩ := (HK.out.below HWR.out).get j (by rw [HK.out.hlen]; exact hlt)
            generalize l3[j]'(by rw [HK.out.hlen]; exact hlt) = zi at hc3
            have HLT := Lib.hid hlt
            obtain ⟨zc, hzc⟩ : ∃ zc, zi % 50 = zc := ⟨_, rfl⟩
            have HZC := Lib.hid hzc
            have HZ2 : Hid (max zc 0 ≤ 9223372036854775807) := Lib.hid (by have := Int.emod_lt_of_pos zi (show (0 : Int) < 50 by omega); omega)
            have HCUT : Hid ((dc.cutAt zc).good.length = 256 ∧ (dc.cutAt zc).ops = 0 ∧ (dc.cutAt zc).left ≤ 9223372036854775807) := Lib.hid ⟨hC2.len, hC2.ops, HZ2.out⟩
            have HFLU : Hid ((dc.cutAt zc).flush.good.length = 256 ∧ (dc.cutAt zc).flush.ops ≤ 1) := Lib.hid ⟨(Bd.flush_near _).len.trans hC2.len, by have h := (Bd.flush_near (dc.cutAt zc)).ops; have h2 := HCUT.out.2.1; omega⟩
            clear hD2 hB2 hC2 hbw2 hlt hj hzc
            go_wp2_with (first
              | (go_at_call 12; (with_reducible refine (alRound_any (by omega) (by omega)).mono ?_); rintro e wz ⟨rfl, rfl⟩; rw [HZC.out])
              | (go_at_call 22; (with_reducible refine (bCut_newD HD2.out).mono ?_); rintro e w3 ⟨rfl, hD, hO⟩; have HD3 := Lib.hid hD; have HB3 := Lib.hid (HBW2.out.trans ((hO.below HD2.out.bs).mono HB2.out)); clear hD hO)
              | (go_at_call 14; go_must (refine (stOpen_whatever HD3.out (HC2.out.gs.cut zc) (by rw [HCUT.out.1]; omega) (by rw [HCUT.out.2.1]; omega) HCUT.out.2.2).mono ?_; rintro e w4 ⟨v4, rfl, hD, hO⟩; have HD4 := Lib.hid hD; have HB4 := Lib.hid (HB3.out.trans ((hO.below HD3.out.bs).mono HB2.out)); clear hD hO))
              | (go_at_call 17; go_must (refine (bCrash_fresh HD4.out (by rw [HFLU.out.1]; omega) (by rw [HFLU.out.1]; omega) (by have := HFLU.out.2; omega) (HQ.out.below (HBW.out.trans (HB4.out.mono HBW.out.size)))).mono ?_; rintro e w5 ⟨g5, rfl, hD, hb⟩; have HD5 := Lib.hid hD; have HB5 := Lib.hid (HB4.out.trans (hb.mono HB4.out.size)); have HBS := Lib.hid HB4.out.size; clear hD hb)))
            go_roundw
            case rel => exact ⟨j + 1, g5, _, _, HLT.out, by go_num, rfl, HD5.out, HBS.out, HC2.out.next zc picks, HB5.out⟩
            case measure => have := HLT.out; simp [intOf]; omega
          · obtain rfl : j = n3 := by omega
            obtain ⟨dG, hdG⟩ : ∃ dG, dG = dc.flush.crash [] := ⟨_, rfl⟩
            have HDG := Lib.hid hdG
            have HCG : Hid (Cd dG i1 k1 x1) := Lib.hid (by rw [hdG]; exact hC2.next0 [])
            have HFL : Hid (dc.flush.good.length = 256) := Lib.hid ((Bd.flush_near _).len.trans hC2.len)
            have HFO : Hid (dc.flush.ops ≤ 1) := Lib.hid (by have h := (Bd.flush_near dc).ops; have h2 := hC2.ops; omega)
            clear hD2 hB2 hC2 hbw2 hlt hj hdG hj8 hj0 hjw
            go_upto_region 34 with (go_at_call 14; go_must (refine (stOpen_new HD2.out HC2.out.gs (by rw [HC2.out.len]; omega) (by rw [HC2.out.ops]; omega) (by rw [HC2.out.left]; omega) HC2.out.on.flushC).mono ?_; rintro e w4 ⟨s4, rfl, hS, hO⟩; have HSt := Lib.hid hS; have HB4 := Lib.hid (HBW2.out.trans ((hO.below HD2.out.bs).mono HB2.out)); clear hS hO))
            have HW4 := Lib.hid HB4.out
            have HRo := Lib.hid (HLA.out.below HW4.out); have HRn := Lib.hid (HLB.out.below HW4.out)
            cases hb1 : holdsP ⟨i1, k1, x1, false⟩ sd m with
            | true =>
              have HH1 := Lib.hid hb1
              clear hb1
              go_upto_region 36 with (first
                | (go_at_call 15; go_must (refine (stHolds_S m _ rfl true HH1.out HSt.out HRo.out).mono ?_; rintro e w5 ⟨rfl, hb⟩; have HB5 := Lib.hid hb; clear hb)))
              have HW5 := Lib.hid (HW4.out.trans (HB5.out.mono HW4.out.size))
              have HSt1 := Lib.hid (HSt.out.later HB5.out)
              by_cases hk1 : k1 = 0
              · have hk0 : (((k1 : Nat) : Int) == 0) = true := by rw [hk1]; rfl
                have hky : (k1 == 0) = true := by rw [hk1]; rfl
                have HK1 := Lib.hid hk1
                clear hk1
                go_upto_region 37 with (go_at_call 16; (with_reducible refine (stLoad_noneS HSt1.out HK1.out).mono ?_); rintro e w6 ⟨rfl, rfl⟩)
                have HB6 := Lib.hid (Below.refl w5.heap.size w5)
                have HSt2 := Lib.hid (HSt1.out.later HB6.out)
                have HW6 := Lib.hid (HW5.out.trans (HB6.out.mono HW5.out.size))
                go_upto_region 38 with (first
                  | (go_at_call 17; go_must (refine (bCrash_fresh HSt2.out.dx (by rw [HFL.out]; omega) (by rw [HFL.out]; omega) (by have := HFO.out; omega) (RdI.nil _)).mono ?_; rw [← HDG.out]; rintro e w7 ⟨g7, rfl, hD, hb⟩; have HD7 := Lib.hid hD; have HB7 := Lib.hid hb; clear hD hb))
                  | (go_at_call 14; go_must (refine (stOpen_new HD7.out HCG.out.gs (by rw [HCG.out.len]; omega) (by rw [HCG.out.ops]; omega) (by rw [HCG.out.left]; omega) HCG.out.on.flushC).mono ?_; rintro e w9 ⟨s9, rfl, hS, hO⟩; have HS9 := Lib.hid hS; have HB9 := Lib.hid (HB7.out.trans (hO.below HB7.out.size)); clear hS hO)))
                have HSt3 := Lib.hid (HSt2.out.later HB9.out)
                have HW9 := Lib.hid (HW6.out.trans (HB9.out.mono HW6.out.size))
                go_wp2_with (first
                  | (go_at_call 21; (with_reducible refine (stCount_S HS9.out).mono ?_); rintro e wz ⟨rfl, rfl⟩)
                  | (go_at_call 21; (with_reducible refine (stCount_S HSt3.out).mono ?_); rintro e wz ⟨rfl, rfl⟩)
                  | (go_at_call 9; (with_reducible refine (stAwake_any _).mono ?_); rintro e w8 ⟨rfl, hb⟩; have HB8 := Lib.hid (HW9.out.trans (hb.mono HW9.out.size)); clear hb))
                go_ret
                exact ⟨rfl, HBW.out.trans (HB8.out.mono HBW.out.size)⟩
              · have hk0 : (((k1 : Nat) : Int) == 0) = false := by rw [beq_eq_false_iff_ne]; omega
                have hky : (k1 == 0) = false := by rw [beq_eq_false_iff_ne]; omega
                have HK1 := Lib.hid hk1
                clear hk1
                go_upto_region 37 with (go_at_call 16; go_must (refine (stLoad_S HSt1.out HK1.out).mono ?_; rintro e w6 ⟨v6, rfl, ho, hb⟩; obtain ⟨a6, c6, rfl, hr6, _⟩ := own_rdw ho; have HR6 := Lib.hid hr6; have HB6 := Lib.hid hb; clear ho hb hr6))
                have HSt2 := Lib.hid (HSt1.out.later HB6.out)
                have HW6 := Lib.hid (HW5.out.trans (HB6.out.mono HW5.out.size))
                go_upto_region 38 with (first
                  | (go_at_call 17; go_must (refine (bCrash_fresh HSt2.out.dx (by rw [HFL.out]; omega) (by rw [HFL.out]; omega) (by have := HFO.out; omega) (RdI.nil _)).mono ?_; rw [← HDG.out]; rintro e w7 ⟨g7, rfl, hD, hb⟩; have HD7 := Lib.hid hD; have HB7 := Lib.hid hb; clear hD hb))
                  | (go_at_call 14; go_must (refine (stOpen_new HD7.out HCG.out.gs (by rw [HCG.out.len]; omega) (by rw [HCG.out.ops]; omega) (by rw [HCG.out.left]; omega) HCG.out.on.flushC).mono ?_; rintro e w9 ⟨s9, rfl, hS, hO⟩; have HS9 := Lib.hid hS; have HB9 := Lib.hid (HB7.out.trans (hO.below HB7.out.size)); clear hS hO)))
                have HSt3 := Lib.hid (HSt2.out.later HB9.out)
                have HW9 := Lib.hid (HW6.out.trans (HB9.out.mono HW6.out.size))
                have HR9 := Lib.hid (HR6.out.below HB9.out)
                have HHS : Hid (holdsP ⟨i1, k1, x1, false⟩ x1 k1 = true) := Lib.hid holds_self
                go_wp2_with (first
                  | (go_at_call 21; (with_reducible refine (stCount_S HS9.out).mono ?_); rintro e wz ⟨rfl, rfl⟩)
                  | (go_at_call 21; (with_reducible refine (stCount_S HSt3.out).mono ?_); rintro e wz ⟨rfl, rfl⟩)
                  | (go_at_call 15; go_must (refine (stHolds_S k1 _ rfl true HHS.out HS9.out HR9.out).mono ?_; rintro e wb ⟨rfl, hb⟩; have HWb := Lib.hid (HW9.out.trans (hb.mono HW9.out.size)); clear hb))
                  | (go_at_call 9; (with_reducible refine (stAwake_any _).mono ?_); rintro e w8 ⟨rfl, hb⟩; have HB8 := Lib.hid (HWb.out.trans (hb.mono HWb.out.size)); clear hb))
                go_ret
                exact ⟨rfl, HBW.out.trans (HB8.out.mono HBW.out.size)⟩
            | false =>
              have HH1 := Lib.hid hb1
              have HH2 : Hid (holdsP ⟨i1, k1, x1, false⟩ now n = true) := Lib.hid (by rcases HOR.out with ⟨rfl, rfl⟩ | ⟨rfl, rfl⟩; (rw [holds_self] at hb1; cases hb1); exact holds_self)
              clear hb1
              go_upto_region 36 with (first
                | (go_at_call 15; (with_reducible refine (stHolds_S m _ (zcast m) false HH1.out HSt.out HRo.out).mono ?_); rintro e wa ⟨rfl, hb⟩; have HBa := Lib.hid hb; have HSa := Lib.hid (HSt.out.later hb); have HRna := Lib.hid (HRn.out.below hb); clear hb)
                | (go_at_call 15; (with_reducible refine (stHolds_S n _ (zcast n) true HH2.out HSa.out HRna.out).mono ?_); rintro e w5 ⟨rfl, hb⟩; have HB5 := Lib.hid (Below.call HBa.out hb); clear hb))
              have HW5 := Lib.hid (HW4.out.trans (HB5.out.mono HW4.out.size))
              have HSt1 := Lib.hid (HSt.out.later HB5.out)
              by_cases hk1 : k1 = 0
              · have hk0 : (((k1 : Nat) : Int) == 0) = true := by rw [hk1]; rfl
                have hky : (k1 == 0) = true := by rw [hk1]; rfl
                have HK1 := Lib.hid hk1
                clear hk1
                go_upto_region 37 with (go_at_call 16; (with_reducible refine (stLoad_noneS HSt1.out HK1.out).mono ?_); rintro e w6 ⟨rfl, rfl⟩)
                have HB6 := Lib.hid (Below.refl w5.heap.size w5)
                have HSt2 := Lib.hid (HSt1.out.later HB6.out)
                have HW6 := Lib.hid (HW5.out.trans (HB6.out.mono HW5.out.size))
                go_upto_region 38 with (first
                  | (go_at_call 17; go_must (refine (bCrash_fresh HSt2.out.dx (by rw [HFL.out]; omega) (by rw [HFL.out]; omega) (by have := HFO.out; omega) (RdI.nil _)).mono ?_; rw [← HDG.out]; rintro e w7 ⟨g7, rfl, hD, hb⟩; have HD7 := Lib.hid hD; have HB7 := Lib.hid hb; clear hD hb))
                  | (go_at_call 14; go_must (refine (stOpen_new HD7.out HCG.out.gs (by rw [HCG.out.len]; omega) (by rw [HCG.out.ops]; omega) (by rw [HCG.out.left]; omega) HCG.out.on.flushC).mono ?_; rintro e w9 ⟨s9, rfl, hS, hO⟩; have HS9 := Lib.hid hS; have HB9 := Lib.hid (HB7.out.trans (hO.below HB7.out.size)); clear hS hO)))
                have HSt3 := Lib.hid (HSt2.out.later HB9.out)
                have HW9 := Lib.hid (HW6.out.trans (HB9.out.mono HW6.out.size))
                go_wp2_with (first
                  | (go_at_call 21; (with_reducible refine (stCount_S HS9.out).mono ?_); rintro e wz ⟨rfl, rfl⟩)
                  | (go_at_call 21; (with_reducible refine (stCount_S HSt3.out).mono ?_); rintro e wz ⟨rfl, rfl⟩)
                  | (go_at_call 9; (with_reducible refine (stAwake_any _).mono ?_); rintro e w8 ⟨rfl, hb⟩; have HB8 := Lib.hid (HW9.out.trans (hb.mono HW9.out.size)); clear hb))
                go_ret
                exact ⟨rfl, HBW.out.trans (HB8.out.mono HBW.out.size)⟩
              · have hk0 : (((k1 : Nat) : Int) == 0) = false := by rw [beq_eq_false_iff_ne]; omega
                have hky : (k1 == 0) = false := by rw [beq_eq_false_iff_ne]; omega
                have HK1 := Lib.hid hk1
                clear hk1
                go_upto_region 37 with (go_at_call 16; go_must (refine (stLoad_S HSt1.out HK1.out).mono ?_; rintro e w6 ⟨v6, rfl, ho, hb⟩; obtain ⟨a6, c6, rfl, hr6, _⟩ := own_rdw ho; have HR6 := Lib.hid hr6; have HB6 := Lib.hid hb; clear ho hb hr6))
                have HSt2 := Lib.hid (HSt1.out.later HB6.out)
                have HW6 := Lib.hid (HW5.out.trans (HB6.out.mono HW5.out.size))
                go_upto_region 38 with (first
                  | (go_at_call 17; go_must (refine (bCrash_fresh HSt2.out.dx (by rw [HFL.out]; omega) (by rw [HFL.out]; omega) (by have := HFO.out; omega) (RdI.nil _)).mono ?_; rw [← HDG.out]; rintro e w7 ⟨g7, rfl, hD, hb⟩; have HD7 := Lib.hid hD; have HB7 := Lib.hid hb; clear hD hb))
                  | (go_at_call 14; go_must (refine (stOpen_new HD7.out HCG.out.gs (by rw [HCG.out.len]; omega) (by rw [HCG.out.ops]; omega) (by rw [HCG.out.left]; omega) HCG.out.on.flushC).mono ?_; rintro e w9 ⟨s9, rfl, hS, hO⟩; have HS9 := Lib.hid hS; have HB9 := Lib.hid (HB7.out.trans (hO.below HB7.out.size)); clear hS hO)))
                have HSt3 := Lib.hid (HSt2.out.later HB9.out)
                have HW9 := Lib.hid (HW6.out.trans (HB9.out.mono HW6.out.size))
                have HR9 := Lib.hid (HR6.out.below HB9.out)
                have HHS : Hid (holdsP ⟨i1, k1, x1, false⟩ x1 k1 = true) := Lib.hid holds_self
                go_wp2_with (first
                  | (go_at_call 21; (with_reducible refine (stCount_S HS9.out).mono ?_); rintro e wz ⟨rfl, rfl⟩)
                  | (go_at_call 21; (with_reducible refine (stCount_S HSt3.out).mono ?_); rintro e wz ⟨rfl, rfl⟩)
                  | (go_at_call 15; go_must (refine (stHolds_S k1 _ rfl true HHS.out HS9.out HR9.out).mono ?_; rintro e wb ⟨rfl, hb⟩; have HWb := Lib.hid (HW9.out.trans (hb.mono HW9.out.size)); clear hb))
                  | (go_at_call 9; (with_reducible refine (stAwake_any _).mono ?_); rintro e w8 ⟨rfl, hb⟩; have HB8 := Lib.hid (HWb.out.trans (hb.mono HWb.out.size)); clear hb))
                go_ret
                exact ⟨rfl, HBW.out.trans (HB8.out.mono HBW.out.size)⟩
      · have hil : (i : Int) < (n1 : Int) := by have := of_decide_eq_true hlt; omega
        clear hoff hlx hi
        obtain ⟨dC, hdC⟩ : ∃ dC, dC = d.crash picks := ⟨_, rfl⟩
        have HDC := Lib.hid hdC
        obtain ⟨i1, k1, x1, hG1, hor⟩ : ∃ (i1 k1 : Nat) (x1 : List UInt8), Gs dC i1 k1 x1 ∧ ((k1 = m ∧ x1 = sd) ∨ (k1 = n ∧ x1 = now)) := by
          rw [hdC]
          rcases HCI.out.cr picks with h | ⟨ho, i', h⟩
          · exact ⟨st.inn, m, sd, by rw [HSD.out]; exact h, .inl ⟨rfl, rfl⟩⟩
          · exact ⟨i', n, now, h, .inr ⟨rfl, rfl⟩⟩
        have HC1 : Hid (Cd dC i1 k1 x1) := Lib.hid (by subst hdC; exact Cd.crash HCI.out.len picks hG1)
        have HOR := Lib.hid hor
        have HDP : Hid (0 < d.good.length ∧ d.good.length ≤ 1000 ∧ d.ops < 1000000) := Lib.hid ⟨by rw [HCI.out.len]; omega, by rw [HCI.out.len]; omega, by have := HCI.out.ops; have := H20.out; omega⟩
        have HM5 : Hid (m ≤ 20) := Lib.hid (by have := HCI.out.mi; have := H20.out; omega)
        clear hdC hG1 hor
        go_upto_region 26 with (first | (go_at_call 19; (with_reducible refine (stDead_S HS1.out).mono ?_); rw [HOFF.out]; rintro e wz ⟨rfl, rfl⟩) | (go_at_call 17; go_must (refine (bCrash_fresh HS1.out.dx HDP.out.1 HDP.out.2.1 HDP.out.2.2 (HQ.out.below HBW.out)).mono ?_; rw [← HDC.out]; rintro e wC ⟨gC, rfl, hD, hb⟩; have HDD := Lib.hid hD; have HBC := Lib.hid hb; clear hD hb)))
        clear hi8 hi0 hiw
        go_loopw [19, 20] (fun cv jv wr => ∃ (j gc B2 : Nat) (dc : Bd), j ≤ n3 ∧ jv = .int .i64 j ∧ cv = .pointer (some ⟨gc, 0, none⟩) ∧ DxN B2 noK wr gc dc ∧ wA.heap.size ≤ B2 ∧ Cd dc i1 k1 x1 ∧ Below wA.heap.size wA wr) (fun _ jv _ => n3 - (intOf jv).toNat)
        case atStart => exact ⟨0, gC, _, dC, Nat.zero_le _, rfl, rfl, HDD.out, Nat.le_refl _, HC1.out, HBC.out⟩
        case round =>
          obtain ⟨j, gc, B2, dc, hj, rfl, rfl, hD2, hB2, hC2, hbw2⟩ := hrel
          have HD2 := Lib.hid hD2; have HB2 := Lib.hid hB2; have HC2 := Lib.hid hC2; have HBW2 := Lib.hid hbw2
          have hj8 : (j : Int) ≤ 4 := by omega
          have hj0 : (0 : Int) ≤ (j : Int) := by omega
          have hjw : IntKind.i64.wrap ((j : Int) + 1) = ((j + 1 : Nat) : Int) := by rw [IntKind.wrap_i64]; omega
          have HWR := Lib.hid (HBW.out.trans (hbw2.mono HBW.out.size))
          by_cases hlt : j < n3
          · have hj1 : (j : Int) < (n3 : Int) := by omega
            obtain ⟨b3, o3, rfl, hc3⟩ := (HK.out.below HWR.out).get j (by rw [HK.out.hlen]; exact hlt)
            generalize l3[j]'(by rw [HK.out.hlen]; exact hlt) = zi at hc3
            have HLT := Lib.hid hlt
            obtain ⟨zc, hzc⟩ : ∃ zc, zi % 50 = zc := ⟨_, rfl⟩
            have HZC := Lib.hid hzc
            have HZ2 : Hid (max zc 0 ≤ 9223372036854775807) := Lib.hid (by have := Int.emod_lt_of_pos zi (show (0 : Int) < 50 by omega); omega)
            have HCUT : Hid ((dc.cutAt zc).good.length = 256 ∧ (dc.cutAt zc).ops = 0 ∧ (dc.cutAt zc).left ≤ 9223372036854775807) := Lib.hid ⟨hC2.len, hC2.ops, HZ2.out⟩
            have HFLU : Hid ((dc.cutAt zc).flush.good.length = 256 ∧ (dc.cutAt zc).flush.ops ≤ 1) := Lib.hid ⟨(Bd.flush_near _).len.trans hC2.len, by have h := (Bd.flush_near (dc.cutAt zc)).ops; have h2 := HCUT.out.2.1; omega⟩
            clear hD2 hB2 hC2 hbw2 hlt hj hzc
            go_wp2_with (first
              | (go_at_call 12; (with_reducible refine (alRound_any (by omega) (by omega)).mono ?_); rintro e wz ⟨rfl, rfl⟩; rw [HZC.out])
              | (go_at_call 22; (with_reducible refine (bCut_newD HD2.out).mono ?_); rintro e w3 ⟨rfl, hD, hO⟩; have HD3 := Lib.hid hD; have HB3 := Lib.hid (HBW2.out.trans ((hO.below HD2.out.bs).mono HB2.out)); clear hD hO)
              | (go_at_call 14; go_must (refine (stOpen_whatever HD3.out (HC2.out.gs.cut zc) (by rw [HCUT.out.1]; omega) (by rw [HCUT.out.2.1]; omega) HCUT.out.2.2).mono ?_; rintro e w4 ⟨v4, rfl, hD, hO⟩; have HD4 := Lib.hid hD; have HB4 := Lib.hid (HB3.out.trans ((hO.below HD3.out.bs).mono HB2.out)); clear hD hO))
              | (go_at_call 17; go_must (refine (bCrash_fresh HD4.out (by rw [HFLU.out.1]; omega) (by rw [HFLU.out.1]; omega) (by have := HFLU.out.2; omega) (HQ.out.below (HBW.out.trans (HB4.out.mono HBW.out.size)))).mono ?_; rintro e w5 ⟨g5, rfl, hD, hb⟩; have HD5 := Lib.hid hD; have HB5 := Lib.hid (HB4.out.trans (hb.mono HB4.out.size)); have HBS := Lib.hid HB4.out.size; clear hD hb)))
            go_roundw
            case rel => exact ⟨j + 1, g5, _, _, HLT.out, by go_num, rfl, HD5.out, HBS.out, HC2.out.next zc picks, HB5.out⟩
            case measure => have := HLT.out; simp [intOf]; omega
          · obtain rfl : j = n3 := by omega
            obtain ⟨dG, hdG⟩ : ∃ dG, dG = dc.flush.crash [] := ⟨_, rfl⟩
            have HDG := Lib.hid hdG
            have HCG : Hid (Cd dG i1 k1 x1) := Lib.hid (by rw [hdG]; exact hC2.next0 [])
            have HFL : Hid (dc.flush.good.length = 256) := Lib.hid ((Bd.flush_near _).len.trans hC2.len)
            have HFO : Hid (dc.flush.ops ≤ 1) := Lib.hid (by have h := (Bd.flush_near dc).ops; have h2 := hC2.ops; omega)
            clear hD2 hB2 hC2 hbw2 hlt hj hdG hj8 hj0 hjw
            go_upto_region 34 with (go_at_call 14; go_must (refine (stOpen_new HD2.out HC2.out.gs (by rw [HC2.out.len]; omega) (by rw [HC2.out.ops]; omega) (by rw [HC2.out.left]; omega) HC2.out.on.flushC).mono ?_; rintro e w4 ⟨s4, rfl, hS, hO⟩; have HSt := Lib.hid hS; have HB4 := Lib.hid (HBW2.out.trans ((hO.below HD2.out.bs).mono HB2.out)); clear hS hO))
            have HW4 := Lib.hid HB4.out
            have HRo := Lib.hid (HLA.out.below HW4.out); have HRn := Lib.hid (HLB.out.below HW4.out)
            cases hb1 : holdsP ⟨i1, k1, x1, false⟩ sd m with
            | true =>
              have HH1 := Lib.hid hb1
              clear hb1
              go_upto_region 36 with (first
                | (go_at_call 15; go_must (refine (stHolds_S m _ rfl true HH1.out HSt.out HRo.out).mono ?_; rintro e w5 ⟨rfl, hb⟩; have HB5 := Lib.hid hb; clear hb)))
              have HW5 := Lib.hid (HW4.out.trans (HB5.out.mono HW4.out.size))
              have HSt1 := Lib.hid (HSt.out.later HB5.out)
              by_cases hk1 : k1 = 0
              · have hk0 : (((k1 : Nat) : Int) == 0) = true := by rw [hk1]; rfl
                have hky : (k1 == 0) = true := by rw [hk1]; rfl
                have HK1 := Lib.hid hk1
                clear hk1
                go_upto_region 37 with (go_at_call 16; (with_reducible refine (stLoad_noneS HSt1.out HK1.out).mono ?_); rintro e w6 ⟨rfl, rfl⟩)
                have HB6 := Lib.hid (Below.refl w5.heap.size w5)
                have HSt2 := Lib.hid (HSt1.out.later HB6.out)
                have HW6 := Lib.hid (HW5.out.trans (HB6.out.mono HW5.out.size))
                go_upto_region 38 with (first
                  | (go_at_call 17; go_must (refine (bCrash_fresh HSt2.out.dx (by rw [HFL.out]; omega) (by rw [HFL.out]; omega) (by have := HFO.out; omega) (RdI.nil _)).mono ?_; rw [← HDG.out]; rintro e w7 ⟨g7, rfl, hD, hb⟩; have HD7 := Lib.hid hD; have HB7 := Lib.hid hb; clear hD hb))
                  | (go_at_call 14; go_must (refine (stOpen_new HD7.out HCG.out.gs (by rw [HCG.out.len]; omega) (by rw [HCG.out.ops]; omega) (by rw [HCG.out.left]; omega) HCG.out.on.flushC).mono ?_; rintro e w9 ⟨s9, rfl, hS, hO⟩; have HS9 := Lib.hid hS; have HB9 := Lib.hid (HB7.out.trans (hO.below HB7.out.size)); clear hS hO)))
                have HSt3 := Lib.hid (HSt2.out.later HB9.out)
                have HW9 := Lib.hid (HW6.out.trans (HB9.out.mono HW6.out.size))
                go_wp2_with (first
                  | (go_at_call 21; (with_reducible refine (stCount_S HS9.out).mono ?_); rintro e wz ⟨rfl, rfl⟩)
                  | (go_at_call 21; (with_reducible refine (stCount_S HSt3.out).mono ?_); rintro e wz ⟨rfl, rfl⟩)
                  | (go_at_call 9; (with_reducible refine (stAwake_any _).mono ?_); rintro e w8 ⟨rfl, hb⟩; have HB8 := Lib.hid (HW9.out.trans (hb.mono HW9.out.size)); clear hb))
                go_ret
                exact ⟨rfl, HBW.out.trans (HB8.out.mono HBW.out.size)⟩
              · have hk0 : (((k1 : Nat) : Int) == 0) = false := by rw [beq_eq_false_iff_ne]; omega
                have hky : (k1 == 0) = false := by rw [beq_eq_false_iff_ne]; omega
                have HK1 := Lib.hid hk1
                clear hk1
                go_upto_region 37 with (go_at_call 16; go_must (refine (stLoad_S HSt1.out HK1.out).mono ?_; rintro e w6 ⟨v6, rfl, ho, hb⟩; obtain ⟨a6, c6, rfl, hr6, _⟩ := own_rdw ho; have HR6 := Lib.hid hr6; have HB6 := Lib.hid hb; clear ho hb hr6))
                have HSt2 := Lib.hid (HSt1.out.later HB6.out)
                have HW6 := Lib.hid (HW5.out.trans (HB6.out.mono HW5.out.size))
                go_upto_region 38 with (first
                  | (go_at_call 17; go_must (refine (bCrash_fresh HSt2.out.dx (by rw [HFL.out]; omega) (by rw [HFL.out]; omega) (by have := HFO.out; omega) (RdI.nil _)).mono ?_; rw [← HDG.out]; rintro e w7 ⟨g7, rfl, hD, hb⟩; have HD7 := Lib.hid hD; have HB7 := Lib.hid hb; clear hD hb))
                  | (go_at_call 14; go_must (refine (stOpen_new HD7.out HCG.out.gs (by rw [HCG.out.len]; omega) (by rw [HCG.out.ops]; omega) (by rw [HCG.out.left]; omega) HCG.out.on.flushC).mono ?_; rintro e w9 ⟨s9, rfl, hS, hO⟩; have HS9 := Lib.hid hS; have HB9 := Lib.hid (HB7.out.trans (hO.below HB7.out.size)); clear hS hO)))
                have HSt3 := Lib.hid (HSt2.out.later HB9.out)
                have HW9 := Lib.hid (HW6.out.trans (HB9.out.mono HW6.out.size))
                have HR9 := Lib.hid (HR6.out.below HB9.out)
                have HHS : Hid (holdsP ⟨i1, k1, x1, false⟩ x1 k1 = true) := Lib.hid holds_self
                go_wp2_with (first
                  | (go_at_call 21; (with_reducible refine (stCount_S HS9.out).mono ?_); rintro e wz ⟨rfl, rfl⟩)
                  | (go_at_call 21; (with_reducible refine (stCount_S HSt3.out).mono ?_); rintro e wz ⟨rfl, rfl⟩)
                  | (go_at_call 15; go_must (refine (stHolds_S k1 _ rfl true HHS.out HS9.out HR9.out).mono ?_; rintro e wb ⟨rfl, hb⟩; have HWb := Lib.hid (HW9.out.trans (hb.mono HW9.out.size)); clear hb))
                  | (go_at_call 9; (with_reducible refine (stAwake_any _).mono ?_); rintro e w8 ⟨rfl, hb⟩; have HB8 := Lib.hid (HWb.out.trans (hb.mono HWb.out.size)); clear hb))
                go_ret
                exact ⟨rfl, HBW.out.trans (HB8.out.mono HBW.out.size)⟩
            | false =>
              have HH1 := Lib.hid hb1
              have HH2 : Hid (holdsP ⟨i1, k1, x1, false⟩ now n = true) := Lib.hid (by rcases HOR.out with ⟨rfl, rfl⟩ | ⟨rfl, rfl⟩; (rw [holds_self] at hb1; cases hb1); exact holds_self)
              clear hb1
              go_upto_region 36 with (first
                | (go_at_call 15; (with_reducible refine (stHolds_S m _ (zcast m) false HH1.out HSt.out HRo.out).mono ?_); rintro e wa ⟨rfl, hb⟩; have HBa := Lib.hid hb; have HSa := Lib.hid (HSt.out.later hb); have HRna := Lib.hid (HRn.out.below hb); clear hb)
                | (go_at_call 15; (with_reducible refine (stHolds_S n _ (zcast n) true HH2.out HSa.out HRna.out).mono ?_); rintro e w5 ⟨rfl, hb⟩; have HB5 := Lib.hid (Below.call HBa.out hb); clear hb))
              have HW5 := Lib.hid (HW4.out.trans (HB5.out.mono HW4.out.size))
              have HSt1 := Lib.hid (HSt.out.later HB5.out)
              by_cases hk1 : k1 = 0
              · have hk0 : (((k1 : Nat) : Int) == 0) = true := by rw [hk1]; rfl
                have hky : (k1 == 0) = true := by rw [hk1]; rfl
                have HK1 := Lib.hid hk1
                clear hk1
                go_upto_region 37 with (go_at_call 16; (with_reducible refine (stLoad_noneS HSt1.out HK1.out).mono ?_); rintro e w6 ⟨rfl, rfl⟩)
                have HB6 := Lib.hid (Below.refl w5.heap.size w5)
                have HSt2 := Lib.hid (HSt1.out.later HB6.out)
                have HW6 := Lib.hid (HW5.out.trans (HB6.out.mono HW5.out.size))
                go_upto_region 38 with (first
                  | (go_at_call 17; go_must (refine (bCrash_fresh HSt2.out.dx (by rw [HFL.out]; omega) (by rw [HFL.out]; omega) (by have := HFO.out; omega) (RdI.nil _)).mono ?_; rw [← HDG.out]; rintro e w7 ⟨g7, rfl, hD, hb⟩; have HD7 := Lib.hid hD; have HB7 := Lib.hid hb; clear hD hb))
                  | (go_at_call 14; go_must (refine (stOpen_new HD7.out HCG.out.gs (by rw [HCG.out.len]; omega) (by rw [HCG.out.ops]; omega) (by rw [HCG.out.left]; omega) HCG.out.on.flushC).mono ?_; rintro e w9 ⟨s9, rfl, hS, hO⟩; have HS9 := Lib.hid hS; have HB9 := Lib.hid (HB7.out.trans (hO.below HB7.out.size)); clear hS hO)))
                have HSt3 := Lib.hid (HSt2.out.later HB9.out)
                have HW9 := Lib.hid (HW6.out.trans (HB9.out.mono HW6.out.size))
                go_wp2_with (first
                  | (go_at_call 21; (with_reducible refine (stCount_S HS9.out).mono ?_); rintro e wz ⟨rfl, rfl⟩)
                  | (go_at_call 21; (with_reducible refine (stCount_S HSt3.out).mono ?_); rintro e wz ⟨rfl, rfl⟩)
                  | (go_at_call 9; (with_reducible refine (stAwake_any _).mono ?_); rintro e w8 ⟨rfl, hb⟩; have HB8 := Lib.hid (HW9.out.trans (hb.mono HW9.out.size)); clear hb))
                go_ret
                exact ⟨rfl, HBW.out.trans (HB8.out.mono HBW.out.size)⟩
              · have hk0 : (((k1 : Nat) : Int) == 0) = false := by rw [beq_eq_false_iff_ne]; omega
                have hky : (k1 == 0) = false := by rw [beq_eq_false_iff_ne]; omega
                have HK1 := Lib.hid hk1
                clear hk1
                go_upto_region 37 with (go_at_call 16; go_must (refine (stLoad_S HSt1.out HK1.out).mono ?_; rintro e w6 ⟨v6, rfl, ho, hb⟩; obtain ⟨a6, c6, rfl, hr6, _⟩ := own_rdw ho; have HR6 := Lib.hid hr6; have HB6 := Lib.hid hb; clear ho hb hr6))
                have HSt2 := Lib.hid (HSt1.out.later HB6.out)
                have HW6 := Lib.hid (HW5.out.trans (HB6.out.mono HW5.out.size))
                go_upto_region 38 with (first
                  | (go_at_call 17; go_must (refine (bCrash_fresh HSt2.out.dx (by rw [HFL.out]; omega) (by rw [HFL.out]; omega) (by have := HFO.out; omega) (RdI.nil _)).mono ?_; rw [← HDG.out]; rintro e w7 ⟨g7, rfl, hD, hb⟩; have HD7 := Lib.hid hD; have HB7 := Lib.hid hb; clear hD hb))
                  | (go_at_call 14; go_must (refine (stOpen_new HD7.out HCG.out.gs (by rw [HCG.out.len]; omega) (by rw [HCG.out.ops]; omega) (by rw [HCG.out.left]; omega) HCG.out.on.flushC).mono ?_; rintro e w9 ⟨s9, rfl, hS, hO⟩; have HS9 := Lib.hid hS; have HB9 := Lib.hid (HB7.out.trans (hO.below HB7.out.size)); clear hS hO)))
                have HSt3 := Lib.hid (HSt2.out.later HB9.out)
                have HW9 := Lib.hid (HW6.out.trans (HB9.out.mono HW6.out.size))
                have HR9 := Lib.hid (HR6.out.below HB9.out)
                have HHS : Hid (holdsP ⟨i1, k1, x1, false⟩ x1 k1 = true) := Lib.hid holds_self
                go_wp2_with (first
                  | (go_at_call 21; (with_reducible refine (stCount_S HS9.out).mono ?_); rintro e wz ⟨rfl, rfl⟩)
                  | (go_at_call 21; (with_reducible refine (stCount_S HSt3.out).mono ?_); rintro e wz ⟨rfl, rfl⟩)
                  | (go_at_call 15; go_must (refine (stHolds_S k1 _ rfl true HHS.out HS9.out HR9.out).mono ?_; rintro e wb ⟨rfl, hb⟩; have HWb := Lib.hid (HW9.out.trans (hb.mono HW9.out.size)); clear hb))
                  | (go_at_call 9; (with_reducible refine (stAwake_any _).mono ?_); rintro e w8 ⟨rfl, hb⟩; have HB8 := Lib.hid (HWb.out.trans (hb.mono HWb.out.size)); clear hb))
                go_ret
                exact ⟨rfl, HBW.out.trans (HB8.out.mono HBW.out.size)⟩
    · have hoff2 : st.off = false := by simpa using hoff
      have HOFF := Lib.hid hoff2
      by_cases hlt : i < n1
      · have hi1 : (i : Int) < (n1 : Int) := by omega
        obtain ⟨b, o, rfl, hc⟩ := (HP.out.below HBW.out).get i (by rw [HP.out.hlen]; exact hlt)
        generalize l[i]'(by rw [HP.out.hlen]; exact hlt) = zi at hc
        obtain ⟨nb, hnb⟩ : ∃ nb : Nat, zi % 3000 = (nb : Int) := ⟨_, (Int.toNat_of_nonneg (Int.emod_nonneg _ (by omega))).symm⟩
        have HNB := Lib.hid hnb
        have hnb2 : nb < 3000 := by have := Int.emod_lt_of_pos zi (show (0 : Int) < 3000 by omega); omega
        have HN2 := Lib.hid hnb2
        have HLT := Lib.hid hlt
        have hmw : IntKind.i64.wrap ((m : Int) + 1) = ((m + 1 : Nat) : Int) := by rw [IntKind.wrap_i64]; have := HMI.out; omega
        have HPD : Hid (64 ≤ d.good.length ∧ d.good.length ≤ 1000 ∧ d.ops + 1000 < 1000000 ∧ d.left ≤ 9223372036854775807 ∧ st.cnt + 1 < 1000000) := Lib.hid ⟨by rw [HCI.out.len]; omega, by rw [HCI.out.len]; omega, by have := HCI.out.ops; omega, HCI.out.left, by rw [HCI.out.cnt]; have := HMI.out; omega⟩
        have hcs := HCI.out.save (l := alB nb i) hoff2 (by rw [alB_len]; omega) (by have := HMI.out; omega)
        obtain ⟨dA, hdA⟩ : ∃ dA, dA = (saveP d st (alB nb i)).1 := ⟨_, rfl⟩
        have HDA := Lib.hid hdA
        rw [← hdA] at hcs
        clear hoff hoff2 hlt hi hnb hnb2 hdA
        rcases hcs with ⟨e1, e2, hCA⟩ | ⟨e1, e2, hCA⟩
        · have HE1 := Lib.hid e1; have HE2 := Lib.hid e2; have HCA := Lib.hid hCA
          clear e1 e2 hCA
          go_wp2_with (first
            | (go_at_call 19; (with_reducible refine (stDead_S HS1.out).mono ?_); rw [HOFF.out]; rintro e wz ⟨rfl, rfl⟩)
            | (go_at_call 12; (with_reducible refine (alRound_any (by omega) (by omega)).mono ?_); rintro e wz ⟨rfl, rfl⟩; rw [HNB.out])
            | (go_at_call 11; (with_reducible refine (alBlock_any (by have := HN2.out; omega)).mono ?_); rintro e w2 ⟨q, rfl, hq, hB, hb⟩; have HBQ := Lib.hid hb; have HB2 := Lib.hid (Below.call HBW.out hb); have HRB := Lib.hid (RdB.blk (n := nb) (cap := nb) (l := alB nb i) [] (by rw [List.append_nil]; exact hB) (alB_len _ _) (Nat.le_refl _) (by have := HN2.out; unfold maxLen; omega)); have HQK := Lib.hid (show ∀ p, (some ⟨q, 0, none⟩ : Option Addr) = some p → ((atK la p.block ∨ atK lb p.block) ∨ p.block = q) from fun p hp => .inr (by cases hp; rfl)); have HS2 := Lib.hid (HS1.out.keep (K' := fun x => (atK la x ∨ atK lb x) ∨ x = q) hb (fun x hx => by rcases hx with h | h; exact .inl h; exact .inr (by cases h; exact ⟨hq, hB.lt⟩))); clear hB hb hq)
            | (go_at_call 13; (with_reducible refine (stSave_new HS2.out HRB.out HQK.out HPD.out.1 HPD.out.2.1 HPD.out.2.2.1 HPD.out.2.2.2.1 HPD.out.2.2.2.2).mono ?_); rw [HE1.out, HE2.out, ← HDA.out]; rintro e w3 ⟨rfl, hS, hO⟩; have HS3 := Lib.hid hS; have HRB3 := Lib.hid (hO.rd HRB.out HQK.out); have HLA3 := Lib.hid (hO.rd (HLA.out.below HBQ.out) (fun p hp => .inl (.inl ⟨p, hp, rfl⟩))); have HB3 := Lib.hid (HB2.out.trans (hO.below HB2.out.size)); clear hS hO))
          go_roundw
          case rel => exact ⟨i + 1, m + 1, m + 1, nb, nb, some ⟨q, 0, none⟩, some ⟨q, 0, none⟩, dA, ⟨1 - st.inn, m + 1, alB nb i, false⟩, alB nb i, HLT.out, by go_num, by go_num, by go_num, by rw [show (alB nb i).length = nb from alB_len _ _], by rw [show (alB nb i).length = nb from alB_len _ _], HS3.out.keep (Below.refl _ _) (fun x hx => .inl (by rcases hx with ⟨p, hp, rfl⟩ | ⟨p, hp, rfl⟩ <;> (cases hp; exact .inr rfl))), by show RdB _ _ (alB nb i).length _ _; rw [alB_len]; exact HRB3.out, by rw [alB_len]; exact HRB3.out, HCA.out, HB3.out⟩
          case measure => have := HLT.out; simp [intOf]; omega
        · have HE1 := Lib.hid e1; have HE2 := Lib.hid e2; have HCA := Lib.hid hCA
          have HPB : Hid (64 ≤ dA.good.length ∧ dA.good.length ≤ 1000 ∧ dA.ops + 1000 < 1000000 ∧ dA.left ≤ 9223372036854775807 ∧ (⟨st.inn, m, st.data, true⟩ : Bs).cnt + 1 < 1000000) := Lib.hid ⟨by rw [hCA.len]; omega, by rw [hCA.len]; omega, by have := hCA.ops; omega, hCA.left, by show m + 1 < 1000000; have := HMI.out; omega⟩
          have HSO : Hid (saveP dA ⟨st.inn, m, st.data, true⟩ (alB nb i) = (dA, ⟨st.inn, m, st.data, true⟩, 10)) := Lib.hid (save_offS (by rw [alB_len, hCA.len]; have := HN2.out; omega))
          clear e1 e2 hCA
          go_wp2_with (first
            | (go_at_call 19; (with_reducible refine (stDead_S HS1.out).mono ?_); rw [HOFF.out]; rintro e wz ⟨rfl, rfl⟩)
            | (go_at_call 12; (with_reducible refine (alRound_any (by omega) (by omega)).mono ?_); rintro e wz ⟨rfl, rfl⟩; rw [HNB.out])
            | (go_at_call 11; (with_reducible refine (alBlock_any (by have := HN2.out; omega)).mono ?_); rintro e w2 ⟨q, rfl, hq, hB, hb⟩; have HBQ := Lib.hid hb; have HB2 := Lib.hid (Below.call HBW.out hb); have HRB := Lib.hid (RdB.blk (n := nb) (cap := nb) (l := alB nb i) [] (by rw [List.append_nil]; exact hB) (alB_len _ _) (Nat.le_refl _) (by have := HN2.out; unfold maxLen; omega)); have HQK := Lib.hid (show ∀ p, (some ⟨q, 0, none⟩ : Option Addr) = some p → ((atK la p.block ∨ atK lb p.block) ∨ p.block = q) from fun p hp => .inr (by cases hp; rfl)); have HS2 := Lib.hid (HS1.out.keep (K' := fun x => (atK la x ∨ atK lb x) ∨ x = q) hb (fun x hx => by rcases hx with h | h; exact .inl h; exact .inr (by cases h; exact ⟨hq, hB.lt⟩))); clear hB hb hq)
            | (go_at_call 13; (with_reducible refine (stSave_new HS2.out HRB.out HQK.out HPD.out.1 HPD.out.2.1 HPD.out.2.2.1 HPD.out.2.2.2.1 HPD.out.2.2.2.2).mono ?_); rw [HE1.out, HE2.out, ← HDA.out]; rintro e w3 ⟨rfl, hS, hO⟩; have HS3 := Lib.hid hS; have HRB3 := Lib.hid (hO.rd HRB.out HQK.out); have HLA3 := Lib.hid (hO.rd (HLA.out.below HBQ.out) (fun p hp => .inl (.inl ⟨p, hp, rfl⟩))); have HB3 := Lib.hid (HB2.out.trans (hO.below HB2.out.size)); clear hS hO)
            | (go_at_call 19; (with_reducible refine (stDead_S HS3.out).mono ?_); rintro e wz ⟨rfl, rfl⟩)
            | (go_at_call 13; (with_reducible refine (stSave_new HS3.out HRB3.out HQK.out HPB.out.1 HPB.out.2.1 HPB.out.2.2.1 HPB.out.2.2.2.1 HPB.out.2.2.2.2).mono ?_); rw [HSO.out]; rintro e w5 ⟨rfl, hS, hO⟩; have HS5 := Lib.hid hS; have HRB5 := Lib.hid (hO.rd HRB3.out HQK.out); have HLA5 := Lib.hid (hO.rd HLA3.out (fun p hp => .inl (.inl ⟨p, hp, rfl⟩))); have HB5 := Lib.hid (HB3.out.trans (hO.below HB3.out.size)); clear hS hO))
          go_roundw
          case rel => exact ⟨i + 1, m, m + 1, lc, nb, la, some ⟨q, 0, none⟩, dA, ⟨st.inn, m, st.data, true⟩, alB nb i, HLT.out, by go_num, rfl, by go_num, by show _ = Value.slice la st.data.length lc; rw [← HSD.out, HSL.out], by rw [show (alB nb i).length = nb from alB_len _ _], HS5.out.keep (Below.refl _ _) (fun x hx => .inl (by rcases hx with h | ⟨p, hp, rfl⟩; exact .inl (.inl h); (cases hp; exact .inr rfl))), by show RdB _ la st.data.length lc st.data; rw [← HSD.out, HSL.out]; exact HLA5.out, by rw [alB_len]; exact HRB5.out, HCA.out, HB5.out⟩
          case measure => have := HLT.out; simp [intOf]; omega
      · obtain rfl : i = n1 := by omega
        clear hoff hoff2 hlt hi
        obtain ⟨dC, hdC⟩ : ∃ dC, dC = d.crash picks := ⟨_, rfl⟩
        have HDC := Lib.hid hdC
        obtain ⟨i1, k1, x1, hG1, hor⟩ : ∃ (i1 k1 : Nat) (x1 : List UInt8), Gs dC i1 k1 x1 ∧ ((k1 = m ∧ x1 = sd) ∨ (k1 = m ∧ x1 = sd)) := by
          rw [hdC]
          rcases HCI.out.cr picks with h | ⟨ho, i', h⟩
          · exact ⟨st.inn, m, sd, by rw [HSD.out]; exact h, .inl ⟨rfl, rfl⟩⟩
          · rw [HOFF.out] at ho; cases ho
        have HC1 : Hid (Cd dC i1 k1 x1) := Lib.hid (by subst hdC; exact Cd.crash HCI.out.len picks hG1)
        have HOR := Lib.hid hor
        have HDP : Hid (0 < d.good.length ∧ d.good.length ≤ 1000 ∧ d.ops < 1000000) := Lib.hid ⟨by rw [HCI.out.len]; omega, by rw [HCI.out.len]; omega, by have := HCI.out.ops; have := H20.out; omega⟩
        have HM5 : Hid (m ≤ 20) := Lib.hid (by have := HCI.out.mi; have := H20.out; omega)
        clear hdC hG1 hor
        go_upto_region 26 with (first | (go_at_call 19; (with_reducible refine (stDead_S HS1.out).mono ?_); rw [HOFF.out]; rintro e wz ⟨rfl, rfl⟩) | (go_at_call 17; go_must (refine (bCrash_fresh HS1.out.dx HDP.out.1 HDP.out.2.1 HDP.out.2.2 (HQ.out.below HBW.out)).mono ?_; rw [← HDC.out]; rintro e wC ⟨gC, rfl, hD, hb⟩; have HDD := Lib.hid hD; have HBC := Lib.hid hb; clear hD hb)))
        clear hi8 hi0 hiw
        go_loopw [19, 20] (fun cv jv wr => ∃ (j gc B2 : Nat) (dc : Bd), j ≤ n3 ∧ jv = .int .i64 j ∧ cv = .pointer (some ⟨gc, 0, none⟩) ∧ DxN B2 noK wr gc dc ∧ wA.heap.size ≤ B2 ∧ Cd dc i1 k1 x1 ∧ Below wA.heap.size wA wr) (fun _ jv _ => n3 - (intOf jv).toNat)
        case atStart => exact ⟨0, gC, _, dC, Nat.zero_le _, rfl, rfl, HDD.out, Nat.le_refl _, HC1.out, HBC.out⟩
        case round =>
          obtain ⟨j, gc, B2, dc, hj, rfl, rfl, hD2, hB2, hC2, hbw2⟩ := hrel
          have HD2 := Lib.hid hD2; have HB2 := Lib.hid hB2; have HC2 := Lib.hid hC2; have HBW2 := Lib.hid hbw2
          have hj8 : (j : Int) ≤ 4 := by omega
          have hj0 : (0 : Int) ≤ (j : Int) := by omega
          have hjw : IntKind.i64.wrap ((j : Int) + 1) = ((j + 1 : Nat) : Int) := by rw [IntKind.wrap_i64]; omega
          have HWR := Lib.hid (HBW.out.trans (hbw2.mono HBW.out.size))
          by_cases hlt : j < n3
          · have hj1 : (j : Int) < (n3 : Int) := by omega
            obtain ⟨b3, o3, rfl, hc3⟩ := (HK.out.below HWR.out).get j (by rw [HK.out.hlen]; exact hlt)
            generalize l3[j]'(by rw [HK.out.hlen]; exact hlt) = zi at hc3
            have HLT := Lib.hid hlt
            obtain ⟨zc, hzc⟩ : ∃ zc, zi % 50 = zc := ⟨_, rfl⟩
            have HZC := Lib.hid hzc
            have HZ2 : Hid (max zc 0 ≤ 9223372036854775807) := Lib.hid (by have := Int.emod_lt_of_pos zi (show (0 : Int) < 50 by omega); omega)
            have HCUT : Hid ((dc.cutAt zc).good.length = 256 ∧ (dc.cutAt zc).ops = 0 ∧ (dc.cutAt zc).left ≤ 9223372036854775807) := Lib.hid ⟨hC2.len, hC2.ops, HZ2.out⟩
            have HFLU : Hid ((dc.cutAt zc).flush.good.length = 256 ∧ (dc.cutAt zc).flush.ops ≤ 1) := Lib.hid ⟨(Bd.flush_near _).len.trans hC2.len, by have h := (Bd.flush_near (dc.cutAt zc)).ops; have h2 := HCUT.out.2.1; omega⟩
            clear hD2 hB2 hC2 hbw2 hlt hj hzc
            go_wp2_with (first
              | (go_at_call 12; (with_reducible refine (alRound_any (by omega) (by omega)).mono ?_); rintro e wz ⟨rfl, rfl⟩; rw [HZC.out])
              | (go_at_call 22; (with_reducible refine (bCut_newD HD2.out).mono ?_); rintro e w3 ⟨rfl, hD, hO⟩; have HD3 := Lib.hid hD; have HB3 := Lib.hid (HBW2.out.trans ((hO.below HD2.out.bs).mono HB2.out)); clear hD hO)
              | (go_at_call 14; go_must (refine (stOpen_whatever HD3.out (HC2.out.gs.cut zc) (by rw [HCUT.out.1]; omega) (by rw [HCUT.out.2.1]; omega) HCUT.out.2.2).mono ?_; rintro e w4 ⟨v4, rfl, hD, hO⟩; have HD4 := Lib.hid hD; have HB4 := Lib.hid (HB3.out.trans ((hO.below HD3.out.bs).mono HB2.out)); clear hD hO))
              | (go_at_call 17; go_must (refine (bCrash_fresh HD4.out (by rw [HFLU.out.1]; omega) (by rw [HFLU.out.1]; omega) (by have := HFLU.out.2; omega) (HQ.out.below (HBW.out.trans (HB4.out.mono HBW.out.size)))).mono ?_; rintro e w5 ⟨g5, rfl, hD, hb⟩; have HD5 := Lib.hid hD; have HB5 := Lib.hid (HB4.out.trans (hb.mono HB4.out.size)); have HBS := Lib.hid HB4.out.size; clear hD hb)))
            go_roundw
            case rel => exact ⟨j + 1, g5, _, _, HLT.out, by go_num, rfl, HD5.out, HBS.out, HC2.out.next zc picks, HB5.out⟩
            case measure => have := HLT.out; simp [intOf]; omega
          · obtain rfl : j = n3 := by omega
            obtain ⟨dG, hdG⟩ : ∃ dG, dG = dc.flush.crash [] := ⟨_, rfl⟩
            have HDG := Lib.hid hdG
            have HCG : Hid (Cd dG i1 k1 x1) := Lib.hid (by rw [hdG]; exact hC2.next0 [])
            have HFL : Hid (dc.flush.good.length = 256) := Lib.hid ((Bd.flush_near _).len.trans hC2.len)
            have HFO : Hid (dc.flush.ops ≤ 1) := Lib.hid (by have h := (Bd.flush_near dc).ops; have h2 := hC2.ops; omega)
            clear hD2 hB2 hC2 hbw2 hlt hj hdG hj8 hj0 hjw
            go_upto_region 34 with (go_at_call 14; go_must (refine (stOpen_new HD2.out HC2.out.gs (by rw [HC2.out.len]; omega) (by rw [HC2.out.ops]; omega) (by rw [HC2.out.left]; omega) HC2.out.on.flushC).mono ?_; rintro e w4 ⟨s4, rfl, hS, hO⟩; have HSt := Lib.hid hS; have HB4 := Lib.hid (HBW2.out.trans ((hO.below HD2.out.bs).mono HB2.out)); clear hS hO))
            have HW4 := Lib.hid HB4.out
            have HRo := Lib.hid (HLA.out.below HW4.out); have HRn := Lib.hid (HLA.out.below HW4.out)
            cases hb1 : holdsP ⟨i1, k1, x1, false⟩ sd m with
            | true =>
              have HH1 := Lib.hid hb1
              clear hb1
              go_upto_region 36 with (first
                | (go_at_call 15; go_must (refine (stHolds_S m _ rfl true HH1.out HSt.out HRo.out).mono ?_; rintro e w5 ⟨rfl, hb⟩; have HB5 := Lib.hid hb; clear hb)))
              have HW5 := Lib.hid (HW4.out.trans (HB5.out.mono HW4.out.size))
              have HSt1 := Lib.hid (HSt.out.later HB5.out)
              by_cases hk1 : k1 = 0
              · have hk0 : (((k1 : Nat) : Int) == 0) = true := by rw [hk1]; rfl
                have hky : (k1 == 0) = true := by rw [hk1]; rfl
                have HK1 := Lib.hid hk1
                clear hk1
                go_upto_region 37 with (go_at_call 16; (with_reducible refine (stLoad_noneS HSt1.out HK1.out).mono ?_); rintro e w6 ⟨rfl, rfl⟩)
                have HB6 := Lib.hid (Below.refl w5.heap.size w5)
                have HSt2 := Lib.hid (HSt1.out.later HB6.out)
                have HW6 := Lib.hid (HW5.out.trans (HB6.out.mono HW5.out.size))
                go_upto_region 38 with (first
                  | (go_at_call 17; go_must (refine (bCrash_fresh HSt2.out.dx (by rw [HFL.out]; omega) (by rw [HFL.out]; omega) (by have := HFO.out; omega) (RdI.nil _)).mono ?_; rw [← HDG.out]; rintro e w7 ⟨g7, rfl, hD, hb⟩; have HD7 := Lib.hid hD; have HB7 := Lib.hid hb; clear hD hb))
                  | (go_at_call 14; go_must (refine (stOpen_new HD7.out HCG.out.gs (by rw [HCG.out.len]; omega) (by rw [HCG.out.ops]; omega) (by rw [HCG.out.left]; omega) HCG.out.on.flushC).mono ?_; rintro e w9 ⟨s9, rfl, hS, hO⟩; have HS9 := Lib.hid hS; have HB9 := Lib.hid (HB7.out.trans (hO.below HB7.out.size)); clear hS hO)))
                have HSt3 := Lib.hid (HSt2.out.later HB9.out)
                have HW9 := Lib.hid (HW6.out.trans (HB9.out.mono HW6.out.size))
                go_wp2_with (first
                  | (go_at_call 21; (with_reducible refine (stCount_S HS9.out).mono ?_); rintro e wz ⟨rfl, rfl⟩)
                  | (go_at_call 21; (with_reducible refine (stCount_S HSt3.out).mono ?_); rintro e wz ⟨rfl, rfl⟩)
                  | (go_at_call 9; (with_reducible refine (stAwake_any _).mono ?_); rintro e w8 ⟨rfl, hb⟩; have HB8 := Lib.hid (HW9.out.trans (hb.mono HW9.out.size)); clear hb))
                go_ret
                exact ⟨rfl, HBW.out.trans (HB8.out.mono HBW.out.size)⟩
              · have hk0 : (((k1 : Nat) : Int) == 0) = false := by rw [beq_eq_false_iff_ne]; omega
                have hky : (k1 == 0) = false := by rw [beq_eq_false_iff_ne]; omega
                have HK1 := Lib.hid hk1
                clear hk1
                go_upto_region 37 with (go_at_call 16; go_must (refine (stLoad_S HSt1.out HK1.out).mono ?_; rintro e w6 ⟨v6, rfl, ho, hb⟩; obtain ⟨a6, c6, rfl, hr6, _⟩ := own_rdw ho; have HR6 := Lib.hid hr6; have HB6 := Lib.hid hb; clear ho hb hr6))
                have HSt2 := Lib.hid (HSt1.out.later HB6.out)
                have HW6 := Lib.hid (HW5.out.trans (HB6.out.mono HW5.out.size))
                go_upto_region 38 with (first
                  | (go_at_call 17; go_must (refine (bCrash_fresh HSt2.out.dx (by rw [HFL.out]; omega) (by rw [HFL.out]; omega) (by have := HFO.out; omega) (RdI.nil _)).mono ?_; rw [← HDG.out]; rintro e w7 ⟨g7, rfl, hD, hb⟩; have HD7 := Lib.hid hD; have HB7 := Lib.hid hb; clear hD hb))
                  | (go_at_call 14; go_must (refine (stOpen_new HD7.out HCG.out.gs (by rw [HCG.out.len]; omega) (by rw [HCG.out.ops]; omega) (by rw [HCG.out.left]; omega) HCG.out.on.flushC).mono ?_; rintro e w9 ⟨s9, rfl, hS, hO⟩; have HS9 := Lib.hid hS; have HB9 := Lib.hid (HB7.out.trans (hO.below HB7.out.size)); clear hS hO)))
                have HSt3 := Lib.hid (HSt2.out.later HB9.out)
                have HW9 := Lib.hid (HW6.out.trans (HB9.out.mono HW6.out.size))
                have HR9 := Lib.hid (HR6.out.below HB9.out)
                have HHS : Hid (holdsP ⟨i1, k1, x1, false⟩ x1 k1 = true) := Lib.hid holds_self
                go_wp2_with (first
                  | (go_at_call 21; (with_reducible refine (stCount_S HS9.out).mono ?_); rintro e wz ⟨rfl, rfl⟩)
                  | (go_at_call 21; (with_reducible refine (stCount_S HSt3.out).mono ?_); rintro e wz ⟨rfl, rfl⟩)
                  | (go_at_call 15; go_must (refine (stHolds_S k1 _ rfl true HHS.out HS9.out HR9.out).mono ?_; rintro e wb ⟨rfl, hb⟩; have HWb := Lib.hid (HW9.out.trans (hb.mono HW9.out.size)); clear hb))
                  | (go_at_call 9; (with_reducible refine (stAwake_any _).mono ?_); rintro e w8 ⟨rfl, hb⟩; have HB8 := Lib.hid (HWb.out.trans (hb.mono HWb.out.size)); clear hb))
                go_ret
                exact ⟨rfl, HBW.out.trans (HB8.out.mono HBW.out.size)⟩
            | false =>
              exfalso
              rcases HOR.out with ⟨rfl, rfl⟩ | ⟨rfl, rfl⟩ <;> (rw [holds_self] at hb1; cases hb1)
set_option maxRecDepth 100000 in
set_option maxHeartbeats 1000000 in
theorem crash_big {n1 cap1 n2 cap2 n3 cap3 : Nat} {a1 a2 a3 : Option Addr} {cut : Int} (w : World) (h : 20 < n1 ∨ 40 < n2 ∨ 4 < n3 ∨ cut < 0 ∨ 5000 < cut) :
    Calls Try.prog 7 #[.slice a1 n1 cap1, .int .i64 cut, .slice a2 n2 cap2, .slice a3 n3 cap3] w fun e w' => e = .returned (.bool true) ∧ Below w.heap.size w w' := by
  by_cases h0 : 20 < n1
  · have d_n1 : decide ((20 : Int) < (n1 : Int)) = true := decide_eq_true (by omega)
    have e_n1 : decide (20 < n1) = true := decide_eq_true (by omega)
    clear h h0
    go_enter Try.func7, Try.ntmps7
    go_wp2_with (go_at_call 9; (with_reducible refine (stAwake_any _).mono ?_); rintro e w1 ⟨rfl, hb⟩)
    go_ret
    exact ⟨rfl, hb⟩
  have d_n1 : decide ((20 : Int) < (n1 : Int)) = false := decide_eq_false (by omega)
  have e_n1 : decide (20 < n1) = false := decide_eq_false (by omega)
  replace h : 40 < n2 ∨ 4 < n3 ∨ cut < 0 ∨ 5000 < cut := by omega
  clear h0
  by_cases h1 : 40 < n2
  · have d_n2 : decide ((40 : Int) < (n2 : Int)) = true := decide_eq_true (by omega)
    have e_n2 : decide (40 < n2) = true := decide_eq_true (by omega)
    clear h h1
    go_enter Try.func7, Try.ntmps7
    go_wp2_with (go_at_call 9; (with_reducible refine (stAwake_any _).mono ?_); rintro e w1 ⟨rfl, hb⟩)
    go_ret
    exact ⟨rfl, hb⟩
  have d_n2 : decide ((40 : Int) < (n2 : Int)) = false := decide_eq_false (by omega)
  have e_n2 : decide (40 < n2) = false := decide_eq_false (by omega)
  replace h : 4 < n3 ∨ cut < 0 ∨ 5000 < cut := by omega
  clear h1
  by_cases h2 : 4 < n3
  · have d_n3 : decide ((4 : Int) < (n3 : Int)) = true := decide_eq_true (by omega)
    have e_n3 : decide (4 < n3) = true := decide_eq_true (by omega)
    clear h h2
    go_enter Try.func7, Try.ntmps7
    go_wp2_with (go_at_call 9; (with_reducible refine (stAwake_any _).mono ?_); rintro e w1 ⟨rfl, hb⟩)
    go_ret
    exact ⟨rfl, hb⟩
  have d_n3 : decide ((4 : Int) < (n3 : Int)) = false := decide_eq_false (by omega)
  have e_n3 : decide (4 < n3) = false := decide_eq_false (by omega)
  replace h : cut < 0 ∨ 5000 < cut := by omega
  clear h2
  by_cases h3 : cut < 0
  · have f_cut : decide (cut < 0) = true := decide_eq_true (by omega)
    clear h h3
    go_enter Try.func7, Try.ntmps7
    go_wp2_with (go_at_call 9; (with_reducible refine (stAwake_any _).mono ?_); rintro e w1 ⟨rfl, hb⟩)
    go_ret
    exact ⟨rfl, hb⟩
  have f_cut : decide (cut < 0) = false := decide_eq_false (by omega)
  replace h : 5000 < cut := by omega
  clear h3
  have d_cut : decide (5000 < cut) = true := decide_eq_true (by omega)
  clear h
  go_enter Try.func7, Try.ntmps7
  go_wp2_with (go_at_call 9; (with_reducible refine (stAwake_any _).mono ?_); rintro e w1 ⟨rfl, hb⟩)
  go_ret
  exact ⟨rfl, hb⟩
theorem storeCrash_any {n1 cap1 n2 cap2 n3 cap3 : Nat} {a1 a2 a3 : Option Addr} {cut : Int} {l picks l3 : List Int} (w : World) (hp : RdI w a1 n1 cap1 l) (_hc : (Lit.int .i64 cut).wf = true) (hq : RdI w a2 n2 cap2 picks) (hk : RdI w a3 n3 cap3 l3) :
    Calls Try.prog 7 #[.slice a1 n1 cap1, .int .i64 cut, .slice a2 n2 cap2, .slice a3 n3 cap3] w fun e w' => e = .returned (.bool true) ∧ Below w.heap.size w w' := by
  by_cases h : 20 < n1 ∨ 40 < n2 ∨ 4 < n3 ∨ cut < 0 ∨ 5000 < cut
  · exact crash_big w h
  · exact crash_main w hp (by omega) hq (by omega) hk (by omega) (by omega) (by omega)
namespace storeCrashDone
theorem own : ownKnob Try.prog.godebug = none := by kernel_rfl
theorem laidOut : laidOutB Try.prog = true := by kernel_rfl
set_option maxRecDepth 100000 in
theorem lifted (os : Os) (started : os.Started) (H : Type) (enc : TypeId × Value → H) :
    ReturnsInHanded {} Try.checked os 7 .any (Rows.storeCrashSpec.pre6 enc Try.prog Try.f7 Rows.storeCrashRow.domain false) (Rows.storeCrashSpec.post enc Try.prog Try.f7 false true false false) := by
  refine returnsInHanded_of_change (C := Try.checked) own started (by kernel_rfl) Try.func7
    (ChangeSpec.witness6 (enc := enc) (C := Try.checked) false ⟨#[], #[.slice none 0 0, .int .i64 0, .slice none 0 0, .slice none 0 0], []⟩ 8 (by kernel_rfl) (by kernel_rfl) (by kernel_rfl) (by kernel_rfl)) ?_
  intro W base args ds gs before hval0 hW hcnd _
  have hval : ∀ (j : Nat) t v, Try.f7.params[j]? = some t → args[j]? = some v → Value.okWide Try.prog W .any base t v := hval0
  have hW' := hW
  obtain ⟨p, q, hA0, hV, rfl, hfz, hnd⟩ := hW
  have hA : DataW.TrodAll enc Try.prog W 0 (fun _ => true) true Try.f7.params.toList args.toList ds p := hA0
  rw [Try.params7] at hA hval
  obtain ⟨v0, vs0, d0, ds0, p0, q0, hargs, rfl, rfl, h0, r0⟩ := trodAll_cons hA
  obtain ⟨v1, vs1, d1, ds1, p1, q1, rfl, rfl, rfl, h1, r1⟩ := trodAll_cons r0
  obtain ⟨v2, vs2, d2, ds2, p2, q2, rfl, rfl, rfl, h2, r2⟩ := trodAll_cons r1
  obtain ⟨v3, vs3, d3, ds3, p3, q3, rfl, rfl, rfl, h3, r3⟩ := trodAll_cons r2
  obtain ⟨rfl, rfl, rfl⟩ := trodAll_nil r3
  obtain rfl : args = #[v0, v1, v2, v3] := by cases args; simp_all
  obtain ⟨rfl, rfl⟩ := trodVars_none hV
  obtain ⟨a0, len0, cap0, rfl⟩ := okWide_slice Try.underlying22 (hval 0 22 v0 rfl rfl)
  have k0 := h0
  have lt0 : ∀ x ∈ p0, x.block < W.heap.size := by obtain ⟨m, hm⟩ := k0; exact DataW.trod_lt m _ _ _ hm
  obtain ⟨l0, w0⟩ : ∃ l, RdI W a0 len0 cap0 l := by
    obtain ⟨fuel, hf⟩ := h0
    rcases open_ints Try.underlying22 Try.underlying3 (by kernel_rfl) hf with ⟨hcs, _⟩ | ⟨x, l, c, zs, hcs, _, hl, hm, hz, _, hcell, hwz⟩
    · simp [Value.cells] at hcs
      obtain ⟨rfl, rfl, rfl⟩ := hcs
      exact ⟨[], RdI.nil _⟩
    · simp [Value.cells] at hcs
      obtain ⟨rfl, rfl, rfl⟩ := hcs
      exact RdI.of_ints (.inr ⟨_, rfl, hl, hm, by simpa using hz, hcell, hwz⟩)
  obtain ⟨a1, rfl, rfl, rfl, w1⟩ := open_int Try.underlying3 (hval 1 3 v1 rfl rfl) h1
  obtain ⟨a2, len2, cap2, rfl⟩ := okWide_slice Try.underlying22 (hval 2 22 v2 rfl rfl)
  have k2 := h2
  have lt2 : ∀ x ∈ p2, x.block < W.heap.size := by obtain ⟨m, hm⟩ := k2; exact DataW.trod_lt m _ _ _ hm
  obtain ⟨l2, w2⟩ : ∃ l, RdI W a2 len2 cap2 l := by
    obtain ⟨fuel, hf⟩ := h2
    rcases open_ints Try.underlying22 Try.underlying3 (by kernel_rfl) hf with ⟨hcs, _⟩ | ⟨x, l, c, zs, hcs, _, hl, hm, hz, _, hcell, hwz⟩
    · simp [Value.cells] at hcs
      obtain ⟨rfl, rfl, rfl⟩ := hcs
      exact ⟨[], RdI.nil _⟩
    · simp [Value.cells] at hcs
      obtain ⟨rfl, rfl, rfl⟩ := hcs
      exact RdI.of_ints (.inr ⟨_, rfl, hl, hm, by simpa using hz, hcell, hwz⟩)
  obtain ⟨a3, len3, cap3, rfl⟩ := okWide_slice Try.underlying22 (hval 3 22 v3 rfl rfl)
  have k3 := h3
  have lt3 : ∀ x ∈ p3, x.block < W.heap.size := by obtain ⟨m, hm⟩ := k3; exact DataW.trod_lt m _ _ _ hm
  obtain ⟨l3, w3⟩ : ∃ l, RdI W a3 len3 cap3 l := by
    obtain ⟨fuel, hf⟩ := h3
    rcases open_ints Try.underlying22 Try.underlying3 (by kernel_rfl) hf with ⟨hcs, _⟩ | ⟨x, l, c, zs, hcs, _, hl, hm, hz, _, hcell, hwz⟩
    · simp [Value.cells] at hcs
      obtain ⟨rfl, rfl, rfl⟩ := hcs
      exact ⟨[], RdI.nil _⟩
    · simp [Value.cells] at hcs
      obtain ⟨rfl, rfl, rfl⟩ := hcs
      exact RdI.of_ints (.inr ⟨_, rfl, hl, hm, by simpa using hz, hcell, hwz⟩)
  clear hA0 hval0
  refine (storeCrash_any W w0 w1 w2 w3).mono fun e W' ⟨he, bel⟩ => ?_
  subst he
  exact ⟨_, rfl, _, _, _, [], _, [], hW', trodAll_mk1 (shut_bool Try.underlying4 _), (trodAll_cons_mk (Below.trod laidOut (by kernel_rfl) (of_decide_eq_true (by kernel_rfl)) k0 bel lt0) (trodAll_cons_mk (shut_int Try.underlying3 w1) (trodAll_cons_mk (Below.trod laidOut (by kernel_rfl) (of_decide_eq_true (by kernel_rfl)) k2 bel lt2) (trodAll_cons_mk (Below.trod laidOut (by kernel_rfl) (of_decide_eq_true (by kernel_rfl)) k3 bel lt3) trodAll_mk0)))), rfl, bel.frame _, fun h => by cases h⟩
theorem over : Rows.storeCrashRow.holds Try.pinned (OpenSpec.ofChange Rows.storeCrashSpec) :=
  OpenClaim.holds_of_wide 7 Try.f7 rfl rfl rfl rfl rfl rfl rfl ⟨rfl, rfl, rfl, rfl, rfl⟩ rfl rfl rfl rfl rfl (by kernel_rfl) Try.func7 (by kernel_rfl)
    (of_decide_eq_true (by kernel_rfl)) (by unfold Func.isWrapper; first | (rw [if_pos (by decide +kernel)]; kernel_rfl) | (rw [if_neg (by decide +kernel)]; exact ⟨rfl, rfl⟩))
    (fun os started H enc _ => lifted os started H enc)
theorem proved : Rows.StoreCrashSaid := over
#print axioms proved
end storeCrashDone

end Go.Proofs.Ytogjbhkhdccahaa
