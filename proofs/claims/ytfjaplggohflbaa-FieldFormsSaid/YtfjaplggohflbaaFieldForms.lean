/- Of chapter 5, FieldForms: for every input the law returns true, and each argument reads behind the call as it read before. No condition. -/
import Derived.Test.YtfjaplggohflbaaForms5
import Derived.ProofKit
import Derived.ShutString
import Derived.ChangeOld
namespace Go.Proofs.Ytfjaplggohflbaa
open Go.ChangeShapes Go.WideShapes Go.ChangeAt Go.RowKit
open Go.ChangeMaps (open_string shut_string)

theorem or128 (c : UInt8) : bits BinOp.or IntKind.u8 (c.toNat : Int) 128 = (((c ||| 128).toNat : Nat) : Int) := by
  rw [show (128 : Int) = ((128 : UInt8).toNat : Int) from rfl, u8_or_nat _ _ c.toNat_lt (by decide)]; simp
theorem rd_of {w : World} {g cap : Nat} {n : Nat} {r : List Value} (h : Blk w g ((leB 32 n).map bV ++ r) 5) (hc : 32 ≤ cap) (hm : cap ≤ maxLen) : RdB w (some ⟨g, 0, none⟩) 32 cap (leB 32 n) := RdB.blk r h (leB_len _ _) hc hm
set_option maxHeartbeats 4000000 in
theorem fieldForms_main {a : Option Addr} {n capa : Nat} {la : List UInt8} {k : Int} (w : World) (ha : RdB w a n capa la) (hn : n ≤ 100) :
    Calls Try.prog 4 #[.slice a n capa, .int .i64 k] w fun e w' => e = .returned (.bool true) ∧ Below w.heap.size w w' := by
  have dn : decide ((100 : Int) < (n : Int)) = false := by simp; omega
  generalize hx : feF la = x
  have WX := Lib.hid hx
  clear hn hx
  have HOK := Lib.hid (feOk_leB x)
  go_enter Try.func4, Try.ntmps4
  go_upto_region 8 with ((first | (go_at_call 13; go_must (refine (fofM _ (ha.below (by exact (by repeat (first | (with_reducible refine Below.alloc' ?_ _) | (with_reducible refine Below.drew ?_) | (with_reducible refine below_drewN ?_ _) | ((with_reducible refine Below.setCell ?_ ?_ _); rotate_left; (focus (first | exact Nat.le_refl _ | (simp; done) | (simp; omega)))) | (with_reducible assumption) | (with_reducible exact Below.refl _ _)))))).mono ?_; rintro e w1 ⟨f, rfl, hf, h1⟩; rw [WX.out] at hf; have hbel1 : Below w.heap.size w w1 := Below.call (by repeat (first | (with_reducible refine Below.alloc' ?_ _) | (with_reducible refine Below.drew ?_) | (with_reducible refine below_drewN ?_ _) | ((with_reducible refine Below.setCell ?_ ?_ _); rotate_left; (focus (first | exact Nat.le_refl _ | (simp; done) | (simp; omega)))) | (with_reducible assumption) | (with_reducible exact Below.refl _ _))) h1; clear h1 ha))     | (go_at_call 16; go_must (refine (fbytesM hf _).mono ?_; rintro e w2 ⟨gb, cb, rb, rfl, hgb, hB, hcb, hmb, h2⟩; have hX2 := (Blk.new w1 #[.int .u64 (f 0 : Nat),.int .u64 (f 1 : Nat),.int .u64 (f 2 : Nat),.int .u64 (f 3 : Nat),.int .u64 (f 4 : Nat)] 28).below' h2; have HB2 := Lib.hid hB; have hbel2 : Below w.heap.size w w2 := Below.call (show Below w.heap.size w _ from (by repeat (first | (with_reducible refine Below.alloc' ?_ _) | (with_reducible refine Below.drew ?_) | (with_reducible refine below_drewN ?_ _) | ((with_reducible refine Below.setCell ?_ ?_ _); rotate_left; (focus (first | exact Nat.le_refl _ | (simp; done) | (simp; omega)))) | (with_reducible assumption) | (with_reducible exact Below.refl _ _)))) h2; clear h2 hbel1 hB))     | (go_at_call 17; go_must (refine (fstrict_yes _ (rd_of HB2.out hcb hmb) HOK.out).mono ?_; rintro e w3 ⟨y, rfl, hy, h3⟩; rw [feF_leB] at hy; have hX3 := (hX2.below' h3).alloc (.cells #[.int .u64 (y 0 : Nat),.int .u64 (y 1 : Nat),.int .u64 (y 2 : Nat),.int .u64 (y 3 : Nat),.int .u64 (y 4 : Nat)] 28); have HB3 := Lib.hid ((HB2.out.below' h3).alloc (.cells #[.int .u64 (y 0 : Nat),.int .u64 (y 1 : Nat),.int .u64 (y 2 : Nat),.int .u64 (y 3 : Nat),.int .u64 (y 4 : Nat)] 28)); have xc := hX3.cell; have hbel3 : Below w.heap.size w w3 := Below.call hbel2 h3; clear h3 hbel2 hX2 HB2))     | (go_at_call 15; go_must (refine (fsameT hy hf rfl _).mono ?_; rintro e w4 ⟨rfl, h4⟩; have hX4 := hX3.below' h4; have HB4 := Lib.hid (HB3.out.below' h4); have hbel4 : Below w.heap.size w w4 := Below.call (show Below w.heap.size w _ from (by repeat (first | (with_reducible refine Below.alloc' ?_ _) | (with_reducible refine Below.drew ?_) | (with_reducible refine below_drewN ?_ _) | ((with_reducible refine Below.setCell ?_ ?_ _); rotate_left; (focus (first | exact Nat.le_refl _ | (simp; done) | (simp; omega)))) | (with_reducible assumption) | (with_reducible exact Below.refl _ _)))) h4; clear h4 hbel3 hX3 HB3 xc))))
  have HC := Lib.hid hcb; have HM := Lib.hid hmb
  refine wp_gen (fun W => Blk W w1.heap.size [.int .u64 (f 0 : Nat),.int .u64 (f 1 : Nat),.int .u64 (f 2 : Nat),.int .u64 (f 3 : Nat),.int .u64 (f 4 : Nat)] 28 ∧ Blk W gb ((leB 32 x.val).map bV ++ rb) 5 ∧ Below w.heap.size w W) ⟨hX4, HB4.out, hbel4⟩ (fun W0 hW => ?_)
  clear hX4 HB4 hbel4 hcb hmb WX dn HOK
  generalize w1.heap.size = A at *
  obtain ⟨hX, hB, hbel⟩ := hW
  have HB := Lib.hid hB
  clear hB hgb
  go_upto_region 9 with (first | (at_builtin; go_must (refine app_bytes _ rfl (.tmp 41) (.tmp 42) rfl W0.heap.size _ 0 [] rfl ?d1 _ _ _ (leB 32 x.val) rfl (by exact (rd_of HB.out HC.out HM.out).below (by repeat (first | (with_reducible refine Below.alloc' ?_ _) | (with_reducible refine Below.drew ?_) | (with_reducible refine below_drewN ?_ _) | ((with_reducible refine Below.setCell ?_ ?_ _); rotate_left; (focus (first | exact Nat.le_refl _ | (simp; done) | (simp; omega)))) | (with_reducible assumption) | (with_reducible exact Below.refl _ _)))) (by omega) ?d2 W0 (by exact (by repeat (first | (with_reducible refine Below.alloc' ?_ _) | (with_reducible refine Below.drew ?_) | (with_reducible refine below_drewN ?_ _) | ((with_reducible refine Below.setCell ?_ ?_ _); rotate_left; (focus (first | exact Nat.le_refl _ | (simp; done) | (simp; omega)))) | (with_reducible assumption) | (with_reducible exact Below.refl _ _)))) ?d3)))
  case d1 => exact ⟨rfl, .inr ⟨W0.heap.size, 0, #[], rfl, Nat.le_refl _, (by show (W0.heap.push _)[W0.heap.size]? = _; simp), by omega, by simp, rfl, rfl⟩⟩
  case d2 => simp
  case d3 =>
    intro v1 w1 hown hb1
    have hX1 := hX.below' hb1
    have hbel1 := Below.call hbel hb1
    obtain ⟨gc, cc, rc, rfl, hgc, hC, _, hcc, hmc⟩ := own_rdb (n := 32) (l := leB 32 x.val) hown (by omega)
    have hne : gc ≠ A := by have := hX.lt; omega
    have hwg : w.heap.size ≤ gc := Nat.le_trans hbel.size hgc
    have HHI := Lib.hid (hi_bit x.isLt)
    obtain ⟨c31, hc31⟩ : ∃ c, c = (leB 32 x.val).getD 31 0 := ⟨_, rfl⟩
    have k31 : w1.cell? ⟨gc, 31, none⟩ = some (.int .u8 (c31.toNat : Int)) := by
      rw [hC.cell, List.getElem?_append_left (by simp [leB_len]), hc31]
      simp [leB, bV]
    have kf := hC.frozen
    obtain ⟨d31, hd31⟩ : ∃ d, d = c31 ||| 128 := ⟨_, rfl⟩
    have eo : bits BinOp.or IntKind.u8 (c31.toNat : Int) 128 = (d31.toNat : Int) := by rw [hd31]; exact or128 c31
    have hC2 := hC.set 31 (bV d31)
    rw [List.set_append_left _ _ (by simp [leB_len]), ← List.map_set, hd31, hc31, HHI.out] at hC2
    have HC2 := Lib.hid hC2
    have HX1 := Lib.hid hX1
    have hcc63 : (cc : Int) ≤ 9223372036854775807 := by unfold maxLen at hmc; omega
    have HCC := Lib.hid hcc; have HMC := Lib.hid hmc
    rw [hc31] at hd31
    have HD := Lib.hid hd31
    clear hown hb1 hX hbel HB HC HM hC hC2 hc31 hd31 hX1 hcc hmc
    go_upto_region 10 with fail
    refine wp_gen (fun W => Blk W A [.int .u64 (f 0 : Nat),.int .u64 (f 1 : Nat),.int .u64 (f 2 : Nat),.int .u64 (f 3 : Nat),.int .u64 (f 4 : Nat)] 28 ∧ Blk W gc ((leB 32 (x.val + 57896044618658097711785492504343953926634992332820282019728792003956564819968)).map bV ++ rc) 5 ∧ Below w.heap.size w W) ?_ (fun W1 hW => ?_)
    · refine ⟨HX1.out.other _ (by simpa using hne) _, ?_, (by repeat (first | (with_reducible refine Below.alloc' ?_ _) | (with_reducible refine Below.drew ?_) | (with_reducible refine below_drewN ?_ _) | ((with_reducible refine Below.setCell ?_ ?_ _); rotate_left; (focus (first | exact Nat.le_refl _ | (simp; done) | (simp; omega)))) | (with_reducible assumption) | (with_reducible exact Below.refl _ _)))⟩
      have := HC2.out
      rw [← HD.out] at this
      exact this
    clear HX1 HC2 k31 kf hbel1 eo HD HHI
    obtain ⟨hX, hC, hbel⟩ := hW
    have HNO := Lib.hid (hi_no (x := x))
    have HC := Lib.hid hC; have HX := Lib.hid hX
    clear hC hX hgc hne
    go_upto_region 11 with (go_at_call 17; go_must (refine (fstrict_no _ (rd_of HC.out HCC.out HMC.out) HNO.out).mono ?_; rintro e w2 ⟨y2, rfl, hy2, h2⟩))
    refine wp_gen (fun W => (W.cell? ⟨A, 0, none⟩ = some (.int .u64 (f 0 : Nat)) ∧ W.cell? ⟨A, 1, none⟩ = some (.int .u64 (f 1 : Nat)) ∧ W.cell? ⟨A, 2, none⟩ = some (.int .u64 (f 2 : Nat)) ∧ W.cell? ⟨A, 3, none⟩ = some (.int .u64 (f 3 : Nat)) ∧ W.cell? ⟨A, 4, none⟩ = some (.int .u64 (f 4 : Nat))) ∧ Blk W gc ((leB 32 (x.val + 57896044618658097711785492504343953926634992332820282019728792003956564819968)).map bV ++ rc) 5 ∧ Below w.heap.size w W) ?_ (fun W2 hW => ?_)
    · have hX := ((HX.out.below' h2).alloc (.cells #[.int .u64 (y2 0 : Nat),.int .u64 (y2 1 : Nat),.int .u64 (y2 2 : Nat),.int .u64 (y2 3 : Nat),.int .u64 (y2 4 : Nat)] 28)).cell
      exact ⟨⟨hX 0, hX 1, hX 2, hX 3, hX 4⟩, (HC.out.below' h2).alloc _, Below.alloc' (Below.call hbel h2) _⟩
    clear HX HC hbel HNO h2
    have hst1 := Lib.hid (show ∀ W W' : World, ((W.cell? ⟨A, 0, none⟩ = some (.int .u64 (f 0 : Nat)) ∧ W.cell? ⟨A, 1, none⟩ = some (.int .u64 (f 1 : Nat)) ∧ W.cell? ⟨A, 2, none⟩ = some (.int .u64 (f 2 : Nat)) ∧ W.cell? ⟨A, 3, none⟩ = some (.int .u64 (f 3 : Nat)) ∧ W.cell? ⟨A, 4, none⟩ = some (.int .u64 (f 4 : Nat))) ∧ Blk W gc ((leB 32 (x.val + 57896044618658097711785492504343953926634992332820282019728792003956564819968)).map bV ++ rc) 5 ∧ Below w.heap.size w W) → Below W.heap.size W W' → ((W'.cell? ⟨A, 0, none⟩ = some (.int .u64 (f 0 : Nat)) ∧ W'.cell? ⟨A, 1, none⟩ = some (.int .u64 (f 1 : Nat)) ∧ W'.cell? ⟨A, 2, none⟩ = some (.int .u64 (f 2 : Nat)) ∧ W'.cell? ⟨A, 3, none⟩ = some (.int .u64 (f 3 : Nat)) ∧ W'.cell? ⟨A, 4, none⟩ = some (.int .u64 (f 4 : Nat))) ∧ Blk W' gc ((leB 32 (x.val + 57896044618658097711785492504343953926634992332820282019728792003956564819968)).map bV ++ rc) 5 ∧ Below w.heap.size w W') from by
      rintro W W' ⟨h1, h2, h3⟩ hb
      exact ⟨keep5 _ _ h1 hb, h2.below' hb, Below.call h3 hb⟩)
    have hst := hst1
    clear hst1
    have HS := Lib.hid (show (fun W => (W.cell? ⟨A, 0, none⟩ = some (.int .u64 (f 0 : Nat)) ∧ W.cell? ⟨A, 1, none⟩ = some (.int .u64 (f 1 : Nat)) ∧ W.cell? ⟨A, 2, none⟩ = some (.int .u64 (f 2 : Nat)) ∧ W.cell? ⟨A, 3, none⟩ = some (.int .u64 (f 3 : Nat)) ∧ W.cell? ⟨A, 4, none⟩ = some (.int .u64 (f 4 : Nat))) ∧ Blk W gc ((leB 32 (x.val + 57896044618658097711785492504343953926634992332820282019728792003956564819968)).map bV ++ rc) 5 ∧ Below w.heap.size w W) W2.drew from hst.out _ _ hW (Below.drew (Below.refl _ _)))
    clear hW
    have hrd := Lib.hid (show ∀ W, ((W.cell? ⟨A, 0, none⟩ = some (.int .u64 (f 0 : Nat)) ∧ W.cell? ⟨A, 1, none⟩ = some (.int .u64 (f 1 : Nat)) ∧ W.cell? ⟨A, 2, none⟩ = some (.int .u64 (f 2 : Nat)) ∧ W.cell? ⟨A, 3, none⟩ = some (.int .u64 (f 3 : Nat)) ∧ W.cell? ⟨A, 4, none⟩ = some (.int .u64 (f 4 : Nat))) ∧ Blk W gc ((leB 32 (x.val + 57896044618658097711785492504343953926634992332820282019728792003956564819968)).map bV ++ rc) 5 ∧ Below w.heap.size w W) → RdB W (some ⟨gc, 0, none⟩) 32 cc (leB 32 (x.val + 57896044618658097711785492504343953926634992332820282019728792003956564819968)) from fun W h => rd_of h.2.1 HCC.out HMC.out)
    go_region_held3 (fun W => (W.cell? ⟨A, 0, none⟩ = some (.int .u64 (f 0 : Nat)) ∧ W.cell? ⟨A, 1, none⟩ = some (.int .u64 (f 1 : Nat)) ∧ W.cell? ⟨A, 2, none⟩ = some (.int .u64 (f 2 : Nat)) ∧ W.cell? ⟨A, 3, none⟩ = some (.int .u64 (f 3 : Nat)) ∧ W.cell? ⟨A, 4, none⟩ = some (.int .u64 (f 4 : Nat))) ∧ Blk W gc ((leB 32 (x.val + 57896044618658097711785492504343953926634992332820282019728792003956564819968)).map bV ++ rc) 5 ∧ Below w.heap.size w W) (first | (exact HS.out) | (first | assumption | (refine hst.out _ _ ?_ hb; assumption) | (refine hst.out _ _ ?_ (Below.alloc' (Below.refl _ _) _); assumption) | (refine hst.out _ _ ?_ (Below.drew (Below.refl _ _)); assumption))) ((first       | (go_at_call 13; (with_reducible refine (fofM _ (hrd.out _ (by with_reducible assumption))).mono ?_); rintro e w3 ⟨m, rfl, hm, hb⟩; rw [hi_same] at hm)       | (go_at_call 15; (with_reducible refine (fsameT (by assumption) (by assumption) rfl _).mono ?_); rintro e w3 ⟨rfl, hb⟩)))
    rename_i hEnd
    have hbel := hEnd.2.2
    clear hEnd HS hst hrd
    have HP := Lib.hid less_one
    go_upto_region 16 with ((first | (go_at_call 18; first | ((with_reducible refine (fsmall0 _).mono ?_); rintro e u1 ⟨m0, rfl, hm0, h1⟩; have hb1 : Below w.heap.size w u1 := Below.call hbel h1; clear h1) | ((with_reducible refine (fsmall1 _).mono ?_); rintro e u2 ⟨m1, rfl, hm1, h2⟩; have hb2 : Below w.heap.size w u2 := Below.call hb1 h2; clear h2))       | (go_at_call 19; go_must (refine (fsubM hm0 hm1 _).mono ?_; rintro e u3 ⟨m2, rfl, hm2, h3⟩; rw [HP.out] at hm2; have hb3 : Below w.heap.size w u3 := Below.call hb2 h3; clear h3))       | (go_at_call 16; go_must (refine (fbytesM hm2 _).mono ?_; rintro e u4 ⟨gp, cp, rp, rfl, hgp, hP, hcp, hmp, h4⟩; have hb4 : Below w.heap.size w u4 := Below.call hb3 h4; have HPB := Lib.hid hP; clear h4 hP))))
    obtain ⟨r, hr⟩ : ∃ r, (k % 19).toNat = r := ⟨_, rfl⟩
    have hr19 : r < 19 := by omega
    have HRD := Lib.hid (show ∀ w, Calls Try.prog 20 #[.int .i64 k, .int .i64 19] w fun e w' => e = .returned (.int .i64 (r : Nat)) ∧ w = w' from fun w => by have := round19 k w; rwa [hr] at this)
    have HR := Lib.hid hr19
    obtain ⟨b0, hb0⟩ : ∃ b0, b0 = 237 + r := ⟨_, rfl⟩
    have e1 : IntKind.u8.wrap (r : Int) = (r : Int) := by rw [wrap8]; omega
    have e2 : IntKind.u8.wrap (237 + (r : Int)) = (b0 : Int) := by rw [wrap8]; omega
    have e3 : IntKind.u64.wrap (r : Int) = (r : Int) := by rw [wrapU]; omega
    have e1b : (r : Int) % 256 = (r : Int) := by omega
    have e2b : (237 + (r : Int)) % 256 = (b0 : Int) := by omega
    have e3b : (r : Int) % 18446744073709551616 = (r : Int) := by omega
    have HB0 := Lib.hid hb0
    have k0 : u4.cell? ⟨gp, 0, none⟩ = some (.int .u8 236) := by
      rw [HPB.out.cell, List.getElem?_append_left (by simp [leB_len]), List.getElem?_map, show (leB 32 (fn (Pq - 1)).val)[0]? = some 236 from by decide +kernel]
      rfl
    have kf := HPB.out.frozen
    have hcp63 : (32 : Int) ≤ (cp : Int) := by omega
    have hwg : w.heap.size ≤ gp := Nat.le_trans hb3.size hgp
    have HCP := Lib.hid hcp; have HMP := Lib.hid hmp
    clear hr hr19 hb0 hcp hmp hgp
    go_region_with ((go_at_call 20; (with_reducible refine (HRD.out _).mono ?_); rintro e u5 ⟨rfl, rfl⟩))
    all_goals
      go_upto_region 17 with fail
      refine wp_gen (fun W => Blk W gp ((leB 32 (Pq + r)).map bV ++ rp) 5 ∧ Below w.heap.size w W) ?_ (fun W3 hW => ?_)
      · refine ⟨?_, (by repeat (first | (with_reducible refine Below.alloc' ?_ _) | (with_reducible refine Below.drew ?_) | (with_reducible refine below_drewN ?_ _) | ((with_reducible refine Below.setCell ?_ ?_ _); rotate_left; (focus (first | exact Nat.le_refl _ | (simp; done) | (simp; omega)))) | (with_reducible assumption) | (with_reducible exact Below.refl _ _)))⟩
        have h5 := HPB.out.drew.set 0 (bV (UInt8.ofNat (237 + r)))
        rw [List.set_append_left _ _ (by simp [leB_len]), ← List.map_set, show (fn (Pq - 1)).val = Pq - 1 from by decide +kernel, p_bytes ⟨r, HR.out⟩] at h5
        have h6 : bV (UInt8.ofNat (237 + r)) = .int .u8 (IntKind.u8.wrap (IntKind.u8.wrap 237 + (r : Int))) := by
          have := HR.out
          rw [wrap8, wrap8]; first | (simp [bV]; done) | (simp [bV]; omega)
        rw [h6] at h5
        exact h5
      clear HPB k0 kf hb4 hb3 hb2 hb1 hbel
      obtain ⟨hP, hbel⟩ := hW
      have HPB := Lib.hid hP
      clear hP
      have HNO := Lib.hid (p_no HR.out)
      go_upto_region 18 with (go_at_call 17; go_must (refine (fstrict_no _ (rd_of HPB.out HCP.out HMP.out) HNO.out).mono ?_; rintro e u6 ⟨z, rfl, hz, h2⟩))
      have hZn : Blk (u6.alloc (.cells #[.int .u64 (z 0 : Nat),.int .u64 (z 1 : Nat),.int .u64 (z 2 : Nat),.int .u64 (z 3 : Nat),.int .u64 (z 4 : Nat)] 28)) u6.heap.size [.int .u64 (z 0 : Nat),.int .u64 (z 1 : Nat),.int .u64 (z 2 : Nat),.int .u64 (z 3 : Nat),.int .u64 (z 4 : Nat)] 28 := Blk.new u6 _ _
      refine wp_gen (fun W => (W.cell? ⟨u6.heap.size, 0, none⟩ = some (.int .u64 (z 0 : Nat)) ∧ W.cell? ⟨u6.heap.size, 1, none⟩ = some (.int .u64 (z 1 : Nat)) ∧ W.cell? ⟨u6.heap.size, 2, none⟩ = some (.int .u64 (z 2 : Nat)) ∧ W.cell? ⟨u6.heap.size, 3, none⟩ = some (.int .u64 (z 3 : Nat)) ∧ W.cell? ⟨u6.heap.size, 4, none⟩ = some (.int .u64 (z 4 : Nat))) ∧ Blk W gp ((leB 32 (Pq + r)).map bV ++ rp) 5 ∧ Below w.heap.size w W) ?_ (fun W4 hW => ?_)
      · have hX := hZn.cell
        exact ⟨⟨hX 0, hX 1, hX 2, hX 3, hX 4⟩, (HPB.out.below' h2).alloc _, Below.alloc' (Below.call hbel h2) _⟩
      clear hZn HPB hbel HNO h2
      generalize u6.heap.size = Z at *
      have hst1 := Lib.hid (show ∀ W W' : World, ((W.cell? ⟨Z, 0, none⟩ = some (.int .u64 (z 0 : Nat)) ∧ W.cell? ⟨Z, 1, none⟩ = some (.int .u64 (z 1 : Nat)) ∧ W.cell? ⟨Z, 2, none⟩ = some (.int .u64 (z 2 : Nat)) ∧ W.cell? ⟨Z, 3, none⟩ = some (.int .u64 (z 3 : Nat)) ∧ W.cell? ⟨Z, 4, none⟩ = some (.int .u64 (z 4 : Nat))) ∧ Blk W gp ((leB 32 (Pq + r)).map bV ++ rp) 5 ∧ Below w.heap.size w W) → Below W.heap.size W W' → ((W'.cell? ⟨Z, 0, none⟩ = some (.int .u64 (z 0 : Nat)) ∧ W'.cell? ⟨Z, 1, none⟩ = some (.int .u64 (z 1 : Nat)) ∧ W'.cell? ⟨Z, 2, none⟩ = some (.int .u64 (z 2 : Nat)) ∧ W'.cell? ⟨Z, 3, none⟩ = some (.int .u64 (z 3 : Nat)) ∧ W'.cell? ⟨Z, 4, none⟩ = some (.int .u64 (z 4 : Nat))) ∧ Blk W' gp ((leB 32 (Pq + r)).map bV ++ rp) 5 ∧ Below w.heap.size w W') from by
        rintro W W' ⟨h1, h2, h3⟩ hb
        exact ⟨keep5 _ _ h1 hb, h2.below' hb, Below.call h3 hb⟩)
      have hst := hst1
      clear hst1
      have HS := Lib.hid (show (fun W => (W.cell? ⟨Z, 0, none⟩ = some (.int .u64 (z 0 : Nat)) ∧ W.cell? ⟨Z, 1, none⟩ = some (.int .u64 (z 1 : Nat)) ∧ W.cell? ⟨Z, 2, none⟩ = some (.int .u64 (z 2 : Nat)) ∧ W.cell? ⟨Z, 3, none⟩ = some (.int .u64 (z 3 : Nat)) ∧ W.cell? ⟨Z, 4, none⟩ = some (.int .u64 (z 4 : Nat))) ∧ Blk W gp ((leB 32 (Pq + r)).map bV ++ rp) 5 ∧ Below w.heap.size w W) W4.drew from hst.out _ _ hW (Below.drew (Below.refl _ _)))
      clear hW
      have hrd := Lib.hid (show ∀ W, ((W.cell? ⟨Z, 0, none⟩ = some (.int .u64 (z 0 : Nat)) ∧ W.cell? ⟨Z, 1, none⟩ = some (.int .u64 (z 1 : Nat)) ∧ W.cell? ⟨Z, 2, none⟩ = some (.int .u64 (z 2 : Nat)) ∧ W.cell? ⟨Z, 3, none⟩ = some (.int .u64 (z 3 : Nat)) ∧ W.cell? ⟨Z, 4, none⟩ = some (.int .u64 (z 4 : Nat))) ∧ Blk W gp ((leB 32 (Pq + r)).map bV ++ rp) 5 ∧ Below w.heap.size w W) → RdB W (some ⟨gp, 0, none⟩) 32 cp (leB 32 (Pq + r)) from fun W h => rd_of h.2.1 HCP.out HMP.out)
      have HR64 : Hid (r < 18446744073709551616) := Lib.hid (by have := HR.out; omega)
      have HZ0 : Hid ((0 : F) = fn 0) := Lib.hid rfl
      go_region_held3 (fun W => (W.cell? ⟨Z, 0, none⟩ = some (.int .u64 (z 0 : Nat)) ∧ W.cell? ⟨Z, 1, none⟩ = some (.int .u64 (z 1 : Nat)) ∧ W.cell? ⟨Z, 2, none⟩ = some (.int .u64 (z 2 : Nat)) ∧ W.cell? ⟨Z, 3, none⟩ = some (.int .u64 (z 3 : Nat)) ∧ W.cell? ⟨Z, 4, none⟩ = some (.int .u64 (z 4 : Nat))) ∧ Blk W gp ((leB 32 (Pq + r)).map bV ++ rp) 5 ∧ Below w.heap.size w W) (first | (exact HS.out) | (first | assumption | (refine hst.out _ _ ?_ hb; assumption) | (refine hst.out _ _ ?_ (Below.alloc' (Below.refl _ _) _); assumption) | (refine hst.out _ _ ?_ (Below.drew (Below.refl _ _)); assumption))) ((first         | (go_at_call 13; (with_reducible refine (fofM _ (hrd.out _ (by with_reducible assumption))).mono ?_); rintro e w3 ⟨m, rfl, hm, hb⟩; rw [p_same HR.out] at hm)         | (go_at_call 20; (with_reducible refine (HRD.out _).mono ?_); rintro e w3 ⟨rfl, rfl⟩)         | (go_at_call 18; first | ((with_reducible refine (fsmall0 _).mono ?_); rintro e w3 ⟨m, rfl, hm, hb⟩) | ((with_reducible refine (fsmallM HR64.out _).mono ?_); rintro e w3 ⟨m, rfl, hm, hb⟩))         | (go_at_call 12; (with_reducible refine (law5awake_any _).mono ?_); rintro e w3 ⟨rfl, hb⟩)         | (go_at_call 15; (with_reducible refine (fsameT (by assumption) (by assumption) (by with_reducible first | exact HZ0.out | rfl) _).mono ?_); rintro e w3 ⟨rfl, hb⟩)))
      rename_i hEnd
      have hbelE := hEnd.2.2
      clear hEnd
      go_wp2
      go_ret
      exact ⟨rfl, hbelE⟩
theorem fieldForms_any {a : Option Addr} {n capa : Nat} {la : List UInt8} {k : Int} (w : World) (ha : RdB w a n capa la) (_wk : (Lit.int .i64 k).wf = true) :
    Calls Try.prog 4 #[.slice a n capa, .int .i64 k] w fun e w' => e = .returned (.bool true) ∧ Below w.heap.size w w' := by
  by_cases hn : n ≤ 100
  · exact fieldForms_main w ha hn
  · have dn : decide ((100 : Int) < (n : Int)) = true := by simp; omega
    clear hn ha
    go_enter Try.func4, Try.ntmps4
    go_wp2_with (go_at_call 12; (with_reducible refine (law5awake_any _).mono ?_); rintro e w2 ⟨rfl, h2⟩)
    go_ret
    exact ⟨rfl, by assumption⟩
namespace fieldFormsDone
theorem own : ownKnob Try.prog.godebug = none := by kernel_rfl
theorem laidOut : laidOutB Try.prog = true := by kernel_rfl
set_option maxRecDepth 100000 in
theorem lifted (os : Os) (started : os.Started) (H : Type) (enc : TypeId × Value → H) :
    ReturnsInHanded {} Try.checked os 4 .any (Rows.fieldFormsSpec.pre6 enc Try.prog Try.f4 Rows.fieldFormsRow.domain false) (Rows.fieldFormsSpec.post enc Try.prog Try.f4 false true false false) := by
  refine returnsInHanded_of_change (C := Try.checked) own started (by kernel_rfl) Try.func4
    (ChangeSpec.witness6 (enc := enc) (C := Try.checked) false ⟨#[], #[.slice none 0 0, .int .i64 0], []⟩ 8 (by kernel_rfl) (by kernel_rfl) (by kernel_rfl) (by kernel_rfl)) ?_
  intro W base args ds gs before hval0 hW hcnd _
  have hval : ∀ (j : Nat) t v, Try.f4.params[j]? = some t → args[j]? = some v → Value.okWide Try.prog W .any base t v := hval0
  have hW' := hW
  obtain ⟨p, q, hA0, hV, rfl, hfz, hnd⟩ := hW
  have hA : DataW.TrodAll enc Try.prog W 0 (fun _ => true) true Try.f4.params.toList args.toList ds p := hA0
  rw [Try.params4] at hA hval
  obtain ⟨v0, vs0, d0, ds0, p0, q0, hargs, rfl, rfl, h0, r0⟩ := trodAll_cons hA
  obtain ⟨v1, vs1, d1, ds1, p1, q1, rfl, rfl, rfl, h1, r1⟩ := trodAll_cons r0
  obtain ⟨rfl, rfl, rfl⟩ := trodAll_nil r1
  obtain rfl : args = #[v0, v1] := by cases args; simp_all
  obtain ⟨rfl, rfl⟩ := trodVars_none hV
  obtain ⟨a0, len0, cap0, rfl⟩ := okWide_slice Try.underlying22 (hval 0 22 v0 rfl rfl)
  have k0 := h0
  have lt0 : ∀ x ∈ p0, x.block < W.heap.size := by obtain ⟨m, hm⟩ := k0; exact DataW.trod_lt m _ _ _ hm
  obtain ⟨l0, w0⟩ : ∃ l, RdB W a0 len0 cap0 l := by
    obtain ⟨fuel, hf⟩ := h0
    rcases open_ints Try.underlying22 Try.underlying5 (by kernel_rfl) hf with ⟨hcs, _⟩ | ⟨x, l, c, zs, hcs, _, hl, hm, hz, _, hcell, hwz⟩
    · simp [Value.cells] at hcs
      obtain ⟨rfl, rfl, rfl⟩ := hcs
      exact ⟨[], RdB.nil _⟩
    · simp [Value.cells] at hcs
      obtain ⟨rfl, rfl, rfl⟩ := hcs
      exact RdB.of_ints (.inr ⟨_, rfl, hl, hm, by simpa using hz, hcell, hwz⟩)
  obtain ⟨a1, rfl, rfl, rfl, w1⟩ := open_int Try.underlying3 (hval 1 3 v1 rfl rfl) h1
  clear hA0 hval0
  refine (fieldForms_any W w0 w1).mono fun e W' ⟨he, bel⟩ => ?_
  subst he
  exact ⟨_, rfl, _, _, _, [], _, [], hW', trodAll_mk1 (shut_bool Try.underlying4 _), (trodAll_cons_mk (Below.trod laidOut (by kernel_rfl) (of_decide_eq_true (by kernel_rfl)) k0 bel lt0) (trodAll_cons_mk (shut_int Try.underlying3 w1) trodAll_mk0)), rfl, bel.frame _, fun h => by cases h⟩
theorem over : Rows.fieldFormsRow.holds Try.pinned (OpenSpec.ofChange Rows.fieldFormsSpec) :=
  OpenClaim.holds_of_wide 4 Try.f4 rfl rfl rfl rfl rfl rfl rfl ⟨rfl, rfl, rfl, rfl, rfl⟩ rfl rfl rfl rfl rfl (by kernel_rfl) Try.func4 (by kernel_rfl)
    (of_decide_eq_true (by kernel_rfl)) (by unfold Func.isWrapper; first | (rw [if_pos (by decide +kernel)]; kernel_rfl) | (rw [if_neg (by decide +kernel)]; exact ⟨rfl, rfl⟩))
    (fun os started H enc _ => lifted os started H enc)
theorem proved : Rows.FieldFormsSaid := over
#print axioms proved
end fieldFormsDone

end Go.Proofs.Ytfjaplggohflbaa
