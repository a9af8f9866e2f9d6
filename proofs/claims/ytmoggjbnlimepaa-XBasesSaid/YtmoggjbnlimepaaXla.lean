/- The statements of chapter 6: what they call, by contracts. -/
import Derived.Test.YtmoggjbnlimepaaXrx
import Derived.Test.YtmoggjbnlimepaaXmu
import Derived.Test.YtmoggjbnlimepaaHex
import Derived.Test.YtmoggjbnlimepaaXev
namespace Go.Proofs.Ytmoggjbnlimepaa
open Go Go.RowKit

/-- What X25519 makes of a secret and a public key. -/
def xB (l p : List UInt8) : List UInt8 := leB 32 (ladder (leN (clampB l)) (feF p)).val
theorem xB_len (l p : List UInt8) : (xB l p).length = 32 := leB_len _ _
/-- New bytes. -/
def NewB (w : World) (l : List UInt8) (e : Ending) (w' : World) : Prop := ∃ g n cap r, e = .returned (.slice (some ⟨g, 0, none⟩) n cap) ∧ w.heap.size ≤ g ∧ Blk w' g (l.map bV ++ r) 5 ∧ l.length = n ∧ n ≤ cap ∧ cap ≤ maxLen ∧ Below w.heap.size w w'
theorem multB {a b : Option Addr} {n cap m cap' : Nat} {l p : List UInt8} {w : World} (hsec : RdB w a n cap l) (hpub : RdB w b m cap' p) :
    Calls Try.prog 13 #[.slice a n cap, .slice b m cap'] w (NewB w (xB l p)) :=
  (mult_any w hsec hpub).mono fun _ _ ⟨g, c, r, he, hg, hB, h1, h2, hb⟩ => ⟨g, 32, c, r, he, hg, hB, xB_len _ _, h1, h2, hb⟩
theorem rmultB {a b : Option Addr} {n cap m cap' : Nat} {l p : List UInt8} {w : World} (hsec : RdB w a n cap l) (hpub : RdB w b m cap' p) :
    Calls Try.prog 16 #[.slice a n cap, .slice b m cap'] w (NewB w (xB l p)) :=
  (rx_any w hsec hpub).mono fun _ _ ⟨g, c, r, he, hg, hB, h1, h2, hb⟩ => ⟨g, 32, c, r, he, hg, hB, xB_len _ _, h1, h2, hb⟩
theorem clampB' {a : Option Addr} {n cap : Nat} {l : List UInt8} {w : World} (h : RdB w a n cap l) : Calls Try.prog 14 #[.slice a n cap] w (NewB w (clampB l)) :=
  (clamp_any w h).mono fun _ _ ⟨he, hB, hb⟩ => ⟨_, 32, 32, [], he, Nat.le_refl _, by simpa using hB, clampB_len _, Nat.le_refl _, by unfold maxLen; omega, hb⟩
theorem rclampB {a : Option Addr} {n cap : Nat} {l : List UInt8} {w : World} (h : RdB w a n cap l) : Calls Try.prog 15 #[.slice a n cap] w (NewB w (clampB l)) :=
  (rclamp_any w h).mono fun _ _ ⟨he, hB, hb⟩ => ⟨_, 32, 32, [], he, Nat.le_refl _, by simpa using hB, clampB_len _, Nat.le_refl _, by unfold maxLen; omega, hb⟩
theorem nine_rd (w : World) : RdB (w.alloc (.cells #[.int .u8 9] 5)) (some ⟨w.heap.size, 0, none⟩) 1 1 [9] := RdB.blk (l := [9]) [] (Blk.new w #[.int .u8 9] 5) rfl (by omega) (by unfold maxLen; omega)
theorem NewB.on {w w1 w' : World} {l : List UInt8} {e : Ending} (h : NewB w1 l e w') (hb : Below w.heap.size w w1) : NewB w l e w' := by
  obtain ⟨g, n, cap, r, he, hg, hB, h1, h2, h3, hb'⟩ := h
  exact ⟨g, n, cap, r, he, Nat.le_trans hb.size hg, hB, h1, h2, h3, Below.call hb hb'⟩
theorem baseB {a : Option Addr} {n cap : Nat} {l : List UInt8} {w : World} (h : RdB w a n cap l) : Calls Try.prog 17 #[.slice a n cap] w (NewB w (xB l [9])) := by
  go_enter Try.func17, Try.ntmps17
  go_wp2_with (go_at_call 13; go_must (refine (multB (h.below (by repeat (first | (with_reducible refine Below.alloc' ?_ _) | (with_reducible refine Below.drew ?_) | (with_reducible refine below_drewN ?_ _) | ((with_reducible refine Below.setCell ?_ ?_ _); rotate_left; (focus (first | exact Nat.le_refl _ | (simp; done) | (simp; omega)))) | (with_reducible assumption) | (with_reducible exact Below.refl _ _)))) (nine_rd w)).mono ?_; intro e w1 hN; have hN2 := Lib.hid (NewB.on hN (show Below w.heap.size w _ from (by repeat (first | (with_reducible refine Below.alloc' ?_ _) | (with_reducible refine Below.drew ?_) | (with_reducible refine below_drewN ?_ _) | ((with_reducible refine Below.setCell ?_ ?_ _); rotate_left; (focus (first | exact Nat.le_refl _ | (simp; done) | (simp; omega)))) | (with_reducible assumption) | (with_reducible exact Below.refl _ _))))); clear hN; obtain ⟨g, n', cap', r, he, hr⟩ := hN2.out; subst he))
  go_ret
  exact hN2.out
theorem rbaseB {a : Option Addr} {n cap : Nat} {l : List UInt8} {w : World} (h : RdB w a n cap l) : Calls Try.prog 18 #[.slice a n cap] w (NewB w (xB l [9])) := by
  go_enter Try.func18, Try.ntmps18
  go_wp2_with (go_at_call 16; go_must (refine (rmultB (h.below (by repeat (first | (with_reducible refine Below.alloc' ?_ _) | (with_reducible refine Below.drew ?_) | (with_reducible refine below_drewN ?_ _) | ((with_reducible refine Below.setCell ?_ ?_ _); rotate_left; (focus (first | exact Nat.le_refl _ | (simp; done) | (simp; omega)))) | (with_reducible assumption) | (with_reducible exact Below.refl _ _)))) (nine_rd w)).mono ?_; intro e w1 hN; have hN2 := Lib.hid (NewB.on hN (show Below w.heap.size w _ from (by repeat (first | (with_reducible refine Below.alloc' ?_ _) | (with_reducible refine Below.drew ?_) | (with_reducible refine below_drewN ?_ _) | ((with_reducible refine Below.setCell ?_ ?_ _); rotate_left; (focus (first | exact Nat.le_refl _ | (simp; done) | (simp; omega)))) | (with_reducible assumption) | (with_reducible exact Below.refl _ _))))); clear hN; obtain ⟨g, n', cap', r, he, hr⟩ := hN2.out; subst he))
  go_ret
  exact hN2.out
/-- The secret that two share: what is told, and the bytes. -/
def shC (l p : List UInt8) : Int := if l.length = 32 ∧ p.length = 32 then (if xB l p = List.replicate 32 0 then 12 else 0) else 1
def shB (l p : List UInt8) : List UInt8 := if shC l p = 0 then xB l p else []
/-- Two results: bytes and what is told. -/
def NewBC (w : World) (l : List UInt8) (c : Int) (e : Ending) (w' : World) : Prop := ∃ a n cap, e = .returned (.tuple #[.slice a n cap, .int .i64 c]) ∧ RdB w' a n cap l ∧ Below w.heap.size w w'
theorem shC_1 {l p : List UInt8} (h : ¬ (l.length = 32 ∧ p.length = 32)) : shC l p = 1 ∧ shB l p = [] := by
  have e : shC l p = 1 := by unfold shC; rw [if_neg h]
  exact ⟨e, by unfold shB; rw [e]; rfl⟩
theorem shC_12 {l p : List UInt8} (h : l.length = 32 ∧ p.length = 32) (h2 : xB l p = List.replicate 32 0) : shC l p = 12 ∧ shB l p = [] := by
  have e : shC l p = 12 := by unfold shC; rw [if_pos h, if_pos h2]
  exact ⟨e, by unfold shB; rw [e]; rfl⟩
theorem shC_0 {l p : List UInt8} (h : l.length = 32 ∧ p.length = 32) (h2 : ¬ xB l p = List.replicate 32 0) : shC l p = 0 ∧ shB l p = xB l p := by
  have e : shC l p = 0 := by unfold shC; rw [if_pos h, if_neg h2]
  exact ⟨e, by unfold shB; rw [e]; rfl⟩
theorem make32b (w : World) : (Instr.makeSlice 22 (.int .i64 32) (.int .i64 32)).run Try.prog w = .ok (.slice (some ⟨w.heap.size, 0, none⟩) 32 32) (w.alloc (.cells ((List.replicate 32 (0 : UInt8)).map bV).toArray 5)) := by kernel_rfl
theorem shared_n1 {a b : Option Addr} {n cap m cap' : Nat} (w : World) (hn : n ≠ 32) : Calls Try.prog 10 #[.slice a n cap, .slice b m cap'] w fun e w' => e = .returned (.tuple #[.slice none 0 0, .int .i64 1]) ∧ Below w.heap.size w w' := by
  have d1 : ((n : Int) != 32) = true := by simp; omega
  have d2 : ((n : Int) == 32) = false := by simp; omega
  clear hn
  go_enter Try.func10, Try.ntmps10
  go_wp2
  go_ret2
  exact ⟨rfl, Below.refl _ _⟩
theorem shared_n2 {a b : Option Addr} {cap m cap' : Nat} (w : World) (hm : m ≠ 32) : Calls Try.prog 10 #[.slice a 32 cap, .slice b m cap'] w fun e w' => e = .returned (.tuple #[.slice none 0 0, .int .i64 1]) ∧ Below w.heap.size w w' := by
  have d1 : ((m : Int) != 32) = true := by simp; omega
  have d2 : ((m : Int) == 32) = false := by simp; omega
  clear hm
  go_enter Try.func10, Try.ntmps10
  go_wp2
  go_ret2
  exact ⟨rfl, Below.refl _ _⟩
set_option maxHeartbeats 1000000 in
theorem shared_zero {a b : Option Addr} {cap cap' : Nat} {l p : List UInt8} (w : World) (hsec : RdB w a 32 cap l) (hpub : RdB w b 32 cap' p) (hz : decide (xB l p = List.replicate 32 0) = true) :
    Calls Try.prog 10 #[.slice a 32 cap, .slice b 32 cap'] w (NewBC w [] 12) := by
  have HZ := Lib.hid hz
  clear hz
  go_enter Try.func10, Try.ntmps10
  go_upto_region 4 with ((go_at_call 13; go_must (refine (multB hsec hpub).mono ?_; rintro e w1 ⟨g, nn, cc, r, rfl, hg, hB, hl, hc, hm, hbel⟩; (rw [xB_len] at hl); subst hl; have HB := Lib.hid hB; clear hB)))
  have hmk := make32b
  go_wp2_with (go_at_call 20; go_must (refine (equal_any _ ((RdB.blk r HB.out (xB_len _ _) hc hm).below (by repeat (first | (with_reducible refine Below.alloc' ?_ _) | (with_reducible refine Below.drew ?_) | (with_reducible refine below_drewN ?_ _) | ((with_reducible refine Below.setCell ?_ ?_ _); rotate_left; (focus (first | exact Nat.le_refl _ | (simp; done) | (simp; omega)))) | (with_reducible assumption) | (with_reducible exact Below.refl _ _)))) (RdB.blk (l := List.replicate 32 0) (cap := 32) (w := w1.alloc (.cells ((List.replicate 32 (0 : UInt8)).map bV).toArray 5)) [] (by have h := Blk.new w1 ((List.replicate 32 (0 : UInt8)).map bV).toArray 5; simpa using h) (by simp) (by omega) (by unfold maxLen; omega))).mono ?_; rintro e w2 ⟨rfl, hb2⟩; rw [HZ.out]; have hbel2 : Below w.heap.size w w2 := Below.call (show Below w.heap.size w _ from (by repeat (first | (with_reducible refine Below.alloc' ?_ _) | (with_reducible refine Below.drew ?_) | (with_reducible refine below_drewN ?_ _) | ((with_reducible refine Below.setCell ?_ ?_ _); rotate_left; (focus (first | exact Nat.le_refl _ | (simp; done) | (simp; omega)))) | (with_reducible assumption) | (with_reducible exact Below.refl _ _)))) hb2; have HB2 := Lib.hid ((HB.out.alloc (.cells ((List.replicate 32 (0 : UInt8)).map bV).toArray 5)).below' hb2); clear hb2 hbel))
  go_ret2
  exact ⟨none, 0, 0, rfl, RdB.nil _, hbel2⟩
set_option maxHeartbeats 1000000 in
theorem shared_some {a b : Option Addr} {cap cap' : Nat} {l p : List UInt8} (w : World) (hsec : RdB w a 32 cap l) (hpub : RdB w b 32 cap' p) (hz : decide (xB l p = List.replicate 32 0) = false) :
    Calls Try.prog 10 #[.slice a 32 cap, .slice b 32 cap'] w (NewBC w (xB l p) 0) := by
  have HZ := Lib.hid hz
  clear hz
  go_enter Try.func10, Try.ntmps10
  go_upto_region 4 with ((go_at_call 13; go_must (refine (multB hsec hpub).mono ?_; rintro e w1 ⟨g, nn, cc, r, rfl, hg, hB, hl, hc, hm, hbel⟩; (rw [xB_len] at hl); subst hl; have HB := Lib.hid hB; clear hB)))
  have hmk := make32b
  go_wp2_with (go_at_call 20; go_must (refine (equal_any _ ((RdB.blk r HB.out (xB_len _ _) hc hm).below (by repeat (first | (with_reducible refine Below.alloc' ?_ _) | (with_reducible refine Below.drew ?_) | (with_reducible refine below_drewN ?_ _) | ((with_reducible refine Below.setCell ?_ ?_ _); rotate_left; (focus (first | exact Nat.le_refl _ | (simp; done) | (simp; omega)))) | (with_reducible assumption) | (with_reducible exact Below.refl _ _)))) (RdB.blk (l := List.replicate 32 0) (cap := 32) (w := w1.alloc (.cells ((List.replicate 32 (0 : UInt8)).map bV).toArray 5)) [] (by have h := Blk.new w1 ((List.replicate 32 (0 : UInt8)).map bV).toArray 5; simpa using h) (by simp) (by omega) (by unfold maxLen; omega))).mono ?_; rintro e w2 ⟨rfl, hb2⟩; rw [HZ.out]; have hbel2 : Below w.heap.size w w2 := Below.call (show Below w.heap.size w _ from (by repeat (first | (with_reducible refine Below.alloc' ?_ _) | (with_reducible refine Below.drew ?_) | (with_reducible refine below_drewN ?_ _) | ((with_reducible refine Below.setCell ?_ ?_ _); rotate_left; (focus (first | exact Nat.le_refl _ | (simp; done) | (simp; omega)))) | (with_reducible assumption) | (with_reducible exact Below.refl _ _)))) hb2; have HB2 := Lib.hid ((HB.out.alloc (.cells ((List.replicate 32 (0 : UInt8)).map bV).toArray 5)).below' hb2); clear hb2 hbel))
  go_ret2
  exact ⟨some ⟨g, 0, none⟩, 32, cc, rfl, RdB.blk r HB2.out (xB_len _ _) hc hm, hbel2⟩
theorem sharedB {a b : Option Addr} {n cap m cap' : Nat} {l p : List UInt8} {w : World} (hsec : RdB w a n cap l) (hpub : RdB w b m cap' p) :
    Calls Try.prog 10 #[.slice a n cap, .slice b m cap'] w (NewBC w (shB l p) (shC l p)) := by
  have e1 := hsec.hlen
  have e2 := hpub.hlen
  by_cases hn : n = 32
  · by_cases hm : m = 32
    · subst hn hm
      by_cases hz : xB l p = List.replicate 32 0
      · obtain ⟨h1, h2⟩ := shC_12 ⟨e1, e2⟩ hz
        rw [h1, h2]
        exact shared_zero w hsec hpub (decide_eq_true hz)
      · obtain ⟨h1, h2⟩ := shC_0 ⟨e1, e2⟩ hz
        rw [h1, h2]
        exact shared_some w hsec hpub (decide_eq_false hz)
    · subst hn
      obtain ⟨h1, h2⟩ := shC_1 (l := l) (p := p) (by omega)
      rw [h1, h2]
      exact (shared_n2 w hm).mono fun _ _ ⟨he, hb⟩ => ⟨none, 0, 0, he, RdB.nil _, hb⟩
  · obtain ⟨h1, h2⟩ := shC_1 (l := l) (p := p) (by omega)
    rw [h1, h2]
    exact (shared_n1 w hn).mono fun _ _ ⟨he, hb⟩ => ⟨none, 0, 0, he, RdB.nil _, hb⟩
theorem rshared_n1 {a b : Option Addr} {n cap m cap' : Nat} (w : World) (hn : n ≠ 32) : Calls Try.prog 11 #[.slice a n cap, .slice b m cap'] w fun e w' => e = .returned (.tuple #[.slice none 0 0, .int .i64 1]) ∧ Below w.heap.size w w' := by
  have d1 : ((n : Int) != 32) = true := by simp; omega
  have d2 : ((n : Int) == 32) = false := by simp; omega
  clear hn
  go_enter Try.func11, Try.ntmps11
  go_wp2
  go_ret2
  exact ⟨rfl, Below.refl _ _⟩
theorem rshared_n2 {a b : Option Addr} {cap m cap' : Nat} (w : World) (hm : m ≠ 32) : Calls Try.prog 11 #[.slice a 32 cap, .slice b m cap'] w fun e w' => e = .returned (.tuple #[.slice none 0 0, .int .i64 1]) ∧ Below w.heap.size w w' := by
  have d1 : ((m : Int) != 32) = true := by simp; omega
  have d2 : ((m : Int) == 32) = false := by simp; omega
  clear hm
  go_enter Try.func11, Try.ntmps11
  go_wp2
  go_ret2
  exact ⟨rfl, Below.refl _ _⟩
set_option maxHeartbeats 1000000 in
theorem rshared_zero {a b : Option Addr} {cap cap' : Nat} {l p : List UInt8} (w : World) (hsec : RdB w a 32 cap l) (hpub : RdB w b 32 cap' p) (hz : decide (xB l p = List.replicate 32 0) = true) :
    Calls Try.prog 11 #[.slice a 32 cap, .slice b 32 cap'] w (NewBC w [] 12) := by
  have HZ := Lib.hid hz
  clear hz
  go_enter Try.func11, Try.ntmps11
  go_upto_region 4 with ((go_at_call 16; go_must (refine (rmultB hsec hpub).mono ?_; rintro e w1 ⟨g, nn, cc, r, rfl, hg, hB, hl, hc, hm, hbel⟩; (rw [xB_len] at hl); subst hl; have HB := Lib.hid hB; clear hB)))
  have hbel0 := hbel
  refine wp_region_mid (fun u => #[.slice a 32 cap, .slice b 32 cap', undef, undef, .slice none 0 0, .int .i64 0, .slice (some ⟨g, 0, none⟩) 32 cc, .slice a 32 cap, .int .i64 32, .bool false, .bool false, .slice b 32 cap', .int .i64 32, .bool false, .bool false, .slice a 32 cap, .slice b 32 cap', .slice (some ⟨g, 0, none⟩) 32 cc, u 0, u 1, u 2, u 3, u 4, undef]) (Holds [.oth (fun v => v = .slice (some ⟨g, 0, none⟩) 32 cc), .oth (fun v => v = (.string (bs (xB l p)))), .rd (List.replicate 32 0), .oth (fun v => v = (.string (bs (List.replicate 32 0)))), .oth (fun v => v = .bool true)] w1) (Keep [.oth (fun v => v = .slice (some ⟨g, 0, none⟩) 32 cc), .oth (fun v => v = (.string (bs (xB l p)))), .rd (List.replicate 32 0), .oth (fun v => v = (.string (bs (List.replicate 32 0)))), .oth (fun v => v = .bool true)] w1) (fun _ => undef) (by kernel_rfl) (by kernel_rfl) ?_ (by rfl) Keep.drew (holds_soft (by kernel_rfl)) ?_ ?_
  · intro u i v h
    rcases i with _ | _ | _ | _ | _ | i
    all_goals first | (simp [Act.put, putV]; done) | (exfalso; simp at h; omega)
  · intro hs
    refine ⟨?_, ?_, ?_, ?_, ?_, trivial⟩
    · exact step_pureO hs (wants_none rfl) rfl fun L u W hG hdep => ⟨_, run_move rfl, rfl⟩
    · exact step_convC hs (wants_none rfl) rfl rfl (RdB.blk r HB.out (xB_len _ _) hc hm) (by kernel_rfl) (fun L u W hG hdep => (show u 0 = .slice (some ⟨g, 0, none⟩) 32 cc from hG 0 (hdep 0 (by kernel_rfl))))
    · exact step_makeB (n := 32) hs (wants_none rfl) rfl rfl (by simp) (by unfold maxLen; omega) (fun _ => rfl) (fun _ => rfl) (fun w => by kernel_rfl)
    · exact step_conv 2 hs (wants_none rfl) rfl rfl rfl (by kernel_rfl) (fun _ => rfl)
    · exact step_pureO hs (wants_none rfl) rfl fun L u W hG hdep => ⟨_, run_eqlS rfl (show u 1 = (.string (bs (xB l p))) from hG 1 (hdep 1 (by kernel_rfl))) (show u 3 = (.string (bs (List.replicate 32 0))) from hG 3 (hdep 3 (by kernel_rfl))), by rw [HZ.out]⟩
  intro L4 u4 W4 hall hJ hG
  have hb := hJ.all rfl
  have hbel := Below.call hbel hb
  have HB := Lib.hid (HB.out.below' hb)
  have HC22 := Lib.hid (show u4 4 = .bool true from hG 4 (by simp))
  have hbel0 := hbel
  clear hJ hG hall hb
  have hx : u4 4 = .bool true := HC22.out
  go_wp2_with fail
  rw [hx]
  clear hx
  go_wp2
  go_ret2
  exact ⟨none, 0, 0, rfl, RdB.nil _, hbel⟩
set_option maxHeartbeats 1000000 in
theorem rshared_some {a b : Option Addr} {cap cap' : Nat} {l p : List UInt8} (w : World) (hsec : RdB w a 32 cap l) (hpub : RdB w b 32 cap' p) (hz : decide (xB l p = List.replicate 32 0) = false) :
    Calls Try.prog 11 #[.slice a 32 cap, .slice b 32 cap'] w (NewBC w (xB l p) 0) := by
  have HZ := Lib.hid hz
  clear hz
  go_enter Try.func11, Try.ntmps11
  go_upto_region 4 with ((go_at_call 16; go_must (refine (rmultB hsec hpub).mono ?_; rintro e w1 ⟨g, nn, cc, r, rfl, hg, hB, hl, hc, hm, hbel⟩; (rw [xB_len] at hl); subst hl; have HB := Lib.hid hB; clear hB)))
  have hbel0 := hbel
  refine wp_region_mid (fun u => #[.slice a 32 cap, .slice b 32 cap', undef, undef, .slice none 0 0, .int .i64 0, .slice (some ⟨g, 0, none⟩) 32 cc, .slice a 32 cap, .int .i64 32, .bool false, .bool false, .slice b 32 cap', .int .i64 32, .bool false, .bool false, .slice a 32 cap, .slice b 32 cap', .slice (some ⟨g, 0, none⟩) 32 cc, u 0, u 1, u 2, u 3, u 4, undef]) (Holds [.oth (fun v => v = .slice (some ⟨g, 0, none⟩) 32 cc), .oth (fun v => v = (.string (bs (xB l p)))), .rd (List.replicate 32 0), .oth (fun v => v = (.string (bs (List.replicate 32 0)))), .oth (fun v => v = .bool false)] w1) (Keep [.oth (fun v => v = .slice (some ⟨g, 0, none⟩) 32 cc), .oth (fun v => v = (.string (bs (xB l p)))), .rd (List.replicate 32 0), .oth (fun v => v = (.string (bs (List.replicate 32 0)))), .oth (fun v => v = .bool false)] w1) (fun _ => undef) (by kernel_rfl) (by kernel_rfl) ?_ (by rfl) Keep.drew (holds_soft (by kernel_rfl)) ?_ ?_
  · intro u i v h
    rcases i with _ | _ | _ | _ | _ | i
    all_goals first | (simp [Act.put, putV]; done) | (exfalso; simp at h; omega)
  · intro hs
    refine ⟨?_, ?_, ?_, ?_, ?_, trivial⟩
    · exact step_pureO hs (wants_none rfl) rfl fun L u W hG hdep => ⟨_, run_move rfl, rfl⟩
    · exact step_convC hs (wants_none rfl) rfl rfl (RdB.blk r HB.out (xB_len _ _) hc hm) (by kernel_rfl) (fun L u W hG hdep => (show u 0 = .slice (some ⟨g, 0, none⟩) 32 cc from hG 0 (hdep 0 (by kernel_rfl))))
    · exact step_makeB (n := 32) hs (wants_none rfl) rfl rfl (by simp) (by unfold maxLen; omega) (fun _ => rfl) (fun _ => rfl) (fun w => by kernel_rfl)
    · exact step_conv 2 hs (wants_none rfl) rfl rfl rfl (by kernel_rfl) (fun _ => rfl)
    · exact step_pureO hs (wants_none rfl) rfl fun L u W hG hdep => ⟨_, run_eqlS rfl (show u 1 = (.string (bs (xB l p))) from hG 1 (hdep 1 (by kernel_rfl))) (show u 3 = (.string (bs (List.replicate 32 0))) from hG 3 (hdep 3 (by kernel_rfl))), by rw [HZ.out]⟩
  intro L4 u4 W4 hall hJ hG
  have hb := hJ.all rfl
  have hbel := Below.call hbel hb
  have HB := Lib.hid (HB.out.below' hb)
  have HC22 := Lib.hid (show u4 4 = .bool false from hG 4 (by simp))
  have hbel0 := hbel
  clear hJ hG hall hb
  have hx : u4 4 = .bool false := HC22.out
  go_wp2_with fail
  rw [hx]
  clear hx
  go_wp2
  go_ret2
  exact ⟨some ⟨g, 0, none⟩, 32, cc, rfl, RdB.blk r HB.out (xB_len _ _) hc hm, hbel⟩
theorem rsharedB {a b : Option Addr} {n cap m cap' : Nat} {l p : List UInt8} {w : World} (hsec : RdB w a n cap l) (hpub : RdB w b m cap' p) :
    Calls Try.prog 11 #[.slice a n cap, .slice b m cap'] w (NewBC w (shB l p) (shC l p)) := by
  have e1 := hsec.hlen
  have e2 := hpub.hlen
  by_cases hn : n = 32
  · by_cases hm : m = 32
    · subst hn hm
      by_cases hz : xB l p = List.replicate 32 0
      · obtain ⟨h1, h2⟩ := shC_12 ⟨e1, e2⟩ hz
        rw [h1, h2]
        exact rshared_zero w hsec hpub (decide_eq_true hz)
      · obtain ⟨h1, h2⟩ := shC_0 ⟨e1, e2⟩ hz
        rw [h1, h2]
        exact rshared_some w hsec hpub (decide_eq_false hz)
    · subst hn
      obtain ⟨h1, h2⟩ := shC_1 (l := l) (p := p) (by omega)
      rw [h1, h2]
      exact (rshared_n2 w hm).mono fun _ _ ⟨he, hb⟩ => ⟨none, 0, 0, he, RdB.nil _, hb⟩
  · obtain ⟨h1, h2⟩ := shC_1 (l := l) (p := p) (by omega)
    rw [h1, h2]
    exact (rshared_n1 w hn).mono fun _ _ ⟨he, hb⟩ => ⟨none, 0, 0, he, RdB.nil _, hb⟩
end Go.Proofs.Ytmoggjbnlimepaa
