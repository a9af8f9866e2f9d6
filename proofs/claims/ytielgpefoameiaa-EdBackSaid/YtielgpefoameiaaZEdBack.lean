/- Of chapter 9, EdBack: for every input the law returns true, and each argument reads behind the call as it read before. No condition. -/
import Derived.Test.YtielgpefoameiaaZEBF
import Derived.ProofKit
import Derived.ShutString
import Derived.ChangeOld
namespace Go.Proofs.Ytielgpefoameiaa
open Go Go.ChangeShapes Go.WideShapes Go.ChangeAt Go.RowKit
open Go.ChangeMaps (open_string shut_string)

/-- A signature with bit k of its second half turned. -/
def flipSig (seed l : List UInt8) (k : Nat) : List UInt8 := (edSig seed l).take 32 ++ flipK ((edSig seed l).drop 32) k
theorem ver_flipC (seed l : List UInt8) {k : Nat} (hk : k < 256) : verC (edPub seed) (flipSig seed l k) l = 3 := by
  unfold flipSig edSig
  rw [edSign_eq, take_R, drop_R]
  exact ver_flip seed l hk
theorem ver_shortC (seed l : List UInt8) : verC (edPub seed) ((edSig seed l).take 63) l = 3 := ver_short seed _ l (by rw [List.length_take, edSig_len]; omega)
theorem flipSig_len (seed l : List UInt8) (k : Nat) : (flipSig seed l k).length = 64 := by unfold flipSig; rw [List.length_append, flipK_len, List.length_take, List.length_drop, edSig_len]; rfl
/-- The world is one behind W. -/
def BelW (W : World) : WP := ⟨fun _ w => Below W.heap.size W w, fun _ _ _ h hb => Below.call h hb⟩
theorem BelW.start (W : World) : (BelW W).P undef W := Below.refl _ _
theorem sig_halves {w : World} {v : Value} {l : List UInt8} (h : (IsB l).P v w) (hl : l.length = 64) : ∃ b q c, v = .slice (some ⟨b, q, none⟩) 64 c ∧ 64 ≤ c ∧ c ≤ maxLen ∧
    RdB w (some ⟨b, q, none⟩) 32 c (l.take 32) ∧ RdB w (some ⟨b, q + 32, none⟩) 32 (c - 32) (l.drop 32) := by
  obtain ⟨a, n, c, e, hr⟩ := h
  have hn := hr.hlen
  rw [hl] at hn
  subst hn
  obtain ⟨b, q, rfl, _⟩ := hr.get 0 (by omega)
  refine ⟨b, q, c, e, hr.hcap, hr.hmax, ⟨by rw [List.length_take]; omega, by have := hr.hcap; omega, hr.hmax, fun j hj => ?_, hr.hnil⟩, ⟨by rw [List.length_drop]; omega, by have := hr.hcap; omega, by have := hr.hmax; omega, fun j hj => ?_, fun e => by cases e⟩⟩
  · rw [List.length_take] at hj
    obtain ⟨b, q, e2, hc⟩ := hr.get j (by omega)
    exact ⟨b, q, e2, by rw [List.getElem_take]; exact hc⟩
  · rw [List.length_drop] at hj
    obtain ⟨b', q', e2, hc⟩ := hr.get (32 + j) (by omega)
    cases e2
    refine ⟨b, q + 32, rfl, ?_⟩
    rw [Nat.add_assoc, List.getElem_drop]; exact hc
section
variable {ev : Operand → Value} {o : Oper} {x y : Operand} {w : World} {b q c : Nat}
theorem half_from (ho : o.op = .slice 22 x (some y) none none) (hy : ev y = .int .i64 32) (hx : ev x = .slice (some ⟨b, q, none⟩) 64 c) (h2 : 64 ≤ c) (h3 : c ≤ maxLen) : (execOp ev o).run Try.prog w = .ok (.value (.slice (some ⟨b, q + 32, none⟩) 32 (c - 32))) w := by
  unfold maxLen at h3
  unfold execOp; simp only [ho, hx]
  go_simp
  try rw [if_pos (by omega)]
  try (simp [addr_add]; done)
  try omega
theorem half_to (ho : o.op = .slice 22 x none (some y) none) (hy : ev y = .int .i64 32) (hx : ev x = .slice (some ⟨b, q, none⟩) 64 c) (h2 : 64 ≤ c) (h3 : c ≤ maxLen) : (execOp ev o).run Try.prog w = .ok (.value (.slice (some ⟨b, q, none⟩) 32 c)) w := by
  unfold maxLen at h3
  unfold execOp; simp only [ho, hx]
  go_simp
  try rw [if_pos (by omega)]
  try intro h9
  try (exfalso; omega)
end
set_option maxRecDepth 100000 in
set_option maxHeartbeats 4000000 in
theorem flip_own {bb q cap k : Nat} {bit : Int} {l : List UInt8} (w : World) (hk : bit % 256 = (k : Int)) (h : RdB w (some ⟨bb, q, none⟩) 32 cap l) :
    Calls Try.prog 11 #[.slice (some ⟨bb, q, none⟩) 32 cap, .int .i64 bit] w (NewO w (flipK l k)) := by
  have hl := h.hlen
  have hk256 : k < 256 := by omega
  obtain ⟨c, hc⟩ : ∃ c, l.getD (k / 8) 0 = c := ⟨_, rfl⟩
  obtain ⟨d, hd⟩ : ∃ d, c ^^^ UInt8.ofNat (2 ^ (k % 8)) = d := ⟨_, rfl⟩
  have HX := Lib.hid (xor_byte (by omega) hd)
  have HS := Lib.hid (shl_bit (k % 8) (by omega))
  have HF : Hid (l.set (k / 8) d = flipK l k) := Lib.hid (by unfold flipK; rw [hc, hd])
  have HL := Lib.hid hl; have HK := Lib.hid hk; have HC := Lib.hid hc; have HKB := Lib.hid hk256
  clear hl hk hc hd hk256
  go_enter Try.func11, Try.ntmps11
  go_upto_region 4 with (first | (at_builtin; go_must (refine app_bytes _ rfl (.tmp 7) (.tmp 8) rfl w.heap.size _ 0 [] rfl (own_none w 5 w.heap.size (Nat.le_refl _)) _ _ _ l rfl (by exact h.below (by repeat (first | (with_reducible refine Below.alloc' ?_ _) | (with_reducible refine Below.drew ?_) | (with_reducible refine below_drewN ?_ _) | ((with_reducible refine Below.setCell ?_ ?_ _); rotate_left; (focus (first | exact Nat.le_refl _ | (simp; done) | (simp; omega)))) | (with_reducible assumption) | (with_reducible exact Below.refl _ _)))) (by omega) (by simp) w (by exact (by repeat (first | (with_reducible refine Below.alloc' ?_ _) | (with_reducible refine Below.drew ?_) | (with_reducible refine below_drewN ?_ _) | ((with_reducible refine Below.setCell ?_ ?_ _); rotate_left; (focus (first | exact Nat.le_refl _ | (simp; done) | (simp; omega)))) | (with_reducible assumption) | (with_reducible exact Below.refl _ _)))) ?_; intro v1 W1 hown hb1; rw [Nat.zero_add, List.nil_append] at hown; obtain ⟨C, cC, rC, rfl, hgC, hC, _, hcC, hmC, hrC⟩ := own_rdb2 (n := 32) (l := l) hown (by omega); have HB := Lib.hid hC; have hbel := hb1; clear hC hown hb1)) | (go_at_call 14; (with_reducible refine (round256 HK.out _).mono ?_); rintro e wz ⟨rfl, rfl⟩))
  have hbel0 := hbel
  have hk0 : (0 : Int) ≤ (k : Int) := by omega
  have hk1 : (k : Int) < 256 := by have := HKB.out; omega
  have hdiv : (k : Int).tdiv 8 = ((k / 8 : Nat) : Int) := by rw [Int.tdiv_eq_ediv_of_nonneg (by omega)]; omega
  have hrem : (k : Int).tmod 8 = ((k % 8 : Nat) : Int) := by rw [Int.tmod_eq_emod_of_nonneg (by omega)]; omega
  have hk8 : k / 8 < 32 := by have := HKB.out; omega
  have HK8 := Lib.hid hk8
  have hcc := at_d (k / 8) (by rw [HL.out]; exact hk8) HB.out
  rw [HC.out] at hcc
  have hcf := HB.out.frozen (k / 8)
  have HCC := Lib.hid hcc; have HCF := Lib.hid hcf
  clear hcc hcf
  refine wp_region_mid (fun u => #[.slice (some ⟨bb, q, none⟩) 32 cap, .int .i64 bit, undef, undef, .slice none 0 0, .slice (some ⟨C, 0, none⟩) 32 cC, .int .i64 (k : Int), .slice (some ⟨w.heap.size, 0, none⟩) 0 0, .slice (some ⟨bb, q, none⟩) 32 cap, .slice (some ⟨C, 0, none⟩) 32 cC, .slice (some ⟨C, 0, none⟩) 32 cC, .int .i64 32, .bool true, .int .i64 bit, .slice (some ⟨C, 0, none⟩) 32 cC, .int .i64 32, .int .i64 256, .int .i64 (k : Int), u 0, u 1, u 2, u 3, u 4, u 5, u 6, u 7, u 8, u 9, u 10, u 11, u 12, undef]) (Holds [.oth (fun v => v = .slice (some ⟨C, 0, none⟩) 32 cC), .oth (fun v => v = .int .i64 (k : Int)), .oth (fun v => v = .int .i64 ((k / 8 : Nat) : Int)), .oth (fun v => v = .slice (some ⟨C, 0, none⟩) 32 cC), .oth (fun v => v = .int .i64 (k : Int)), .oth (fun v => v = .int .i64 ((k / 8 : Nat) : Int)), .oth (fun v => v = .pointer (some ⟨C, k / 8, none⟩)), .oth (fun v => v = .int .u8 (c.toNat : Int)), .oth (fun v => v = .int .i64 (k : Int)), .oth (fun v => v = .int .i64 ((k % 8 : Nat) : Int)), .oth (fun v => v = .int .u8 ((2 ^ (k % 8) : Nat) : Int)), .oth (fun v => v = .int .u8 (d.toNat : Int)), .oth (fun v => v = .pointer (some ⟨C, k / 8, none⟩)), .cst C (k / 8) (.int .u8 (d.toNat : Int))] W1) (Keep [.oth (fun v => v = .slice (some ⟨C, 0, none⟩) 32 cC), .oth (fun v => v = .int .i64 (k : Int)), .oth (fun v => v = .int .i64 ((k / 8 : Nat) : Int)), .oth (fun v => v = .slice (some ⟨C, 0, none⟩) 32 cC), .oth (fun v => v = .int .i64 (k : Int)), .oth (fun v => v = .int .i64 ((k / 8 : Nat) : Int)), .oth (fun v => v = .pointer (some ⟨C, k / 8, none⟩)), .oth (fun v => v = .int .u8 (c.toNat : Int)), .oth (fun v => v = .int .i64 (k : Int)), .oth (fun v => v = .int .i64 ((k % 8 : Nat) : Int)), .oth (fun v => v = .int .u8 ((2 ^ (k % 8) : Nat) : Int)), .oth (fun v => v = .int .u8 (d.toNat : Int)), .oth (fun v => v = .pointer (some ⟨C, k / 8, none⟩)), .cst C (k / 8) (.int .u8 (d.toNat : Int))] W1) (fun _ => undef) (by kernel_rfl) (by kernel_rfl) ?_ (by rfl) Keep.drew (holds_soft (by kernel_rfl)) ?_ ?_
  · intro u i v h
    rcases i with _ | _ | _ | _ | _ | _ | _ | _ | _ | _ | _ | _ | _ | _ | i
    all_goals first | (simp [Act.put, putV]; done) | (exfalso; simp at h; omega)
  · intro hs
    refine ⟨?_, ?_, ?_, ?_, ?_, ?_, ?_, ?_, ?_, ?_, ?_, ?_, ?_, ?_, trivial⟩
    · exact step_pureO hs (wants_none rfl) rfl fun L u W hG hdep => ⟨_, run_move rfl, rfl⟩
    · exact step_pureO hs (wants_none rfl) rfl fun L u W hG hdep => ⟨_, run_move rfl, rfl⟩
    · refine step_pureO hs (wants_none rfl) rfl fun L u W hG hdep => ⟨_, ?_, rfl⟩
      have e0 := (show u 1 = .int .i64 (k : Int) from hG 1 (hdep 1 (by kernel_rfl)))
      go_simp
      try (rw [IntKind.wrap_i64]; omega)
    · exact step_pureO hs (wants_none rfl) rfl fun L u W hG hdep => ⟨_, run_move rfl, rfl⟩
    · exact step_pureO hs (wants_none rfl) rfl fun L u W hG hdep => ⟨_, run_move rfl, rfl⟩
    · refine step_pureO hs (wants_none rfl) rfl fun L u W hG hdep => ⟨_, ?_, rfl⟩
      have e0 := (show u 4 = .int .i64 (k : Int) from hG 4 (hdep 4 (by kernel_rfl)))
      go_simp
      try (rw [IntKind.wrap_i64]; omega)
    · refine step_pureO hs (wants_none rfl) rfl fun L u W hG hdep => ⟨_, ?_, rfl⟩
      have e0 := (show u 3 = .slice (some ⟨C, 0, none⟩) 32 cC from hG 3 (hdep 3 (by kernel_rfl)))
      have e1 := (show u 5 = .int .i64 ((k / 8 : Nat) : Int) from hG 5 (hdep 5 (by kernel_rfl)))
      have h8 := hk8
      go_simp
      try rw [if_pos (by omega), show ((k : Int) / 8).toNat = k / 8 by omega]
    · exact step_cell C (k / 8) hs (wants_none rfl) rfl rfl (fun _ h => load_u8 h) (fun L u W hG hdep => (show u 6 = .pointer (some ⟨C, k / 8, none⟩) from hG 6 (hdep 6 (by kernel_rfl)))) HCC.out (fun k g hk => by rcases k with _ | _ | _ | _ | _ | _ | _ | _ | _ | _ | _ | _ | _ | _ | k <;> first | (cases hk; done) | (cases hk; exact .inl (by kernel_rfl)))
    · exact step_pureO hs (wants_none rfl) rfl fun L u W hG hdep => ⟨_, run_move rfl, rfl⟩
    · refine step_pureO hs (wants_none rfl) rfl fun L u W hG hdep => ⟨_, ?_, rfl⟩
      have e0 := (show u 8 = .int .i64 (k : Int) from hG 8 (hdep 8 (by kernel_rfl)))
      go_simp
      try (rw [IntKind.wrap_i64]; omega)
    · refine step_pureO hs (wants_none rfl) rfl fun L u W hG hdep => ⟨_, ?_, rfl⟩
      have e0 := (show u 9 = .int .i64 ((k % 8 : Nat) : Int) from hG 9 (hdep 9 (by kernel_rfl)))
      have e9 := HS.out
      go_simp
      rw [wrap8, show ((k : Int) % 8).toNat = k % 8 by omega]
      try exact e9
      try simpa using e9
    · refine step_pureO hs (wants_none rfl) rfl fun L u W hG hdep => ⟨_, ?_, rfl⟩
      have e0 := (show u 7 = .int .u8 (c.toNat : Int) from hG 7 (hdep 7 (by kernel_rfl)))
      have e1 := (show u 10 = .int .u8 ((2 ^ (k % 8) : Nat) : Int) from hG 10 (hdep 10 (by kernel_rfl)))
      have e9 := HX.out
      go_simp
      try exact e9
      try simpa using e9
    · refine step_pureO hs (wants_none rfl) rfl fun L u W hG hdep => ⟨_, ?_, rfl⟩
      have e0 := (show u 0 = .slice (some ⟨C, 0, none⟩) 32 cC from hG 0 (hdep 0 (by kernel_rfl)))
      have e1 := (show u 2 = .int .i64 ((k / 8 : Nat) : Int) from hG 2 (hdep 2 (by kernel_rfl)))
      have h8 := hk8
      go_simp
      try rw [if_pos (by omega), show ((k : Int) / 8).toNat = k / 8 by omega]
    · refine step_cst (old := .int .u8 (c.toNat : Int)) C (k / 8) hs (wants_none rfl) rfl rfl (by kernel_rfl) (fun k hk => ?_) (fun _ h1 h2 => store_u8 h1 h2) (fun L u W hG hdep => (show u 12 = .pointer (some ⟨C, k / 8, none⟩) from hG 12 (hdep 12 (by kernel_rfl)))) (fun L u W hG hdep => (show u 11 = .int .u8 (d.toNat : Int) from hG 11 (hdep 11 (by kernel_rfl)))) HCC.out HCF.out
      rcases k with _ | _ | _ | _ | _ | _ | _ | _ | _ | _ | _ | _ | _ | _ | k
      all_goals first | (exact absurd rfl hk) | (intro e; cases e; done)
  intro L4 u4 W4 hall hJ hG
  have hb : Below w.heap.size W1 W4 := hJ.below (by have := hbel.size; omega) (fun k b hf => by rcases k with _ | _ | _ | _ | _ | _ | _ | _ | _ | _ | _ | _ | _ | _ | k <;> first | (cases hf; done) | (cases hf; omega))
  have hbel := hbel.trans hb
  have HB := Lib.hid (blk_keep (HB.out.set (k / 8) (.int .u8 (d.toNat : Int))) (show _ ∧ W4.heap[C]? = (W1.setCell ⟨C, k / 8, none⟩ (.int .u8 (d.toNat : Int))).heap[C]? from hG 13 (by simp)).2)
  have hbel0 := hbel
  clear hJ hG hall hb
  go_upto_region 5 with fail
  refine wp_region_turn (fun u => #[.slice (some ⟨bb, q, none⟩) 32 cap, .int .i64 bit, undef, undef, u 1, .slice (some ⟨C, 0, none⟩) 32 cC, .int .i64 (k : Int), .slice (some ⟨w.heap.size, 0, none⟩) 0 0, .slice (some ⟨bb, q, none⟩) 32 cap, .slice (some ⟨C, 0, none⟩) 32 cC, .slice (some ⟨C, 0, none⟩) 32 cC, .int .i64 32, .bool true, .int .i64 bit, .slice (some ⟨C, 0, none⟩) 32 cC, .int .i64 32, .int .i64 256, .int .i64 (k : Int), u4 0, u4 1, u4 2, u4 3, u4 4, u4 5, u4 6, u4 7, u4 8, u4 9, u4 10, u4 11, u4 12, u 0]) (Holds [.oth (fun v => v = .slice (some ⟨C, 0, none⟩) 32 cC), .oth (fun v => v = .slice (some ⟨C, 0, none⟩) 32 cC)] W4) (Keep [.oth (fun v => v = .slice (some ⟨C, 0, none⟩) 32 cC), .oth (fun v => v = .slice (some ⟨C, 0, none⟩) 32 cC)] W4) (fun k => ((undef :: .slice none 0 0 :: []) : List Value).getD k undef) ?_ (by rfl) Keep.start (holds_soft (by kernel_rfl)) ?_ ?_
  · intro u i v h
    rcases i with _ | _ | i
    all_goals first | (simp [Act.put, putV]; done) | (exfalso; simp at h; omega)
  · intro hs
    refine ⟨?_, ?_, trivial⟩
    · exact step_pureO hs (wants_none rfl) rfl fun L u W hG hdep => ⟨_, run_move rfl, rfl⟩
    · exact step_pureO hs (wants_none rfl) rfl fun L u W hG hdep => ⟨_, run_assign rfl, (show u 0 = .slice (some ⟨C, 0, none⟩) 32 cC from hG 0 (hdep 0 (by kernel_rfl)))⟩
  intro L5 u5 W5 hall hJ hG
  have hb := hJ.all rfl
  have hbel := Below.call hbel hb
  have HB := Lib.hid (HB.out.below' hb)
  have HC4 := Lib.hid (show u5 1 = .slice (some ⟨C, 0, none⟩) 32 cC from hG 1 (by simp))
  have hbel0 := hbel
  clear hJ hG hall hb
  rw [HC4.out]
  go_wp2
  go_ret
  have hl2 : (flipK l k).length = 32 := by rw [flipK_len]; exact HL.out
  unfold NewO
  rw [hl2]
  exact ⟨C, cC, rfl, own_of (by rw [← HF.out, ← set_d (k / 8) (by rw [HL.out]; exact HK8.out)]; exact HB.out) hgC hl2 hcC hmC hrC, hbel⟩

set_option maxRecDepth 100000 in
set_option maxHeartbeats 8000000 in
theorem edBack_few {w : World} {va : Value} {la : List UInt8} {vb : Value} {lsb : List (List UInt8)} {bit : Int} (ha : (IsB la).P va w) (hb : (IsR lsb).P vb w) (t0 : la.length = 32) (t1 : allZ lsb ≤ 300) :
    Calls Try.prog 3 #[va, vb, .int .i64 bit] w fun e w' => e = .returned (.bool true) ∧ Below w.heap.size w w' := by
  have T0 := Lib.hid t0; clear t0
  have T1 := Lib.hid t1; clear t1
  obtain ⟨z, hz⟩ : ∃ z, allZ lsb = z := ⟨_, rfl⟩
  have HZ := Lib.hid hz; clear hz
  obtain ⟨lb, hlc⟩ : ∃ l, lsb.flatten = l := ⟨_, rfl⟩
  have HM : Hid (lb.length ≤ 300) := Lib.hid (by rw [← hlc]; exact allZ_few T1.out)
  have HLC := Lib.hid hlc; clear hlc
  go_enter Try.func3, Try.ntmps3
  have hbel : Below w.heap.size w w := Below.refl _ _
  have hbel0 := hbel
  go_upto_region 0 with fail
  refine wp_region_turn (fun u => (va :: vb :: .int .i64 bit :: undef :: undef :: undef :: u 0 :: undef :: undef :: undef :: undef :: undef :: undef :: undef :: undef :: undef :: undef :: undef :: undef :: undef :: undef :: undef :: undef :: undef :: undef :: undef :: undef :: undef :: undef :: undef :: undef :: undef :: undef :: undef :: undef :: undef :: undef :: undef :: undef :: undef :: undef :: undef :: undef :: undef :: undef :: undef :: undef :: undef :: undef :: undef :: undef :: undef :: undef :: undef :: undef :: undef :: undef :: undef :: undef :: undef :: undef :: undef :: undef :: undef :: undef :: undef :: undef :: undef :: undef :: undef :: undef :: undef :: undef :: undef :: undef :: undef :: undef :: []).toArray) (Holds [.oth (fun v => v = .bool false)] w) (Keep [.oth (fun v => v = .bool false)] w) (fun _ => undef) ?_ (by rfl) Keep.start (holds_soft (by kernel_rfl)) ?_ ?_
  · intro u i v h
    rcases i with _ | i
    all_goals first | (simp [Act.put, putV]; done) | (exfalso; simp at h; omega)
  · intro hs
    refine ⟨?_, trivial⟩
    · exact step_pureO hs (wants_none rfl) rfl fun L u W hG hdep => ⟨_, run_assign rfl, rfl⟩
  intro L0 u0 W0 hall hJ hG
  have hb := hJ.all rfl
  have hbel := Below.call hbel hb
  have HC6 := Lib.hid (show u0 0 = .bool false from hG 0 (by simp))
  have hbel0 := hbel
  clear hJ hG hall hb
  go_upto_region 1 with fail
  refine wp_region_turn (fun u => (va :: vb :: .int .i64 bit :: undef :: undef :: undef :: u0 0 :: undef :: undef :: undef :: undef :: undef :: u 0 :: u 1 :: u 2 :: u 3 :: u 4 :: u 5 :: u 6 :: u 7 :: undef :: undef :: undef :: undef :: undef :: undef :: undef :: undef :: undef :: undef :: undef :: undef :: undef :: undef :: undef :: undef :: undef :: undef :: undef :: undef :: undef :: undef :: undef :: undef :: undef :: undef :: undef :: undef :: undef :: undef :: undef :: undef :: undef :: undef :: undef :: undef :: undef :: undef :: undef :: undef :: undef :: undef :: undef :: undef :: undef :: undef :: undef :: undef :: undef :: undef :: undef :: undef :: undef :: undef :: undef :: undef :: undef :: []).toArray) (Holds [.wld (IsB la) none, .oth (fun v => v = .int .i64 32), .oth (fun v => v = .bool false), .oth (fun v => v = .bool false), .wld (IsR lsb) none, .oth (fun v => v = .int .i64 z), .oth (fun v => v = .bool false), .oth (fun v => v = .bool false)] W0) (Keep [.wld (IsB la) none, .oth (fun v => v = .int .i64 32), .oth (fun v => v = .bool false), .oth (fun v => v = .bool false), .wld (IsR lsb) none, .oth (fun v => v = .int .i64 z), .oth (fun v => v = .bool false), .oth (fun v => v = .bool false)] W0) (fun _ => undef) ?_ (by rfl) Keep.start (holds_soft (by kernel_rfl)) ?_ ?_
  · intro u i v h
    rcases i with _ | _ | _ | _ | _ | _ | _ | _ | i
    all_goals first | (simp [Act.put, putV]; done) | (exfalso; simp at h; omega)
  · intro hs
    refine ⟨?_, ?_, ?_, ?_, ?_, ?_, ?_, ?_, trivial⟩
    · exact step_runP hs (wants_none rfl) rfl fun L u W hJ hG hL hdep => run_moveP (.inl rfl) ((IsB la).st _ _ _ ha (Below.call hbel (hJ.all rfl)))
    · exact step_runO hs (wants_none rfl) rfl fun L u W hJ hG hL hdep => run_lenP rfl (holds_wld (φ := IsB la) (hG 0 (hdep 0 (by kernel_rfl))) rfl till_none) (by rw [T0.out]; rfl)
    · refine step_pureO hs (wants_none rfl) rfl fun L u W hG hdep => ⟨_, ?_, rfl⟩
      have e0 := (show u 1 = .int .i64 32 from hG 1 (hdep 1 (by kernel_rfl)))
      go_simp
      try simp [bne]
    · exact step_pureO hs (wants_none rfl) rfl fun L u W hG hdep => ⟨_, run_move rfl, (show u 2 = .bool false from hG 2 (hdep 2 (by kernel_rfl)))⟩
    · exact step_runP hs (wants_on 3 rfl rfl (by kernel_rfl) (fun _ => rfl)) rfl fun L u W hJ hG hL hdep => run_moveP (.inl rfl) ((IsR lsb).st _ _ _ hb (Below.call hbel (hJ.all rfl)))
    · refine step_callO hs (wants_on 3 rfl rfl (by kernel_rfl) (fun _ => rfl)) rfl fun L u W hJ hG hL hdep K hK => ?_
      go_simp
      go_at_call 7
      (with_reducible refine (gAll (z := z) HZ.out (holds_wld (φ := IsR lsb) (hG 4 (hdep 4 (by kernel_rfl))) rfl till_none)).mono ?_); rintro e w1 ⟨rfl, hb⟩
      have hk := hK.out _ _ rfl hb
      exact hk
    · refine step_pureO hs (wants_on 3 rfl rfl (by kernel_rfl) (fun _ => rfl)) rfl fun L u W hG hdep => ⟨_, ?_, rfl⟩
      have e0 := (show u 5 = .int .i64 z from hG 5 (hdep 5 (by kernel_rfl)))
      have e9 : decide (300 < z) = false := decide_eq_false (by rw [← HZ.out]; have := T1.out; omega)
      go_simp
      try exact e9
    · exact step_pick false hs (wants_none rfl) rfl rfl (fun L u W hG hdep => (show u 3 = .bool false from hG 3 (hdep 3 (by kernel_rfl)))) (fun L u W hG hdep => (show u 6 = .bool false from hG 6 (hdep 6 (by kernel_rfl))))
  intro L1 u1 W1 hall hJ hG
  have hb := hJ.all rfl
  have hbel := Below.call hbel hb
  have HC14 := Lib.hid (show u1 2 = .bool false from hG 2 (by simp))
  have HC15 := Lib.hid (show u1 3 = .bool false from hG 3 (by simp))
  have HC18 := Lib.hid (show u1 6 = .bool false from hG 6 (by simp))
  have HC19 := Lib.hid (show u1 7 = .bool false from hG 7 (by simp))
  have hbel0 := hbel
  clear hJ hG hall hb
  have hx : u1 7 = .bool false := HC19.out
  go_wp2_with fail
  rw [hx]
  clear hx
  go_upto_region 3 with fail
  refine wp_region_turn (fun u => (va :: vb :: .int .i64 bit :: undef :: undef :: undef :: u0 0 :: u 5 :: u 6 :: undef :: undef :: undef :: u1 0 :: u1 1 :: u1 2 :: u1 3 :: u1 4 :: u1 5 :: u1 6 :: .bool false :: undef :: u 2 :: u 0 :: u 1 :: u 3 :: u 4 :: undef :: undef :: undef :: undef :: undef :: undef :: undef :: undef :: undef :: undef :: undef :: undef :: undef :: undef :: undef :: undef :: undef :: undef :: undef :: undef :: undef :: undef :: undef :: undef :: undef :: undef :: undef :: undef :: undef :: undef :: undef :: undef :: undef :: undef :: undef :: undef :: undef :: undef :: undef :: undef :: undef :: undef :: undef :: undef :: undef :: undef :: undef :: undef :: undef :: undef :: undef :: []).toArray) (Holds [.wld (IsB la) none, .wld (TwV (IsB (edPub la)) (.int .i64 0)) none, .wld (TwV (IsB (edPub la)) (.int .i64 0)) none, .wld (IsB (edPub la)) none, .oth (fun v => v = .int .i64 0), .wld (IsB (edPub la)) none, .oth (fun v => v = .int .i64 0)] W1) (Keep [.wld (IsB la) none, .wld (TwV (IsB (edPub la)) (.int .i64 0)) none, .wld (TwV (IsB (edPub la)) (.int .i64 0)) none, .wld (IsB (edPub la)) none, .oth (fun v => v = .int .i64 0), .wld (IsB (edPub la)) none, .oth (fun v => v = .int .i64 0)] W1) (fun _ => undef) ?_ (by rfl) Keep.start (holds_soft (by kernel_rfl)) ?_ ?_
  · intro u i v h
    rcases i with _ | _ | _ | _ | _ | _ | _ | i
    all_goals first | (simp [Act.put, putV]; done) | (exfalso; simp at h; omega)
  · intro hs
    refine ⟨?_, ?_, ?_, ?_, ?_, ?_, ?_, trivial⟩
    · exact step_runP hs (wants_none rfl) rfl fun L u W hJ hG hL hdep => run_moveP (.inl rfl) ((IsB la).st _ _ _ ha (Below.call hbel (hJ.all rfl)))
    · refine step_callP hs (wants_none rfl) rfl fun L u W hJ hG hL hdep K hK => ?_
      go_simp
      go_at_call 9
      (with_reducible refine (gPublicW (holds_wld (φ := IsB la) (hG 0 (hdep 0 (by kernel_rfl))) rfl till_none) (T0.out)).mono ?_); rintro e w1 ⟨r, rfl, hr, hb⟩
      have hk := hK.out _ _ hr hb
      exact hk
    · exact step_runP hs (wants_none rfl) rfl fun L u W hJ hG hL hdep => run_moveP (.inl rfl) (holds_wld (φ := TwV (IsB (edPub la)) (.int .i64 0)) (hG 1 (hdep 1 (by kernel_rfl))) rfl till_none)
    · exact step_runP hs (wants_none rfl) rfl fun L u W hJ hG hL hdep => run_tw0 rfl (holds_wld (φ := TwV (IsB (edPub la)) (.int .i64 0)) (hG 2 (hdep 2 (by kernel_rfl))) rfl till_none)
    · exact step_runO hs (wants_none rfl) rfl fun L u W hJ hG hL hdep => run_tw1 rfl (holds_wld (φ := TwV (IsB (edPub la)) (.int .i64 0)) (hG 2 (hdep 2 (by kernel_rfl))) rfl till_none)
    · exact step_runP hs (wants_none rfl) rfl fun L u W hJ hG hL hdep => run_moveP (.inr rfl) (holds_wld (φ := IsB (edPub la)) (hG 3 (hdep 3 (by kernel_rfl))) rfl till_none)
    · exact step_pureO hs (wants_none rfl) rfl fun L u W hG hdep => ⟨_, run_assign rfl, (show u 4 = .int .i64 0 from hG 4 (hdep 4 (by kernel_rfl)))⟩
  intro L3 u3 W3 hall hJ hG
  have hb := hJ.all rfl
  have hbel := Below.call hbel hb
  have hw7 := holds_wld (φ := IsB (edPub la)) (hG 5 (by simp)) rfl till_none
  have HC8 := Lib.hid (show u3 6 = .int .i64 0 from hG 6 (by simp))
  have hbel0 := hbel
  clear hJ hG hall hb
  go_upto_region 4 with fail
  refine wp_region_turn (fun u => (va :: vb :: .int .i64 bit :: undef :: undef :: undef :: u0 0 :: u3 5 :: u3 6 :: u 6 :: u 7 :: undef :: u1 0 :: u1 1 :: u1 2 :: u1 3 :: u1 4 :: u1 5 :: u1 6 :: .bool false :: undef :: u3 2 :: u3 0 :: u3 1 :: u3 3 :: u3 4 :: u 3 :: u 0 :: u 1 :: u 2 :: u 4 :: u 5 :: undef :: undef :: undef :: undef :: undef :: undef :: undef :: undef :: undef :: undef :: undef :: undef :: undef :: undef :: undef :: undef :: undef :: undef :: undef :: undef :: undef :: undef :: undef :: undef :: undef :: undef :: undef :: undef :: undef :: undef :: undef :: undef :: undef :: undef :: undef :: undef :: undef :: undef :: undef :: undef :: undef :: undef :: undef :: undef :: undef :: []).toArray) (Holds [.wld (IsB la) none, .wld (IsR lsb) none, .wld (TwV (IsB (edSig la lb)) (.int .i64 0)) none, .wld (TwV (IsB (edSig la lb)) (.int .i64 0)) none, .wld (IsB (edSig la lb)) none, .oth (fun v => v = .int .i64 0), .wld (IsB (edSig la lb)) none, .oth (fun v => v = .int .i64 0)] W3) (Keep [.wld (IsB la) none, .wld (IsR lsb) none, .wld (TwV (IsB (edSig la lb)) (.int .i64 0)) none, .wld (TwV (IsB (edSig la lb)) (.int .i64 0)) none, .wld (IsB (edSig la lb)) none, .oth (fun v => v = .int .i64 0), .wld (IsB (edSig la lb)) none, .oth (fun v => v = .int .i64 0)] W3) (fun _ => undef) ?_ (by rfl) Keep.start (holds_soft (by kernel_rfl)) ?_ ?_
  · intro u i v h
    rcases i with _ | _ | _ | _ | _ | _ | _ | _ | i
    all_goals first | (simp [Act.put, putV]; done) | (exfalso; simp at h; omega)
  · intro hs
    refine ⟨?_, ?_, ?_, ?_, ?_, ?_, ?_, ?_, trivial⟩
    · exact step_runP hs (wants_none rfl) rfl fun L u W hJ hG hL hdep => run_moveP (.inl rfl) ((IsB la).st _ _ _ ha (Below.call hbel (hJ.all rfl)))
    · exact step_runP hs (wants_none rfl) rfl fun L u W hJ hG hL hdep => run_moveP (.inl rfl) ((IsR lsb).st _ _ _ hb (Below.call hbel (hJ.all rfl)))
    · refine step_callP hs (wants_none rfl) rfl fun L u W hJ hG hL hdep K hK => ?_
      go_simp
      go_at_call 10
      (with_reducible refine (gSignW (l := lb) (holds_wld (φ := IsB la) (hG 0 (hdep 0 (by kernel_rfl))) rfl till_none) (holds_wld (φ := IsR lsb) (hG 1 (hdep 1 (by kernel_rfl))) rfl till_none) (HLC.out) (by have := HM.out; omega) (T0.out)).mono ?_); rintro e w1 ⟨r, rfl, hr, hb⟩
      have hk := hK.out _ _ hr hb
      exact hk
    · exact step_runP hs (wants_none rfl) rfl fun L u W hJ hG hL hdep => run_moveP (.inl rfl) (holds_wld (φ := TwV (IsB (edSig la lb)) (.int .i64 0)) (hG 2 (hdep 2 (by kernel_rfl))) rfl till_none)
    · exact step_runP hs (wants_none rfl) rfl fun L u W hJ hG hL hdep => run_tw0 rfl (holds_wld (φ := TwV (IsB (edSig la lb)) (.int .i64 0)) (hG 3 (hdep 3 (by kernel_rfl))) rfl till_none)
    · exact step_runO hs (wants_none rfl) rfl fun L u W hJ hG hL hdep => run_tw1 rfl (holds_wld (φ := TwV (IsB (edSig la lb)) (.int .i64 0)) (hG 3 (hdep 3 (by kernel_rfl))) rfl till_none)
    · exact step_runP hs (wants_none rfl) rfl fun L u W hJ hG hL hdep => run_moveP (.inr rfl) (holds_wld (φ := IsB (edSig la lb)) (hG 4 (hdep 4 (by kernel_rfl))) rfl till_none)
    · exact step_pureO hs (wants_none rfl) rfl fun L u W hG hdep => ⟨_, run_assign rfl, (show u 5 = .int .i64 0 from hG 5 (hdep 5 (by kernel_rfl)))⟩
  intro L4 u4 W4 hall hJ hG
  have hb := hJ.all rfl
  have hbel := Below.call hbel hb
  have hw7 := (IsB (edPub la)).st _ _ _ hw7 hb
  have hw9 := holds_wld (φ := IsB (edSig la lb)) (hG 6 (by simp)) rfl till_none
  have HC10 := Lib.hid (show u4 7 = .int .i64 0 from hG 7 (by simp))
  have hbel0 := hbel
  clear hJ hG hall hb
  go_upto_region 5 with fail
  refine wp_region_turn (fun u => (va :: vb :: .int .i64 bit :: undef :: undef :: undef :: u0 0 :: u3 5 :: u3 6 :: u4 6 :: u4 7 :: undef :: u1 0 :: u1 1 :: u1 2 :: u1 3 :: u1 4 :: u1 5 :: u1 6 :: .bool false :: undef :: u3 2 :: u3 0 :: u3 1 :: u3 3 :: u3 4 :: u4 3 :: u4 0 :: u4 1 :: u4 2 :: u4 4 :: u4 5 :: u 0 :: u 1 :: u 2 :: u 3 :: u 4 :: u 5 :: u 6 :: u 7 :: u 8 :: u 9 :: u 10 :: undef :: undef :: undef :: undef :: undef :: undef :: undef :: undef :: undef :: undef :: undef :: undef :: undef :: undef :: undef :: undef :: undef :: undef :: undef :: undef :: undef :: undef :: undef :: undef :: undef :: undef :: undef :: undef :: undef :: undef :: undef :: undef :: undef :: undef :: []).toArray) (Holds [.oth (fun v => v = .int .i64 0), .oth (fun v => v = .bool false), .oth (fun v => v = .bool false), .oth (fun v => v = .int .i64 0), .oth (fun v => v = .bool false), .oth (fun v => v = .bool false), .oth (fun v => v = .bool false), .wld (IsB (edSig la lb)) none, .oth (fun v => v = .int .i64 64), .oth (fun v => v = .bool false), .oth (fun v => v = .bool false)] W4) (Keep [.oth (fun v => v = .int .i64 0), .oth (fun v => v = .bool false), .oth (fun v => v = .bool false), .oth (fun v => v = .int .i64 0), .oth (fun v => v = .bool false), .oth (fun v => v = .bool false), .oth (fun v => v = .bool false), .wld (IsB (edSig la lb)) none, .oth (fun v => v = .int .i64 64), .oth (fun v => v = .bool false), .oth (fun v => v = .bool false)] W4) (fun _ => undef) ?_ (by rfl) Keep.start (holds_soft (by kernel_rfl)) ?_ ?_
  · intro u i v h
    rcases i with _ | _ | _ | _ | _ | _ | _ | _ | _ | _ | _ | i
    all_goals first | (simp [Act.put, putV]; done) | (exfalso; simp at h; omega)
  · intro hs
    refine ⟨?_, ?_, ?_, ?_, ?_, ?_, ?_, ?_, ?_, ?_, ?_, trivial⟩
    · exact step_pureO hs (wants_none rfl) rfl fun L u W hG hdep => ⟨_, run_move rfl, HC8.out⟩
    · refine step_pureO hs (wants_none rfl) rfl fun L u W hG hdep => ⟨_, ?_, rfl⟩
      have e0 := (show u 0 = .int .i64 0 from hG 0 (hdep 0 (by kernel_rfl)))
      go_simp
      try simp [bne]
    · exact step_pureO hs (wants_none rfl) rfl fun L u W hG hdep => ⟨_, run_move rfl, (show u 1 = .bool false from hG 1 (hdep 1 (by kernel_rfl)))⟩
    · exact step_pureO hs (wants_on 2 rfl rfl (by kernel_rfl) (fun _ => rfl)) rfl fun L u W hG hdep => ⟨_, run_move rfl, HC10.out⟩
    · refine step_pureO hs (wants_on 2 rfl rfl (by kernel_rfl) (fun _ => rfl)) rfl fun L u W hG hdep => ⟨_, ?_, rfl⟩
      have e0 := (show u 3 = .int .i64 0 from hG 3 (hdep 3 (by kernel_rfl)))
      go_simp
      try simp [bne]
    · exact step_pick false hs (wants_none rfl) rfl rfl (fun L u W hG hdep => (show u 2 = .bool false from hG 2 (hdep 2 (by kernel_rfl)))) (fun L u W hG hdep => (show u 4 = .bool false from hG 4 (hdep 4 (by kernel_rfl))))
    · exact step_pureO hs (wants_none rfl) rfl fun L u W hG hdep => ⟨_, run_move rfl, (show u 5 = .bool false from hG 5 (hdep 5 (by kernel_rfl)))⟩
    · exact step_runP hs (wants_on 6 rfl rfl (by kernel_rfl) (fun _ => rfl)) rfl fun L u W hJ hG hL hdep => run_moveP (.inl rfl) ((IsB (edSig la lb)).st _ _ _ hw9 (hJ.all rfl))
    · exact step_runO hs (wants_on 6 rfl rfl (by kernel_rfl) (fun _ => rfl)) rfl fun L u W hJ hG hL hdep => run_lenP rfl (holds_wld (φ := IsB (edSig la lb)) (hG 7 (hdep 7 (by kernel_rfl))) rfl till_none) (by rw [edSig_len]; rfl)
    · refine step_pureO hs (wants_on 6 rfl rfl (by kernel_rfl) (fun _ => rfl)) rfl fun L u W hG hdep => ⟨_, ?_, rfl⟩
      have e0 := (show u 8 = .int .i64 64 from hG 8 (hdep 8 (by kernel_rfl)))
      go_simp
      try simp [bne]
    · exact step_pick false hs (wants_none rfl) rfl rfl (fun L u W hG hdep => (show u 6 = .bool false from hG 6 (hdep 6 (by kernel_rfl)))) (fun L u W hG hdep => (show u 9 = .bool false from hG 9 (hdep 9 (by kernel_rfl))))
  intro L5 u5 W5 hall hJ hG
  have hb := hJ.all rfl
  have hbel := Below.call hbel hb
  have hw7 := (IsB (edPub la)).st _ _ _ hw7 hb
  have hw9 := (IsB (edSig la lb)).st _ _ _ hw9 hb
  have HC33 := Lib.hid (show u5 1 = .bool false from hG 1 (by simp))
  have HC34 := Lib.hid (show u5 2 = .bool false from hG 2 (by simp))
  have HC36 := Lib.hid (show u5 4 = .bool false from hG 4 (by simp))
  have HC37 := Lib.hid (show u5 5 = .bool false from hG 5 (by simp))
  have HC38 := Lib.hid (show u5 6 = .bool false from hG 6 (by simp))
  have HC41 := Lib.hid (show u5 9 = .bool false from hG 9 (by simp))
  have HC42 := Lib.hid (show u5 10 = .bool false from hG 10 (by simp))
  have hbel0 := hbel
  clear hJ hG hall hb
  have hx : u5 10 = .bool false := HC42.out
  go_wp2_with fail
  rw [hx]
  clear hx
  obtain ⟨b9, q9, c9, e9, hc9, hm9, ht9, hd9⟩ := sig_halves hw9 (edSig_len la lb)
  have hv9 := Lib.hid hw9; clear hw9
  rw [e9] at hv9 ⊢
  clear e9
  have HC9 := Lib.hid hc9; have HM9 := Lib.hid hm9; have HT9 := Lib.hid ht9; have HD9 := Lib.hid hd9; clear hc9 hm9 ht9 hd9
  have hwx := BelW.start W5
  obtain ⟨k, hk⟩ : ∃ k : Nat, bit % 256 = (k : Int) := ⟨(bit % 256).toNat, by omega⟩
  have HK := Lib.hid hk; clear hk
  go_upto_region 7 with fail
  refine wp_region_mid (fun u => (va :: vb :: .int .i64 bit :: undef :: undef :: undef :: u0 0 :: u3 5 :: u3 6 :: .slice (some ⟨b9, q9, none⟩) 64 c9 :: u4 7 :: u 9 :: u1 0 :: u1 1 :: u1 2 :: u1 3 :: u1 4 :: u1 5 :: u1 6 :: .bool false :: undef :: u3 2 :: u3 0 :: u3 1 :: u3 3 :: u3 4 :: u4 3 :: u4 0 :: u4 1 :: u4 2 :: u4 4 :: u4 5 :: u5 0 :: u5 1 :: u5 2 :: u5 3 :: u5 4 :: u5 5 :: u5 6 :: u5 7 :: u5 8 :: u5 9 :: .bool false :: u 0 :: u 1 :: u 2 :: u 3 :: u 4 :: u 5 :: u 6 :: u 7 :: u 8 :: undef :: undef :: undef :: undef :: undef :: undef :: undef :: undef :: undef :: undef :: undef :: undef :: undef :: undef :: undef :: undef :: undef :: undef :: undef :: undef :: undef :: undef :: undef :: undef :: undef :: []).toArray) (Holds [.own [] 3, .oth (fun v => v = .slice (some ⟨b9, q9, none⟩) 64 c9), .oth (fun v => v = .slice (some ⟨b9, q9, none⟩) 32 c9), .own ((edSig la lb).take 32) 8, .oth (fun v => v = .slice (some ⟨b9, q9, none⟩) 64 c9), .oth (fun v => v = .slice (some ⟨b9, q9 + 32, none⟩) 32 (c9 - 32)), .oth (fun v => v = .int .i64 bit), .own (flipK ((edSig la lb).drop 32) k) 8, .own ((edSig la lb).take 32 ++ flipK ((edSig la lb).drop 32) k) 9, .rd ((edSig la lb).take 32 ++ flipK ((edSig la lb).drop 32) k)] W5) (Keep [.own [] 3, .oth (fun v => v = .slice (some ⟨b9, q9, none⟩) 64 c9), .oth (fun v => v = .slice (some ⟨b9, q9, none⟩) 32 c9), .own ((edSig la lb).take 32) 8, .oth (fun v => v = .slice (some ⟨b9, q9, none⟩) 64 c9), .oth (fun v => v = .slice (some ⟨b9, q9 + 32, none⟩) 32 (c9 - 32)), .oth (fun v => v = .int .i64 bit), .own (flipK ((edSig la lb).drop 32) k) 8, .own ((edSig la lb).take 32 ++ flipK ((edSig la lb).drop 32) k) 9, .rd ((edSig la lb).take 32 ++ flipK ((edSig la lb).drop 32) k)] W5) (fun _ => undef) (by kernel_rfl) (by kernel_rfl) ?_ (by rfl) Keep.drew (holds_soft (by kernel_rfl)) ?_ ?_
  · intro u i v h
    rcases i with _ | _ | _ | _ | _ | _ | _ | _ | _ | _ | i
    all_goals first | (simp [Act.put, putV]; done) | (exfalso; simp at h; omega)
  · intro hs
    refine ⟨?_, ?_, ?_, ?_, ?_, ?_, ?_, ?_, ?_, ?_, trivial⟩
    · exact step_build0s hs (wants_none rfl) rfl (fun ev w => by unfold execOp; go_simp)
    · exact step_pureO hs (wants_none rfl) rfl fun L u W hG hdep => ⟨_, run_move rfl, rfl⟩
    · refine step_pureO hs (wants_none rfl) rfl fun L u W hG hdep => ⟨_, ?_, rfl⟩
      have e0 := (show u 1 = .slice (some ⟨b9, q9, none⟩) 64 c9 from hG 1 (hdep 1 (by kernel_rfl)))
      exact half_to rfl rfl e0 HC9.out HM9.out
    · refine step_appG (l1 := ([])) (l2 := ((edSig la lb).take 32)) 0 (wants_none rfl) rfl rfl rfl (by kernel_rfl) (fun _ => rfl) rfl (fun L u W hB hG hL hdep => ⟨_, _, _, (show u 2 = .slice (some ⟨b9, q9, none⟩) 32 c9 from hG 2 (hdep 2 (by kernel_rfl))), HT9.out.below hB⟩) (by simp [flipK_len, edSig_len]) (fun k => ?_) (fun k l' v' hk => ?_)
      · rcases k with _ | _ | _ | _ | _ | _ | _ | _ | _ | _ | k
        · exact .inl rfl
        · exact .inl rfl
        · exact .inl rfl
        · exact .inl rfl
        · exact .inl rfl
        · exact .inl rfl
        · exact .inl rfl
        · exact .inl rfl
        · exact .inl rfl
        · exact .inr (.cons (c := 8) (by kernel_rfl) (.one (by kernel_rfl)))
        · exact .inl rfl
      · rcases k with _ | _ | _ | _ | _ | _ | _ | _ | _ | _ | k
        · cases hk
        · cases hk
        · cases hk
        · cases hk
        · cases hk
        · cases hk
        · cases hk
        · cases hk
        · cases hk
        · cases hk
        · cases hk
    · exact step_pureO hs (wants_none rfl) rfl fun L u W hG hdep => ⟨_, run_move rfl, rfl⟩
    · refine step_pureO hs (wants_none rfl) rfl fun L u W hG hdep => ⟨_, ?_, rfl⟩
      have e0 := (show u 4 = .slice (some ⟨b9, q9, none⟩) 64 c9 from hG 4 (hdep 4 (by kernel_rfl)))
      exact half_from rfl rfl e0 HC9.out HM9.out
    · exact step_pureO hs (wants_none rfl) rfl fun L u W hG hdep => ⟨_, run_move rfl, rfl⟩
    · refine step_callOwn hs (wants_none rfl) rfl fun L u W hJ hG hL hdep K hK => ?_
      have x0 := (show u 5 = .slice (some ⟨b9, q9 + 32, none⟩) 32 (c9 - 32) from hG 5 (hdep 5 (by kernel_rfl)))
      have x1 := (show u 6 = .int .i64 bit from hG 6 (hdep 6 (by kernel_rfl)))
      have hRB0 := HD9.out.below (hJ.all rfl)
      go_simp
      go_at_call 11
      (with_reducible refine (flip_own _ HK.out hRB0).mono ?_); rintro e w1 ⟨g, cap, rfl, h1, hb⟩
      have hk := hK.out _ _ _ h1 hb
      simp only [x0, x1] at hk
      exact hk
    · refine step_appG (l1 := ((edSig la lb).take 32)) (l2 := (flipK ((edSig la lb).drop 32) k)) 3 (wants_none rfl) rfl rfl rfl (by kernel_rfl) (fun _ => rfl) rfl (fun L u W hB hG hL hdep => own_read 7 hG hL rfl (hdep 7 (by kernel_rfl))) (by simp [flipK_len, edSig_len]) (fun k => ?_) (fun k l' v' hk => ?_)
      · rcases k with _ | _ | _ | _ | _ | _ | _ | _ | _ | _ | k
        · exact .inl rfl
        · exact .inl rfl
        · exact .inl rfl
        · exact .inl rfl
        · exact .inl rfl
        · exact .inl rfl
        · exact .inl rfl
        · exact .inl rfl
        · exact .inl rfl
        · exact .inr (.one (by kernel_rfl))
        · exact .inl rfl
      · rcases k with _ | _ | _ | _ | _ | _ | _ | _ | _ | _ | k
        · cases hk
        · cases hk
        · cases hk
        · cases hk
        · cases hk
        · cases hk
        · cases hk
        · cases hk
        · cases hk
        · cases hk
        · cases hk
    · exact step_assignOwn 8 hs (wants_none rfl) (by first | exact .inl rfl | exact .inr rfl) rfl rfl (by kernel_rfl) (fun _ => rfl)
  intro L7 u7 W7 hall hJ hG
  obtain ⟨gB709, nB709, cB709, rB709, eB709, hgB709, hB709, hlB709, hcB709, hmB709⟩ := (show ∃ g n cap r, u7 9 = .slice (some ⟨g, 0, none⟩) n cap ∧ W5.heap.size ≤ g ∧ Blk W7 g (((edSig la lb).take 32 ++ flipK ((edSig la lb).drop 32) k).map bV ++ r) 5 ∧ ((edSig la lb).take 32 ++ flipK ((edSig la lb).drop 32) k).length = n ∧ n ≤ cap ∧ cap ≤ maxLen from hG 9 (by simp))
  have hgB709 : w.heap.size ≤ gB709 := by have := hbel0.size; omega
  have EB709 := Lib.hid eB709; clear eB709
  have HB709 := Lib.hid hB709; clear hB709
  have hb := hJ.all rfl
  have hbel := Below.call hbel hb
  have hw7 := (IsB (edPub la)).st _ _ _ hw7 hb
  have hwx := (BelW W5).st _ _ _ hwx hb
  have hbel0 := hbel
  clear hJ hG hall hb
  have hw11 : (IsB (flipSig la lb k)).P (u7 9) W7 := by rw [EB709.out]; exact IsB.mk (RdB.blk rB709 HB709.out hlB709 hcB709 hmB709)
  have hw9 : (IsB (edSig la lb)).P (.slice (some ⟨b9, q9, none⟩) 64 c9) W7 := (IsB (edSig la lb)).st _ _ _ hv9.out hwx
  go_upto_region 8 with fail
  refine wp_region_turn (fun u => (va :: vb :: .int .i64 bit :: undef :: undef :: undef :: u 25 :: u3 5 :: u3 6 :: .slice (some ⟨b9, q9, none⟩) 64 c9 :: u4 7 :: u7 9 :: u1 0 :: u1 1 :: u1 2 :: u1 3 :: u1 4 :: u1 5 :: u1 6 :: .bool false :: undef :: u3 2 :: u3 0 :: u3 1 :: u3 3 :: u3 4 :: u4 3 :: u4 0 :: u4 1 :: u4 2 :: u4 4 :: u4 5 :: u5 0 :: u5 1 :: u5 2 :: u5 3 :: u5 4 :: u5 5 :: u5 6 :: u5 7 :: u5 8 :: u5 9 :: .bool false :: u7 0 :: u7 1 :: u7 2 :: u7 3 :: u7 4 :: u7 5 :: u7 6 :: u7 7 :: u7 8 :: u 0 :: u 1 :: u 2 :: u 3 :: u 4 :: u 5 :: u 6 :: u 7 :: u 8 :: u 9 :: u 10 :: u 11 :: u 12 :: u 13 :: u 14 :: u 15 :: u 16 :: u 17 :: u 18 :: u 19 :: u 20 :: u 21 :: u 22 :: u 23 :: u 24 :: []).toArray) (Holds [.wld (IsB (edPub la)) none, .wld (IsB (edSig la lb)) none, .wld (IsR lsb) none, .wld (IsB lb) none, .wld (IsR [lb]) none, .oth (fun v => v = .int .i64 0), .oth (fun v => v = .bool true), .oth (fun v => v = .bool true), .wld (IsB (edPub la)) none, .wld (IsB (edSig la lb)) none, .wld (IsB ((edSig la lb).take 63)) none, .wld (IsR lsb) none, .oth (fun v => v = .int .i64 3), .oth (fun v => v = .bool true), .oth (fun v => v = .bool true), .oth (fun v => v = .bool true), .wld (IsB (edPub la)) none, .wld (IsB (flipSig la lb k)) none, .wld (IsR lsb) none, .oth (fun v => v = .int .i64 3), .oth (fun v => v = .bool true), .oth (fun v => v = .bool true), .oth (fun v => v = .bool true), .oth (fun v => v = .bool true), .oth (fun v => v = .bool true), .oth (fun v => v = .bool true)] W7) (Keep [.wld (IsB (edPub la)) none, .wld (IsB (edSig la lb)) none, .wld (IsR lsb) none, .wld (IsB lb) none, .wld (IsR [lb]) none, .oth (fun v => v = .int .i64 0), .oth (fun v => v = .bool true), .oth (fun v => v = .bool true), .wld (IsB (edPub la)) none, .wld (IsB (edSig la lb)) none, .wld (IsB ((edSig la lb).take 63)) none, .wld (IsR lsb) none, .oth (fun v => v = .int .i64 3), .oth (fun v => v = .bool true), .oth (fun v => v = .bool true), .oth (fun v => v = .bool true), .wld (IsB (edPub la)) none, .wld (IsB (flipSig la lb k)) none, .wld (IsR lsb) none, .oth (fun v => v = .int .i64 3), .oth (fun v => v = .bool true), .oth (fun v => v = .bool true), .oth (fun v => v = .bool true), .oth (fun v => v = .bool true), .oth (fun v => v = .bool true), .oth (fun v => v = .bool true)] W7) (fun k => ((undef :: undef :: undef :: undef :: undef :: undef :: undef :: undef :: undef :: undef :: undef :: undef :: undef :: undef :: undef :: undef :: undef :: undef :: undef :: undef :: undef :: undef :: undef :: undef :: undef :: u0 0 :: []) : List Value).getD k undef) ?_ (by rfl) Keep.start (holds_soft (by kernel_rfl)) ?_ ?_
  · intro u i v h
    rcases i with _ | _ | _ | _ | _ | _ | _ | _ | _ | _ | _ | _ | _ | _ | _ | _ | _ | _ | _ | _ | _ | _ | _ | _ | _ | _ | i
    iterate 26 kernel_rfl
    exfalso; simp at h; omega
  · intro hs
    refine ⟨?_, ?_, ?_, ?_, ?_, ?_, ?_, ?_, ?_, ?_, ?_, ?_, ?_, ?_, ?_, ?_, ?_, ?_, ?_, ?_, ?_, ?_, ?_, ?_, ?_, ?_, trivial⟩
    · exact step_runP hs (wants_none rfl) rfl fun L u W hJ hG hL hdep => run_moveP (.inl rfl) ((IsB (edPub la)).st _ _ _ hw7 (hJ.all rfl))
    · exact step_runP hs (wants_none rfl) rfl fun L u W hJ hG hL hdep => run_moveP (.inl rfl) ((IsB (edSig la lb)).st _ _ _ hw9 (hJ.all rfl))
    · exact step_runP hs (wants_none rfl) rfl fun L u W hJ hG hL hdep => run_moveP (.inl rfl) ((IsR lsb).st _ _ _ hb (Below.call hbel (hJ.all rfl)))
    · refine step_callP hs (wants_none rfl) rfl fun L u W hJ hG hL hdep K hK => ?_
      go_simp
      go_at_call 13
      (with_reducible refine (gACat (l := lb) (holds_wld (φ := IsR lsb) (hG 2 (hdep 2 (by kernel_rfl))) rfl till_none) (HLC.out) (by have := HM.out; omega)).mono ?_); rintro e w1 ⟨r, rfl, hr, hb⟩
      have hk := hK.out _ _ hr hb
      exact hk
    · exact step_runP hs (wants_none rfl) rfl fun L u W hJ hG hL hdep => run_rows1 rfl (holds_wld (φ := IsB lb) (hG 3 (hdep 3 (by kernel_rfl))) rfl till_none)
    · refine step_callO hs (wants_none rfl) rfl fun L u W hJ hG hL hdep K hK => ?_
      go_simp
      go_at_call 12
      (with_reducible refine (gVerifyC (l := lb) (holds_wld (φ := IsB (edPub la)) (hG 0 (hdep 0 (by kernel_rfl))) rfl till_none) (holds_wld (φ := IsB (edSig la lb)) (hG 1 (hdep 1 (by kernel_rfl))) rfl till_none) (holds_wld (φ := IsR [lb]) (hG 4 (hdep 4 (by kernel_rfl))) rfl till_none) (by simp) (by have := HM.out; omega) (ver_sig la lb)).mono ?_); rintro e w1 ⟨rfl, hb⟩
      have hk := hK.out _ _ rfl hb
      exact hk
    · refine step_pureO hs (wants_none rfl) rfl fun L u W hG hdep => ⟨_, ?_, rfl⟩
      have e0 := (show u 5 = .int .i64 0 from hG 5 (hdep 5 (by kernel_rfl)))
      go_simp
      try simp [bne]
    · exact step_pureO hs (wants_none rfl) rfl fun L u W hG hdep => ⟨_, run_move rfl, (show u 6 = .bool true from hG 6 (hdep 6 (by kernel_rfl)))⟩
    · exact step_runP hs (wants_on 7 rfl rfl (by kernel_rfl) (fun _ => rfl)) rfl fun L u W hJ hG hL hdep => run_moveP (.inl rfl) ((IsB (edPub la)).st _ _ _ hw7 (hJ.all rfl))
    · exact step_runP hs (wants_on 7 rfl rfl (by kernel_rfl) (fun _ => rfl)) rfl fun L u W hJ hG hL hdep => run_moveP (.inl rfl) ((IsB (edSig la lb)).st _ _ _ hw9 (hJ.all rfl))
    · exact step_runP hs (wants_on 7 rfl rfl (by kernel_rfl) (fun _ => rfl)) rfl fun L u W hJ hG hL hdep => run_toP (k := 63) rfl rfl (holds_wld (φ := IsB (edSig la lb)) (hG 9 (hdep 9 (by kernel_rfl))) rfl till_none) (by have h9 : ((edSig la lb).length : Int) = 64 := (by rw [edSig_len]; rfl); omega)
    · exact step_runP hs (wants_on 7 rfl rfl (by kernel_rfl) (fun _ => rfl)) rfl fun L u W hJ hG hL hdep => run_moveP (.inl rfl) ((IsR lsb).st _ _ _ hb (Below.call hbel (hJ.all rfl)))
    · refine step_callO hs (wants_on 7 rfl rfl (by kernel_rfl) (fun _ => rfl)) rfl fun L u W hJ hG hL hdep K hK => ?_
      go_simp
      go_at_call 12
      (with_reducible refine (gVerifyC (l := lb) (holds_wld (φ := IsB (edPub la)) (hG 8 (hdep 8 (by kernel_rfl))) rfl till_none) (holds_wld (φ := IsB ((edSig la lb).take 63)) (hG 10 (hdep 10 (by kernel_rfl))) rfl till_none) (holds_wld (φ := IsR lsb) (hG 11 (hdep 11 (by kernel_rfl))) rfl till_none) (HLC.out) (by have := HM.out; omega) (ver_shortC la lb)).mono ?_); rintro e w1 ⟨rfl, hb⟩
      have hk := hK.out _ _ rfl hb
      exact hk
    · refine step_pureO hs (wants_on 7 rfl rfl (by kernel_rfl) (fun _ => rfl)) rfl fun L u W hG hdep => ⟨_, ?_, rfl⟩
      have e0 := (show u 12 = .int .i64 3 from hG 12 (hdep 12 (by kernel_rfl)))
      go_simp
      try simp [bne]
    · exact step_pick true hs (wants_none rfl) rfl rfl (fun L u W hG hdep => (show u 7 = .bool true from hG 7 (hdep 7 (by kernel_rfl)))) (fun L u W hG hdep => (show u 13 = .bool true from hG 13 (hdep 13 (by kernel_rfl))))
    · exact step_pureO hs (wants_none rfl) rfl fun L u W hG hdep => ⟨_, run_move rfl, (show u 14 = .bool true from hG 14 (hdep 14 (by kernel_rfl)))⟩
    · exact step_runP hs (wants_on 15 rfl rfl (by kernel_rfl) (fun _ => rfl)) rfl fun L u W hJ hG hL hdep => run_moveP (.inl rfl) ((IsB (edPub la)).st _ _ _ hw7 (hJ.all rfl))
    · exact step_runP hs (wants_on 15 rfl rfl (by kernel_rfl) (fun _ => rfl)) rfl fun L u W hJ hG hL hdep => run_moveP (.inl rfl) ((IsB (flipSig la lb k)).st _ _ _ hw11 (hJ.all rfl))
    · exact step_runP hs (wants_on 15 rfl rfl (by kernel_rfl) (fun _ => rfl)) rfl fun L u W hJ hG hL hdep => run_moveP (.inl rfl) ((IsR lsb).st _ _ _ hb (Below.call hbel (hJ.all rfl)))
    · refine step_callO hs (wants_on 15 rfl rfl (by kernel_rfl) (fun _ => rfl)) rfl fun L u W hJ hG hL hdep K hK => ?_
      go_simp
      go_at_call 12
      (with_reducible refine (gVerifyC (l := lb) (holds_wld (φ := IsB (edPub la)) (hG 16 (hdep 16 (by kernel_rfl))) rfl till_none) (holds_wld (φ := IsB (flipSig la lb k)) (hG 17 (hdep 17 (by kernel_rfl))) rfl till_none) (holds_wld (φ := IsR lsb) (hG 18 (hdep 18 (by kernel_rfl))) rfl till_none) (HLC.out) (by have := HM.out; omega) (ver_flipC la lb (by have := HK.out; omega))).mono ?_); rintro e w1 ⟨rfl, hb⟩
      have hk := hK.out _ _ rfl hb
      exact hk
    · refine step_pureO hs (wants_on 15 rfl rfl (by kernel_rfl) (fun _ => rfl)) rfl fun L u W hG hdep => ⟨_, ?_, rfl⟩
      have e0 := (show u 19 = .int .i64 3 from hG 19 (hdep 19 (by kernel_rfl)))
      go_simp
      try simp [bne]
    · exact step_pick true hs (wants_none rfl) rfl rfl (fun L u W hG hdep => (show u 15 = .bool true from hG 15 (hdep 15 (by kernel_rfl)))) (fun L u W hG hdep => (show u 20 = .bool true from hG 20 (hdep 20 (by kernel_rfl))))
    · exact step_pureO hs (wants_none rfl) rfl fun L u W hG hdep => ⟨_, run_move rfl, (show u 21 = .bool true from hG 21 (hdep 21 (by kernel_rfl)))⟩
    · refine step_callO hs (wants_on 22 rfl rfl (by kernel_rfl) (fun _ => rfl)) rfl fun L u W hJ hG hL hdep K hK => ?_
      go_simp
      go_at_call 8
      (with_reducible refine (law9awake_any _).mono ?_); rintro e w1 ⟨rfl, hb⟩
      have hk := hK.out _ _ rfl hb
      exact hk
    · exact step_pick true hs (wants_none rfl) rfl rfl (fun L u W hG hdep => (show u 22 = .bool true from hG 22 (hdep 22 (by kernel_rfl)))) (fun L u W hG hdep => (show u 23 = .bool true from hG 23 (hdep 23 (by kernel_rfl))))
    · exact step_pureO hs (wants_none rfl) rfl fun L u W hG hdep => ⟨_, run_assign rfl, (show u 24 = .bool true from hG 24 (hdep 24 (by kernel_rfl)))⟩
  intro L8 u8 W8 hall hJ hG
  have hb := hJ.all rfl
  have hbel := Below.call hbel hb
  have hw7 := (IsB (edPub la)).st _ _ _ hw7 hb
  have hwx := (BelW W5).st _ _ _ hwx hb
  have hw11 := (IsB (flipSig la lb k)).st _ _ _ hw11 hb
  have hw9 := (IsB (edSig la lb)).st _ _ _ hw9 hb
  have HC58 := Lib.hid (show u8 6 = .bool true from hG 6 (by simp))
  have HC59 := Lib.hid (show u8 7 = .bool true from hG 7 (by simp))
  have HC65 := Lib.hid (show u8 13 = .bool true from hG 13 (by simp))
  have HC66 := Lib.hid (show u8 14 = .bool true from hG 14 (by simp))
  have HC67 := Lib.hid (show u8 15 = .bool true from hG 15 (by simp))
  have HC72 := Lib.hid (show u8 20 = .bool true from hG 20 (by simp))
  have HC73 := Lib.hid (show u8 21 = .bool true from hG 21 (by simp))
  have HC74 := Lib.hid (show u8 22 = .bool true from hG 22 (by simp))
  have HC75 := Lib.hid (show u8 23 = .bool true from hG 23 (by simp))
  have HC76 := Lib.hid (show u8 24 = .bool true from hG 24 (by simp))
  have HC6 := Lib.hid (show u8 25 = .bool true from hG 25 (by simp))
  have hbel0 := hbel
  clear hJ hG hall hb
  go_wp2
  go_ret
  exact ⟨by rw [HC6.out]; rfl, hbel⟩
set_option maxRecDepth 100000 in
set_option maxHeartbeats 8000000 in
theorem edBack_no0 {w : World} {va : Value} {la : List UInt8} {vb : Value} {lsb : List (List UInt8)} {bit : Int} (ha : (IsB la).P va w) (hb : (IsR lsb).P vb w) (t0 : ¬ la.length = 32) :
    Calls Try.prog 3 #[va, vb, .int .i64 bit] w fun e w' => e = .returned (.bool true) ∧ Below w.heap.size w w' := by
  have T0 := Lib.hid t0; clear t0
  have _ua := ha
  have _ub := hb
  clear _ua _ub
  go_enter Try.func3, Try.ntmps3
  have hbel : Below w.heap.size w w := Below.refl _ _
  have hbel0 := hbel
  go_upto_region 0 with fail
  refine wp_region_turn (fun u => (va :: vb :: .int .i64 bit :: undef :: undef :: undef :: u 0 :: undef :: undef :: undef :: undef :: undef :: undef :: undef :: undef :: undef :: undef :: undef :: undef :: undef :: undef :: undef :: undef :: undef :: undef :: undef :: undef :: undef :: undef :: undef :: undef :: undef :: undef :: undef :: undef :: undef :: undef :: undef :: undef :: undef :: undef :: undef :: undef :: undef :: undef :: undef :: undef :: undef :: undef :: undef :: undef :: undef :: undef :: undef :: undef :: undef :: undef :: undef :: undef :: undef :: undef :: undef :: undef :: undef :: undef :: undef :: undef :: undef :: undef :: undef :: undef :: undef :: undef :: undef :: undef :: undef :: undef :: []).toArray) (Holds [.oth (fun v => v = .bool false)] w) (Keep [.oth (fun v => v = .bool false)] w) (fun _ => undef) ?_ (by rfl) Keep.start (holds_soft (by kernel_rfl)) ?_ ?_
  · intro u i v h
    rcases i with _ | i
    all_goals first | (simp [Act.put, putV]; done) | (exfalso; simp at h; omega)
  · intro hs
    refine ⟨?_, trivial⟩
    · exact step_pureO hs (wants_none rfl) rfl fun L u W hG hdep => ⟨_, run_assign rfl, rfl⟩
  intro L0 u0 W0 hall hJ hG
  have hb := hJ.all rfl
  have hbel := Below.call hbel hb
  have HC6 := Lib.hid (show u0 0 = .bool false from hG 0 (by simp))
  have hbel0 := hbel
  clear hJ hG hall hb
  go_upto_region 1 with fail
  refine wp_region_turn (fun u => (va :: vb :: .int .i64 bit :: undef :: undef :: undef :: u0 0 :: undef :: undef :: undef :: undef :: undef :: u 0 :: u 1 :: u 2 :: u 3 :: u 4 :: u 5 :: u 6 :: u 7 :: undef :: undef :: undef :: undef :: undef :: undef :: undef :: undef :: undef :: undef :: undef :: undef :: undef :: undef :: undef :: undef :: undef :: undef :: undef :: undef :: undef :: undef :: undef :: undef :: undef :: undef :: undef :: undef :: undef :: undef :: undef :: undef :: undef :: undef :: undef :: undef :: undef :: undef :: undef :: undef :: undef :: undef :: undef :: undef :: undef :: undef :: undef :: undef :: undef :: undef :: undef :: undef :: undef :: undef :: undef :: undef :: undef :: []).toArray) (Holds [.wld (IsB la) none, .oth (fun v => v = .int .i64 (la.length : Int)), .oth (fun v => v = .bool true), .oth (fun v => v = .bool true), .oth (fun v => v = undef), .oth (fun v => v = undef), .oth (fun v => v = undef), .oth (fun v => v = .bool true)] W0) (Keep [.wld (IsB la) none, .oth (fun v => v = .int .i64 (la.length : Int)), .oth (fun v => v = .bool true), .oth (fun v => v = .bool true), .oth (fun v => v = undef), .oth (fun v => v = undef), .oth (fun v => v = undef), .oth (fun v => v = .bool true)] W0) (fun _ => undef) ?_ (by rfl) Keep.start (holds_soft (by kernel_rfl)) ?_ ?_
  · intro u i v h
    rcases i with _ | _ | _ | _ | _ | _ | _ | _ | i
    all_goals first | (simp [Act.put, putV]; done) | (exfalso; simp at h; omega)
  · intro hs
    refine ⟨?_, ?_, ?_, ?_, ?_, ?_, ?_, ?_, trivial⟩
    · exact step_runP hs (wants_none rfl) rfl fun L u W hJ hG hL hdep => run_moveP (.inl rfl) ((IsB la).st _ _ _ ha (Below.call hbel (hJ.all rfl)))
    · exact step_runO hs (wants_none rfl) rfl fun L u W hJ hG hL hdep => run_lenP rfl (holds_wld (φ := IsB la) (hG 0 (hdep 0 (by kernel_rfl))) rfl till_none) (rfl)
    · refine step_pureO hs (wants_none rfl) rfl fun L u W hG hdep => ⟨_, ?_, rfl⟩
      have e0 := (show u 1 = .int .i64 (la.length : Int) from hG 1 (hdep 1 (by kernel_rfl)))
      have e9 := T0.out
      go_simp
      try omega
    · exact step_pureO hs (wants_none rfl) rfl fun L u W hG hdep => ⟨_, run_move rfl, (show u 2 = .bool true from hG 2 (hdep 2 (by kernel_rfl)))⟩
    · exact step_outU hs (wants_off 3 rfl rfl rfl (by kernel_rfl) (fun _ => rfl)) rfl
    · exact step_outU hs (wants_off 3 rfl rfl rfl (by kernel_rfl) (fun _ => rfl)) rfl
    · exact step_outU hs (wants_off 3 rfl rfl rfl (by kernel_rfl) (fun _ => rfl)) rfl
    · exact step_pick true hs (wants_none rfl) rfl rfl (fun L u W hG hdep => (show u 3 = .bool true from hG 3 (hdep 3 (by kernel_rfl)))) (fun L u W hG hdep => rfl)
  intro L1 u1 W1 hall hJ hG
  have hb := hJ.all rfl
  have hbel := Below.call hbel hb
  have HC14 := Lib.hid (show u1 2 = .bool true from hG 2 (by simp))
  have HC15 := Lib.hid (show u1 3 = .bool true from hG 3 (by simp))
  have HC19 := Lib.hid (show u1 7 = .bool true from hG 7 (by simp))
  have hbel0 := hbel
  clear hJ hG hall hb
  have hx : u1 7 = .bool true := HC19.out
  go_wp2_with fail
  rw [hx]
  clear hx
  go_upto_region 2 with fail
  refine wp_region_turn (fun u => (va :: vb :: .int .i64 bit :: undef :: undef :: undef :: u 1 :: undef :: undef :: undef :: undef :: undef :: u1 0 :: u1 1 :: u1 2 :: u1 3 :: u1 4 :: u1 5 :: u1 6 :: .bool true :: u 0 :: undef :: undef :: undef :: undef :: undef :: undef :: undef :: undef :: undef :: undef :: undef :: undef :: undef :: undef :: undef :: undef :: undef :: undef :: undef :: undef :: undef :: undef :: undef :: undef :: undef :: undef :: undef :: undef :: undef :: undef :: undef :: undef :: undef :: undef :: undef :: undef :: undef :: undef :: undef :: undef :: undef :: undef :: undef :: undef :: undef :: undef :: undef :: undef :: undef :: undef :: undef :: undef :: undef :: undef :: undef :: undef :: []).toArray) (Holds [.oth (fun v => v = .bool true), .oth (fun v => v = .bool true)] W1) (Keep [.oth (fun v => v = .bool true), .oth (fun v => v = .bool true)] W1) (fun k => ((undef :: u0 0 :: []) : List Value).getD k undef) ?_ (by rfl) Keep.start (holds_soft (by kernel_rfl)) ?_ ?_
  · intro u i v h
    rcases i with _ | _ | i
    all_goals first | (simp [Act.put, putV]; done) | (exfalso; simp at h; omega)
  · intro hs
    refine ⟨?_, ?_, trivial⟩
    · refine step_callO hs (wants_none rfl) rfl fun L u W hJ hG hL hdep K hK => ?_
      go_simp
      go_at_call 8
      (with_reducible refine (law9awake_any _).mono ?_); rintro e w1 ⟨rfl, hb⟩
      have hk := hK.out _ _ rfl hb
      exact hk
    · exact step_pureO hs (wants_none rfl) rfl fun L u W hG hdep => ⟨_, run_assign rfl, (show u 0 = .bool true from hG 0 (hdep 0 (by kernel_rfl)))⟩
  intro L2 u2 W2 hall hJ hG
  have hb := hJ.all rfl
  have hbel := Below.call hbel hb
  have HC20 := Lib.hid (show u2 0 = .bool true from hG 0 (by simp))
  have HC6 := Lib.hid (show u2 1 = .bool true from hG 1 (by simp))
  have hbel0 := hbel
  clear hJ hG hall hb
  go_wp2
  go_ret
  exact ⟨by rw [HC6.out]; rfl, hbel⟩
set_option maxRecDepth 100000 in
set_option maxHeartbeats 8000000 in
theorem edBack_no1 {w : World} {va : Value} {la : List UInt8} {vb : Value} {lsb : List (List UInt8)} {bit : Int} (ha : (IsB la).P va w) (hb : (IsR lsb).P vb w) (t0 : la.length = 32) (t1 : 300 < allZ lsb) :
    Calls Try.prog 3 #[va, vb, .int .i64 bit] w fun e w' => e = .returned (.bool true) ∧ Below w.heap.size w w' := by
  have T0 := Lib.hid t0; clear t0
  have T1 := Lib.hid t1; clear t1
  have _ua := ha
  have _ub := hb
  clear _ua _ub
  obtain ⟨z, hz⟩ : ∃ z, allZ lsb = z := ⟨_, rfl⟩
  have HZ := Lib.hid hz; clear hz
  go_enter Try.func3, Try.ntmps3
  have hbel : Below w.heap.size w w := Below.refl _ _
  have hbel0 := hbel
  go_upto_region 0 with fail
  refine wp_region_turn (fun u => (va :: vb :: .int .i64 bit :: undef :: undef :: undef :: u 0 :: undef :: undef :: undef :: undef :: undef :: undef :: undef :: undef :: undef :: undef :: undef :: undef :: undef :: undef :: undef :: undef :: undef :: undef :: undef :: undef :: undef :: undef :: undef :: undef :: undef :: undef :: undef :: undef :: undef :: undef :: undef :: undef :: undef :: undef :: undef :: undef :: undef :: undef :: undef :: undef :: undef :: undef :: undef :: undef :: undef :: undef :: undef :: undef :: undef :: undef :: undef :: undef :: undef :: undef :: undef :: undef :: undef :: undef :: undef :: undef :: undef :: undef :: undef :: undef :: undef :: undef :: undef :: undef :: undef :: undef :: []).toArray) (Holds [.oth (fun v => v = .bool false)] w) (Keep [.oth (fun v => v = .bool false)] w) (fun _ => undef) ?_ (by rfl) Keep.start (holds_soft (by kernel_rfl)) ?_ ?_
  · intro u i v h
    rcases i with _ | i
    all_goals first | (simp [Act.put, putV]; done) | (exfalso; simp at h; omega)
  · intro hs
    refine ⟨?_, trivial⟩
    · exact step_pureO hs (wants_none rfl) rfl fun L u W hG hdep => ⟨_, run_assign rfl, rfl⟩
  intro L0 u0 W0 hall hJ hG
  have hb := hJ.all rfl
  have hbel := Below.call hbel hb
  have HC6 := Lib.hid (show u0 0 = .bool false from hG 0 (by simp))
  have hbel0 := hbel
  clear hJ hG hall hb
  go_upto_region 1 with fail
  refine wp_region_turn (fun u => (va :: vb :: .int .i64 bit :: undef :: undef :: undef :: u0 0 :: undef :: undef :: undef :: undef :: undef :: u 0 :: u 1 :: u 2 :: u 3 :: u 4 :: u 5 :: u 6 :: u 7 :: undef :: undef :: undef :: undef :: undef :: undef :: undef :: undef :: undef :: undef :: undef :: undef :: undef :: undef :: undef :: undef :: undef :: undef :: undef :: undef :: undef :: undef :: undef :: undef :: undef :: undef :: undef :: undef :: undef :: undef :: undef :: undef :: undef :: undef :: undef :: undef :: undef :: undef :: undef :: undef :: undef :: undef :: undef :: undef :: undef :: undef :: undef :: undef :: undef :: undef :: undef :: undef :: undef :: undef :: undef :: undef :: undef :: []).toArray) (Holds [.wld (IsB la) none, .oth (fun v => v = .int .i64 32), .oth (fun v => v = .bool false), .oth (fun v => v = .bool false), .wld (IsR lsb) none, .oth (fun v => v = .int .i64 z), .oth (fun v => v = .bool true), .oth (fun v => v = .bool true)] W0) (Keep [.wld (IsB la) none, .oth (fun v => v = .int .i64 32), .oth (fun v => v = .bool false), .oth (fun v => v = .bool false), .wld (IsR lsb) none, .oth (fun v => v = .int .i64 z), .oth (fun v => v = .bool true), .oth (fun v => v = .bool true)] W0) (fun _ => undef) ?_ (by rfl) Keep.start (holds_soft (by kernel_rfl)) ?_ ?_
  · intro u i v h
    rcases i with _ | _ | _ | _ | _ | _ | _ | _ | i
    all_goals first | (simp [Act.put, putV]; done) | (exfalso; simp at h; omega)
  · intro hs
    refine ⟨?_, ?_, ?_, ?_, ?_, ?_, ?_, ?_, trivial⟩
    · exact step_runP hs (wants_none rfl) rfl fun L u W hJ hG hL hdep => run_moveP (.inl rfl) ((IsB la).st _ _ _ ha (Below.call hbel (hJ.all rfl)))
    · exact step_runO hs (wants_none rfl) rfl fun L u W hJ hG hL hdep => run_lenP rfl (holds_wld (φ := IsB la) (hG 0 (hdep 0 (by kernel_rfl))) rfl till_none) (by rw [T0.out]; rfl)
    · refine step_pureO hs (wants_none rfl) rfl fun L u W hG hdep => ⟨_, ?_, rfl⟩
      have e0 := (show u 1 = .int .i64 32 from hG 1 (hdep 1 (by kernel_rfl)))
      go_simp
      try simp [bne]
    · exact step_pureO hs (wants_none rfl) rfl fun L u W hG hdep => ⟨_, run_move rfl, (show u 2 = .bool false from hG 2 (hdep 2 (by kernel_rfl)))⟩
    · exact step_runP hs (wants_on 3 rfl rfl (by kernel_rfl) (fun _ => rfl)) rfl fun L u W hJ hG hL hdep => run_moveP (.inl rfl) ((IsR lsb).st _ _ _ hb (Below.call hbel (hJ.all rfl)))
    · refine step_callO hs (wants_on 3 rfl rfl (by kernel_rfl) (fun _ => rfl)) rfl fun L u W hJ hG hL hdep K hK => ?_
      go_simp
      go_at_call 7
      (with_reducible refine (gAll (z := z) HZ.out (holds_wld (φ := IsR lsb) (hG 4 (hdep 4 (by kernel_rfl))) rfl till_none)).mono ?_); rintro e w1 ⟨rfl, hb⟩
      have hk := hK.out _ _ rfl hb
      exact hk
    · refine step_pureO hs (wants_on 3 rfl rfl (by kernel_rfl) (fun _ => rfl)) rfl fun L u W hG hdep => ⟨_, ?_, rfl⟩
      have e0 := (show u 5 = .int .i64 z from hG 5 (hdep 5 (by kernel_rfl)))
      have e9 : decide (300 < z) = true := decide_eq_true (by rw [← HZ.out]; exact T1.out)
      go_simp
      try exact e9
    · exact step_pick false hs (wants_none rfl) rfl rfl (fun L u W hG hdep => (show u 3 = .bool false from hG 3 (hdep 3 (by kernel_rfl)))) (fun L u W hG hdep => (show u 6 = .bool true from hG 6 (hdep 6 (by kernel_rfl))))
  intro L1 u1 W1 hall hJ hG
  have hb := hJ.all rfl
  have hbel := Below.call hbel hb
  have HC14 := Lib.hid (show u1 2 = .bool false from hG 2 (by simp))
  have HC15 := Lib.hid (show u1 3 = .bool false from hG 3 (by simp))
  have HC18 := Lib.hid (show u1 6 = .bool true from hG 6 (by simp))
  have HC19 := Lib.hid (show u1 7 = .bool true from hG 7 (by simp))
  have hbel0 := hbel
  clear hJ hG hall hb
  have hx : u1 7 = .bool true := HC19.out
  go_wp2_with fail
  rw [hx]
  clear hx
  go_upto_region 2 with fail
  refine wp_region_turn (fun u => (va :: vb :: .int .i64 bit :: undef :: undef :: undef :: u 1 :: undef :: undef :: undef :: undef :: undef :: u1 0 :: u1 1 :: u1 2 :: u1 3 :: u1 4 :: u1 5 :: u1 6 :: .bool true :: u 0 :: undef :: undef :: undef :: undef :: undef :: undef :: undef :: undef :: undef :: undef :: undef :: undef :: undef :: undef :: undef :: undef :: undef :: undef :: undef :: undef :: undef :: undef :: undef :: undef :: undef :: undef :: undef :: undef :: undef :: undef :: undef :: undef :: undef :: undef :: undef :: undef :: undef :: undef :: undef :: undef :: undef :: undef :: undef :: undef :: undef :: undef :: undef :: undef :: undef :: undef :: undef :: undef :: undef :: undef :: undef :: undef :: []).toArray) (Holds [.oth (fun v => v = .bool true), .oth (fun v => v = .bool true)] W1) (Keep [.oth (fun v => v = .bool true), .oth (fun v => v = .bool true)] W1) (fun k => ((undef :: u0 0 :: []) : List Value).getD k undef) ?_ (by rfl) Keep.start (holds_soft (by kernel_rfl)) ?_ ?_
  · intro u i v h
    rcases i with _ | _ | i
    all_goals first | (simp [Act.put, putV]; done) | (exfalso; simp at h; omega)
  · intro hs
    refine ⟨?_, ?_, trivial⟩
    · refine step_callO hs (wants_none rfl) rfl fun L u W hJ hG hL hdep K hK => ?_
      go_simp
      go_at_call 8
      (with_reducible refine (law9awake_any _).mono ?_); rintro e w1 ⟨rfl, hb⟩
      have hk := hK.out _ _ rfl hb
      exact hk
    · exact step_pureO hs (wants_none rfl) rfl fun L u W hG hdep => ⟨_, run_assign rfl, (show u 0 = .bool true from hG 0 (hdep 0 (by kernel_rfl)))⟩
  intro L2 u2 W2 hall hJ hG
  have hb := hJ.all rfl
  have hbel := Below.call hbel hb
  have HC20 := Lib.hid (show u2 0 = .bool true from hG 0 (by simp))
  have HC6 := Lib.hid (show u2 1 = .bool true from hG 1 (by simp))
  have hbel0 := hbel
  clear hJ hG hall hb
  go_wp2
  go_ret
  exact ⟨by rw [HC6.out]; rfl, hbel⟩
theorem edBack_any {a0 : Option Addr} {n0 cap0 : Nat} {la : List UInt8} {a1 : Option Addr} {n1 cap1 : Nat} {lsb : List (List UInt8)} {bit : Int} (w : World) (ha : RdB w a0 n0 cap0 la) (hb : RdRows w a1 n1 cap1 lsb) (_hwbit : (Lit.int .i64 bit).wf = true) :
    Calls Try.prog 3 #[.slice a0 n0 cap0, .slice a1 n1 cap1, .int .i64 bit] w fun e w' => e = .returned (.bool true) ∧ Below w.heap.size w w' := by
  by_cases t0 : la.length = 32
  rotate_left
  · exact edBack_no0 (IsB.mk ha) (IsR.mk hb)  (t0)
  by_cases t1 : allZ lsb ≤ 300
  rotate_left
  · exact edBack_no1 (IsB.mk ha) (IsR.mk hb) t0 (Int.not_le.1 t1)
  exact edBack_few (IsB.mk ha) (IsR.mk hb) t0 t1
namespace edBackDone
theorem own : ownKnob Try.prog.godebug = none := by kernel_rfl
theorem laidOut : laidOutB Try.prog = true := by kernel_rfl
set_option maxRecDepth 100000 in
theorem lifted (os : Os) (started : os.Started) (H : Type) (enc : TypeId × Value → H) :
    ReturnsInHanded {} Try.checked os 3 .any (Rows.edBackSpec.pre6 enc Try.prog Try.f3 Rows.edBackRow.domain false) (Rows.edBackSpec.post enc Try.prog Try.f3 false true false false) := by
  refine returnsInHanded_of_change (C := Try.checked) own started (by kernel_rfl) Try.func3
    (ChangeSpec.witness6 (enc := enc) (C := Try.checked) false ⟨#[], #[.slice none 0 0, .slice none 0 0, .int .i64 0], []⟩ 8 (by kernel_rfl) (by kernel_rfl) (by kernel_rfl) (by kernel_rfl)) ?_
  intro W base args ds gs before hval0 hW hcnd _
  have hval : ∀ (j : Nat) t v, Try.f3.params[j]? = some t → args[j]? = some v → Value.okWide Try.prog W .any base t v := hval0
  have hW' := hW
  obtain ⟨p, q, hA0, hV, rfl, hfz, hnd⟩ := hW
  have hA : DataW.TrodAll enc Try.prog W 0 (fun _ => true) true Try.f3.params.toList args.toList ds p := hA0
  rw [Try.params3] at hA hval
  obtain ⟨v0, vs0, d0, ds0, p0, q0, hargs, rfl, rfl, h0, r0⟩ := trodAll_cons hA
  obtain ⟨v1, vs1, d1, ds1, p1, q1, rfl, rfl, rfl, h1, r1⟩ := trodAll_cons r0
  obtain ⟨v2, vs2, d2, ds2, p2, q2, rfl, rfl, rfl, h2, r2⟩ := trodAll_cons r1
  obtain ⟨rfl, rfl, rfl⟩ := trodAll_nil r2
  obtain rfl : args = #[v0, v1, v2] := by cases args; simp_all
  obtain ⟨rfl, rfl⟩ := trodVars_none hV
  obtain ⟨a0, len0, cap0, rfl⟩ := okWide_slice Try.underlying22 (hval 0 22 v0 rfl rfl)
  have k0 := h0
  have lt0 : ∀ x ∈ p0, x.block < W.heap.size := by obtain ⟨m, hm⟩ := k0; exact DataW.trod_lt m _ _ _ hm
  obtain ⟨l0, w0⟩ : ∃ l, RdB W a0 len0 cap0 l := by
    obtain ⟨fuel, hf⟩ := h0
    rcases open_ints Try.underlying22 Try.underlying5 (by kernel_rfl) hf with ⟨hcs, _⟩ | ⟨x, l, c, zs, hcs, _, hl, hm, hz, _, hcell, hwz⟩
    · simp [Value.cells] at hcs
      obtain ⟨rfl, rfl, rfl⟩ := hcs
      exact ⟨[], RdB.nil _⟩
    · simp [Value.cells] at hcs
      obtain ⟨rfl, rfl, rfl⟩ := hcs
      exact RdB.of_ints (.inr ⟨_, rfl, hl, hm, by simpa using hz, hcell, hwz⟩)
  obtain ⟨a1, len1, cap1, rfl⟩ := okWide_slice Try.underlying23 (hval 1 23 v1 rfl rfl)
  have k1 := h1
  have lt1 : ∀ x ∈ p1, x.block < W.heap.size := by obtain ⟨m, hm⟩ := k1; exact DataW.trod_lt m _ _ _ hm
  obtain ⟨l1, w1⟩ : ∃ l, RdRows W a1 len1 cap1 l := by
    obtain ⟨fuel, hf⟩ := h1
    rcases Deep.open_int_rows Try.underlying23 Try.underlying22 Try.underlying5 (by kernel_rfl) (by kernel_rfl) hf with ⟨hcs, _⟩ | ⟨x, l, c, A, L, C, Z, hcs, _, hl, hm, _, hr⟩
    · simp [Value.cells] at hcs
      obtain ⟨rfl, rfl, rfl⟩ := hcs
      exact RdRows.of_rows (.inl ⟨rfl, rfl, rfl⟩)
    · simp [Value.cells] at hcs
      obtain ⟨rfl, rfl, rfl⟩ := hcs
      exact RdRows.of_rows (.inr ⟨x, A, L, C, Z, rfl, hl, hm, fun r hc => ⟨(hr r hc).1, (hr r hc).2.1, (hr r hc).2.2.1, (hr r hc).2.2.2.1, (hr r hc).2.2.2.2.1, (hr r hc).2.2.2.2.2.1, fun a' h => ((hr r hc).2.2.2.2.2.2 a' h).2⟩⟩)
  obtain ⟨a2, rfl, rfl, rfl, w2⟩ := open_int Try.underlying3 (hval 2 3 v2 rfl rfl) h2
  clear hA0 hval0
  refine (edBack_any W w0 w1 w2).mono fun e W' ⟨he, bel⟩ => ?_
  subst he
  exact ⟨_, rfl, _, _, _, [], _, [], hW', trodAll_mk1 (shut_bool Try.underlying4 _), (trodAll_cons_mk (Below.trod laidOut (by kernel_rfl) (of_decide_eq_true (by kernel_rfl)) k0 bel lt0) (trodAll_cons_mk (Below.trod laidOut (by kernel_rfl) (of_decide_eq_true (by kernel_rfl)) k1 bel lt1) (trodAll_cons_mk (shut_int Try.underlying3 w2) trodAll_mk0))), rfl, bel.frame _, fun h => by cases h⟩
theorem over : Rows.edBackRow.holds Try.pinned (OpenSpec.ofChange Rows.edBackSpec) :=
  OpenClaim.holds_of_wide 3 Try.f3 rfl rfl rfl rfl rfl rfl rfl ⟨rfl, rfl, rfl, rfl, rfl⟩ rfl rfl rfl rfl rfl (by kernel_rfl) Try.func3 (by kernel_rfl)
    (of_decide_eq_true (by kernel_rfl)) (by unfold Func.isWrapper; first | (rw [if_pos (by decide +kernel)]; kernel_rfl) | (rw [if_neg (by decide +kernel)]; exact ⟨rfl, rfl⟩))
    (fun os started H enc _ => lifted os started H enc)
theorem proved : Rows.EdBackSaid := over
#print axioms proved
end edBackDone

end Go.Proofs.Ytielgpefoameiaa
