/- Of chapter 7, ScalarSmalls: for every input the law returns true, and each argument reads behind the call as it read before. No condition. -/
import Derived.Test.YtbgfokdchpcifaaLsc
import Derived.ProofKit
import Derived.ShutString
import Derived.ChangeOld
namespace Go.Proofs.Ytbgfokdchpcifaa
open Go.ChangeShapes Go.WideShapes Go.ChangeAt Go.RowKit
open Go.ChangeMaps (open_string shut_string)

theorem leB_one (k n : Nat) : leB (k + 1) n = leB k n ++ [UInt8.ofNat (n / 2 ^ (8 * k))] := by
  rw [leB_append]; congr 1; simp [leB]
theorem byte_conv (n k : Nat) (ni : Int) (h : ni = (n : Int)) : bV (UInt8.ofNat (n / 2 ^ (8 * k))) = .int .u8 (ni / 2 ^ (8 * k) % 256) := by
  subst h; simp [bV]
set_option maxHeartbeats 1000000 in
theorem of_any (n : Nat) (hn : n < 18446744073709551616) (w : World) :
    Calls Try.prog 26 #[.int .u64 n] w fun e w' => e = .returned (.agg #[.int .u64 (lw n 0 : Nat), .int .u64 (lw n 1 : Nat), .int .u64 (lw n 2 : Nat), .int .u64 (lw n 3 : Nat)]) ∧ Below w.heap.size w w' := by
  obtain ⟨ni, hni⟩ : ∃ ni : Int, ni = (n : Int) := ⟨_, rfl⟩
  have HN := Lib.hid hni
  have HL := Lib.hid hn
  rw [← hni]
  have h0 : 0 ≤ ni := by omega
  have h1 : ni < 18446744073709551616 := by omega
  clear hni hn
  go_enter Try.func26, Try.ntmps26
  go_wp2
  go_loopw [3, 4] (fun v i wr => ∃ k : Nat, k ≤ 8 ∧ i = .int .i64 k ∧ wr.ownsRow (w.heap.size + 1) 5 1 v k ((leB k n).map bV) ∧ Blk wr w.heap.size [.int .u64 0, .int .u64 0, .int .u64 0, .int .u64 0] 27 ∧ Below w.heap.size w wr ∧ w.heap.size + 1 ≤ wr.heap.size) (fun _ i _ => 8 - (intOf i).toNat)
  case atStart => exact ⟨0, by omega, rfl, ⟨rfl, .inl ⟨rfl, rfl⟩⟩, Blk.new w _ _, (by repeat (first | (with_reducible refine Below.alloc' ?_ _) | (with_reducible refine Below.drew ?_) | (with_reducible refine below_drewN ?_ _) | ((with_reducible refine Below.setCell ?_ ?_ _); rotate_left; (focus (first | exact Nat.le_refl _ | (simp; done) | (simp; omega)))) | (with_reducible assumption) | (with_reducible exact Below.refl _ _))), by simp⟩
  case round =>
    obtain ⟨k, hk, rfl, hown, hO, hbel, hsz⟩ := hrel
    by_cases hlt : k < 8
    · have hk8 : 8 * k < 64 := by omega
      have hc : ∀ W : World, Blk (W.alloc (.cells #[.int .u8 (ni / 2 ^ (8 * k) % 256)] 5)) W.heap.size ([UInt8.ofNat (n / 2 ^ (8 * k))].map bV ++ []) 5 := fun W => by
        simp only [List.map_cons, List.map_nil, List.append_nil, byte_conv n k ni HN.out]
        exact Blk.new W _ _
      have HC := Lib.hid hc
      clear hc
      go_wp2_with (at_builtin; go_must (refine app_bytes _ rfl (.tmp 9) (.tmp 15) rfl (w.heap.size + 1) _ k (leB k n) rfl ?d1 _ _ _ [UInt8.ofNat (n / 2 ^ (8 * k))] rfl ?d2 (by omega) ?d3 wr ?d4 ?d5))
      case d1 => exact hown.alloc _
      case d2 => exact RdB.blk [] (HC.out wr) rfl (by omega) (by unfold maxLen; omega)
      case d3 => simp; omega
      case d4 => exact (Below.refl _ _).alloc hsz _
      case d5 =>
        intro v2 w2 hown2 hb2
        have hO2 := hO.below hb2 (by omega)
        have hbel2 : Below w.heap.size w w2 := hbel.trans (hb2.mono (by omega))
        have hsz2 : w.heap.size + 1 ≤ w2.heap.size := Nat.le_trans hsz hb2.size
        have hown3 : w2.ownsRow (w.heap.size + 1) 5 1 v2 (k + 1) ((leB (k + 1) n).map bV) := by
          rw [leB_one, List.map_append]; exact hown2
        have HO := Lib.hid hown3
        clear hown hown2 hown3 hO hbel hb2 hsz
        go_wp2
        go_roundw
        case rel => exact ⟨k + 1, by omega, by go_num, HO.out, hO2, hbel2, hsz2⟩
        case measure => simp [intOf] <;> omega
    · obtain rfl : k = 8 := by omega
      obtain ⟨g, cap, r, rfl, hg, hB, hl, hc, hm⟩ := own_rdb hown (by omega)
      have hR := Lib.hid (RdB.blk r hB hl hc hm)
      have hW := wide_any wr hR.out
      rw [show leN (first (leB 8 n) 64) % Lq = n from by rw [leN_first, List.take_of_length_le (by rw [leB_len]; omega), leN_leB, Nat.mod_eq_of_lt (show n < 2 ^ (8 * 8) from HL.out), Nat.mod_eq_of_lt (by have := HL.out; unfold Lq; omega)]] at hW
      have HW := Lib.hid hW
      clear hown hB hW hl hc hm hk hlt
      go_wp2_with (go_at_call 9; go_must (refine HW.out.mono ?_; rintro e w2 ⟨rfl, hb⟩; have hO2 := hO.below' hb; have oc := hO2.cell; have of := hO2.frozen; have hbel2 := Below.call hbel hb; clear hb hO hO2))
      exact bodyPost_ret (v := .agg #[.int .u64 (lw n 0 : Nat), .int .u64 (lw n 1 : Nat), .int .u64 (lw n 2 : Nat), .int .u64 (lw n 3 : Nat)]) (by simp [results, Try.results26, go_sem, oc]) rfl ⟨rfl, (by repeat (first | (with_reducible refine Below.alloc' ?_ _) | (with_reducible refine Below.drew ?_) | (with_reducible refine below_drewN ?_ _) | ((with_reducible refine Below.setCell ?_ ?_ _); rotate_left; (focus (first | exact Nat.le_refl _ | (simp; done) | (simp; omega)))) | (with_reducible assumption) | (with_reducible exact Below.refl _ _)))⟩
theorem ofI {ni : Int} (n : Nat) (h : ni = (n : Int)) (hn : n < 18446744073709551616) (w : World) :
    Calls Try.prog 26 #[.int .u64 ni] w fun e w' => e = .returned (.agg #[.int .u64 (lw n 0 : Nat), .int .u64 (lw n 1 : Nat), .int .u64 (lw n 2 : Nat), .int .u64 (lw n 3 : Nat)]) ∧ Below w.heap.size w w' := by subst h; exact of_any n hn w
theorem scbit_neg (n : Nat) (k : Int) (hk : k < 0) (w : World) :
    Calls Try.prog 13 #[.agg #[.int .u64 (lw n 0 : Nat), .int .u64 (lw n 1 : Nat), .int .u64 (lw n 2 : Nat), .int .u64 (lw n 3 : Nat)], .int .i64 k] w fun e w' => e = .returned (.int .i64 0) ∧ Below w.heap.size w w' := by
  have hd : decide (k < 0) = true := by simpa using hk
  clear hk
  go_enter Try.func13, Try.ntmps13
  go_wp2
  go_ret
  exact ⟨rfl, (by repeat (first | (with_reducible refine Below.alloc' ?_ _) | (with_reducible refine Below.drew ?_) | (with_reducible refine below_drewN ?_ _) | ((with_reducible refine Below.setCell ?_ ?_ _); rotate_left; (focus (first | exact Nat.le_refl _ | (simp; done) | (simp; omega)))) | (with_reducible assumption) | (with_reducible exact Below.refl _ _)))⟩
theorem wd_lt {x y : Nat} (hx : x < 2147483648) (hy : y < 2147483648) : x * y < 4611686018427387904 := by
  have : x * y ≤ 2147483647 * 2147483647 := Nat.mul_le_mul (by omega) (by omega)
  omega
set_option maxHeartbeats 2000000 in
theorem small_core (x y : Nat) (a b k : Int) (s : Bool) (hx : x < 2147483648) (hy : y < 2147483648) (ea : bits BinOp.and IntKind.u64 a 2147483647 = (x : Int)) (eb : bits BinOp.and IntKind.u64 b 2147483647 = (y : Int))
    (hs : ((x : Int) == (y : Int)) = s) (S : ∀ w : World, Calls Try.prog 12 #[.agg #[.int .u64 (lw x 0 : Nat), .int .u64 (lw x 1 : Nat), .int .u64 (lw x 2 : Nat), .int .u64 (lw x 3 : Nat)], .agg #[.int .u64 (lw y 0 : Nat), .int .u64 (lw y 1 : Nat), .int .u64 (lw y 2 : Nat), .int .u64 (lw y 3 : Nat)]] w fun e w' => e = .returned (.bool s) ∧ Below w.heap.size w w')
    (hk : k < 0 ∨ (0 ≤ k ∧ k < 64) ∨ 64 ≤ k) (w : World) :
    Calls Try.prog 6 #[.int .u64 a, .int .u64 b, .int .i64 k] w fun e w' => e = .returned (.bool true) ∧ Below w.heap.size w w' := by
  have HX : Hid (x < 18446744073709551616) := Lib.hid (by omega)
  have HY : Hid (y < 18446744073709551616) := Lib.hid (by omega)
  have HXL : Hid (x < Lq) := Lib.hid (by unfold Lq; omega)
  have HYL : Hid (y < Lq) := Lib.hid (by unfold Lq; omega)
  have hxy := wd_lt hx hy
  have HA1 : Hid (IntKind.u64.wrap ((x : Int) + (y : Int)) = ((x + y : Nat) : Int)) := Lib.hid (by rw [wrapU]; omega)
  have HA2 : Hid (x + y < 18446744073709551616) := Lib.hid (by omega)
  have HA3 : Hid (sadd x y = x + y) := Lib.hid (by unfold sadd; rw [Nat.mod_eq_of_lt (by unfold Lq; omega)])
  have HM1 : Hid ((IntKind.u64.wrap ((x : Int) * (y : Int))) = ((x * y : Nat) : Int)) := Lib.hid (by rw [show (x : Int) * (y : Int) = ((x * y : Nat) : Int) from by simp, wrapU]; omega)
  have HM2 : Hid (x * y < 18446744073709551616) := Lib.hid (by omega)
  have HM3 : Hid (smul x y = x * y) := Lib.hid (by unfold smul; rw [Nat.mod_eq_of_lt (by unfold Lq; omega)])
  have HS := Lib.hid S
  clear S hxy hx hy
  rcases hk with hk | ⟨hk0, hk1⟩ | hk
  · have d1 : decide (0 ≤ k) = false := by simp; omega
    have d2 : decide (63 < k) = false := by simp; omega
    have HB := Lib.hid (fun w => scbit_neg x k hk w)
    clear hk
    go_enter Try.func6, Try.ntmps6
    go_upto_region 5 with (go_at_call 26; first | ((with_reducible refine (of_any x (by exact HX.out) _).mono ?_); rintro e w1 ⟨rfl, h1⟩; have hbel1 : Below w.heap.size w w1 := Below.call (by repeat (first | (with_reducible refine Below.alloc' ?_ _) | (with_reducible refine Below.drew ?_) | (with_reducible refine below_drewN ?_ _) | ((with_reducible refine Below.setCell ?_ ?_ _); rotate_left; (focus (first | exact Nat.le_refl _ | (simp; done) | (simp; omega)))) | (with_reducible assumption) | (with_reducible exact Below.refl _ _))) h1; clear h1) | ((with_reducible refine (of_any y (by exact HY.out) _).mono ?_); rintro e w2 ⟨rfl, h2⟩; have hbel2 : Below w.heap.size w w2 := Below.call (by repeat (first | (with_reducible refine Below.alloc' ?_ _) | (with_reducible refine Below.drew ?_) | (with_reducible refine below_drewN ?_ _) | ((with_reducible refine Below.setCell ?_ ?_ _); rotate_left; (focus (first | exact Nat.le_refl _ | (simp; done) | (simp; omega)))) | (with_reducible assumption) | (with_reducible exact Below.refl _ _))) h2; clear h2))
    refine wp_gen (fun W => Blk W w2.heap.size [.int .u64 (lw x 0 : Nat),.int .u64 (lw x 1 : Nat),.int .u64 (lw x 2 : Nat),.int .u64 (lw x 3 : Nat)] 27 ∧ Blk W (w2.heap.size + 1) [.int .u64 (lw y 0 : Nat),.int .u64 (lw y 1 : Nat),.int .u64 (lw y 2 : Nat),.int .u64 (lw y 3 : Nat)] 27 ∧ Below w.heap.size w W) ?_ (fun W0 hW => ?_)
    · exact ⟨(Blk.new w2 _ _).alloc _, Blk.new' (by simp), (by repeat (first | (with_reducible refine Below.alloc' ?_ _) | (with_reducible refine Below.drew ?_) | (with_reducible refine below_drewN ?_ _) | ((with_reducible refine Below.setCell ?_ ?_ _); rotate_left; (focus (first | exact Nat.le_refl _ | (simp; done) | (simp; omega)))) | (with_reducible assumption) | (with_reducible exact Below.refl _ _)))⟩
    have hX := Lib.hid hW.1
    have hY := Lib.hid hW.2.1
    have hb0 := hW.2.2
    have xc := hW.1.cell
    have yc := hW.2.1.cell
    have hbel : Below W0.heap.size W0 W0 := Below.refl _ _
    clear hbel1 hbel2 hW
    go_wp2_with (first       | (go_at_call 21; (with_reducible refine (mulM HXL.out HYL.out _).mono ?_); rintro e w1 ⟨rfl, hb⟩; have hbel' := Below.call (show Below W0.heap.size W0 _ from (by repeat (first | (with_reducible refine Below.alloc' ?_ _) | (with_reducible refine Below.drew ?_) | (with_reducible refine below_drewN ?_ _) | ((with_reducible refine Below.setCell ?_ ?_ _); rotate_left; (focus (first | exact Nat.le_refl _ | (simp; done) | (simp; omega)))) | (with_reducible assumption) | (with_reducible exact Below.refl _ _)))) hb; clear hb hbel xc yc; have hbel := hbel'; clear hbel'; have xc := (hX.out.below' hbel).cell; have yc := (hY.out.below' hbel).cell)       | (go_at_call 19; (with_reducible refine (addM HXL.out HYL.out _).mono ?_); rintro e w1 ⟨rfl, hb⟩; have hbel' := Below.call (show Below W0.heap.size W0 _ from (by repeat (first | (with_reducible refine Below.alloc' ?_ _) | (with_reducible refine Below.drew ?_) | (with_reducible refine below_drewN ?_ _) | ((with_reducible refine Below.setCell ?_ ?_ _); rotate_left; (focus (first | exact Nat.le_refl _ | (simp; done) | (simp; omega)))) | (with_reducible assumption) | (with_reducible exact Below.refl _ _)))) hb; clear hb hbel xc yc; have hbel := hbel'; clear hbel'; have xc := (hX.out.below' hbel).cell; have yc := (hY.out.below' hbel).cell)       | (go_at_call 26; first | ((with_reducible refine (ofI (x + y) (by with_reducible exact HA1.out) HA2.out _).mono ?_); rintro e w1 ⟨rfl, hb⟩; have hbel' := Below.call (show Below W0.heap.size W0 _ from (by repeat (first | (with_reducible refine Below.alloc' ?_ _) | (with_reducible refine Below.drew ?_) | (with_reducible refine below_drewN ?_ _) | ((with_reducible refine Below.setCell ?_ ?_ _); rotate_left; (focus (first | exact Nat.le_refl _ | (simp; done) | (simp; omega)))) | (with_reducible assumption) | (with_reducible exact Below.refl _ _)))) hb; clear hb hbel xc yc; have hbel := hbel'; clear hbel'; have xc := (hX.out.below' hbel).cell; have yc := (hY.out.below' hbel).cell) | ((with_reducible refine (ofI (x * y) (by with_reducible exact HM1.out) HM2.out _).mono ?_); rintro e w1 ⟨rfl, hb⟩; have hbel' := Below.call (show Below W0.heap.size W0 _ from (by repeat (first | (with_reducible refine Below.alloc' ?_ _) | (with_reducible refine Below.drew ?_) | (with_reducible refine below_drewN ?_ _) | ((with_reducible refine Below.setCell ?_ ?_ _); rotate_left; (focus (first | exact Nat.le_refl _ | (simp; done) | (simp; omega)))) | (with_reducible assumption) | (with_reducible exact Below.refl _ _)))) hb; clear hb hbel xc yc; have hbel := hbel'; clear hbel'; have xc := (hX.out.below' hbel).cell; have yc := (hY.out.below' hbel).cell))       | (go_at_call 12; first | ((with_reducible refine (HS.out _).mono ?_); rintro e w1 ⟨rfl, hb⟩; have hbel' := Below.call (show Below W0.heap.size W0 _ from (by repeat (first | (with_reducible refine Below.alloc' ?_ _) | (with_reducible refine Below.drew ?_) | (with_reducible refine below_drewN ?_ _) | ((with_reducible refine Below.setCell ?_ ?_ _); rotate_left; (focus (first | exact Nat.le_refl _ | (simp; done) | (simp; omega)))) | (with_reducible assumption) | (with_reducible exact Below.refl _ _)))) hb; clear hb hbel xc yc; have hbel := hbel'; clear hbel'; have xc := (hX.out.below' hbel).cell; have yc := (hY.out.below' hbel).cell) | ((with_reducible refine (sameT (a := sadd x y) (sadd_lt _ _) HA3.out _).mono ?_); rintro e w1 ⟨rfl, hb⟩; have hbel' := Below.call (show Below W0.heap.size W0 _ from (by repeat (first | (with_reducible refine Below.alloc' ?_ _) | (with_reducible refine Below.drew ?_) | (with_reducible refine below_drewN ?_ _) | ((with_reducible refine Below.setCell ?_ ?_ _); rotate_left; (focus (first | exact Nat.le_refl _ | (simp; done) | (simp; omega)))) | (with_reducible assumption) | (with_reducible exact Below.refl _ _)))) hb; clear hb hbel xc yc; have hbel := hbel'; clear hbel'; have xc := (hX.out.below' hbel).cell; have yc := (hY.out.below' hbel).cell) | ((with_reducible refine (sameT (a := smul x y) (smul_lt _ _) HM3.out _).mono ?_); rintro e w1 ⟨rfl, hb⟩; have hbel' := Below.call (show Below W0.heap.size W0 _ from (by repeat (first | (with_reducible refine Below.alloc' ?_ _) | (with_reducible refine Below.drew ?_) | (with_reducible refine below_drewN ?_ _) | ((with_reducible refine Below.setCell ?_ ?_ _); rotate_left; (focus (first | exact Nat.le_refl _ | (simp; done) | (simp; omega)))) | (with_reducible assumption) | (with_reducible exact Below.refl _ _)))) hb; clear hb hbel xc yc; have hbel := hbel'; clear hbel'; have xc := (hX.out.below' hbel).cell; have yc := (hY.out.below' hbel).cell))       | (go_at_call 13; (with_reducible refine (HB.out _).mono ?_); rintro e w1 ⟨rfl, hb⟩; have hbel' := Below.call (show Below W0.heap.size W0 _ from (by repeat (first | (with_reducible refine Below.alloc' ?_ _) | (with_reducible refine Below.drew ?_) | (with_reducible refine below_drewN ?_ _) | ((with_reducible refine Below.setCell ?_ ?_ _); rotate_left; (focus (first | exact Nat.le_refl _ | (simp; done) | (simp; omega)))) | (with_reducible assumption) | (with_reducible exact Below.refl _ _)))) hb; clear hb hbel xc yc; have hbel := hbel'; clear hbel'; have xc := (hX.out.below' hbel).cell; have yc := (hY.out.below' hbel).cell)       | (go_at_call 8; (with_reducible refine (law7awake_any _).mono ?_); rintro e w1 ⟨rfl, hb⟩; have hbel' := Below.call (show Below W0.heap.size W0 _ from (by repeat (first | (with_reducible refine Below.alloc' ?_ _) | (with_reducible refine Below.drew ?_) | (with_reducible refine below_drewN ?_ _) | ((with_reducible refine Below.setCell ?_ ?_ _); rotate_left; (focus (first | exact Nat.le_refl _ | (simp; done) | (simp; omega)))) | (with_reducible assumption) | (with_reducible exact Below.refl _ _)))) hb; clear hb hbel xc yc; have hbel := hbel'; clear hbel'; have xc := (hX.out.below' hbel).cell; have yc := (hY.out.below' hbel).cell))
    go_ret
    exact ⟨rfl, Below.call hb0 hbel⟩
  · obtain ⟨kn, rfl⟩ := Int.eq_ofNat_of_zero_le hk0
    have hkn : kn < 64 := by omega
    have d1 : decide (0 ≤ (kn : Int)) = true := by simp
    have d2 : decide (63 < (kn : Int)) = false := by simp; omega
    have d3 : decide ((kn : Int) < 64) = true := by simp; omega
    have hq : wrap64 (bits BinOp.and IntKind.u64 ((x : Int) / 2 ^ kn) 1) = ((x / 2 ^ kn % 2 : Nat) : Int) := by
      have h1 : x / 2 ^ kn < 18446744073709551616 := Nat.lt_of_le_of_lt (Nat.div_le_self _ _) HX.out
      rw [show (x : Int) / 2 ^ kn = ((x / 2 ^ kn : Nat) : Int) from by simp, show (1 : Int) = ((1 : Nat) : Int) from rfl, u64_and_nat _ 1 h1 (by omega), Nat.and_one_is_mod, IntWalk.wrap64_in]; omega
    have HB := Lib.hid (fun w => scbit_any x kn (by omega) w)
    clear hk0 hk1
    generalize x / 2 ^ kn % 2 = q' at *
    go_enter Try.func6, Try.ntmps6
    go_upto_region 5 with (go_at_call 26; first | ((with_reducible refine (of_any x (by exact HX.out) _).mono ?_); rintro e w1 ⟨rfl, h1⟩; have hbel1 : Below w.heap.size w w1 := Below.call (by repeat (first | (with_reducible refine Below.alloc' ?_ _) | (with_reducible refine Below.drew ?_) | (with_reducible refine below_drewN ?_ _) | ((with_reducible refine Below.setCell ?_ ?_ _); rotate_left; (focus (first | exact Nat.le_refl _ | (simp; done) | (simp; omega)))) | (with_reducible assumption) | (with_reducible exact Below.refl _ _))) h1; clear h1) | ((with_reducible refine (of_any y (by exact HY.out) _).mono ?_); rintro e w2 ⟨rfl, h2⟩; have hbel2 : Below w.heap.size w w2 := Below.call (by repeat (first | (with_reducible refine Below.alloc' ?_ _) | (with_reducible refine Below.drew ?_) | (with_reducible refine below_drewN ?_ _) | ((with_reducible refine Below.setCell ?_ ?_ _); rotate_left; (focus (first | exact Nat.le_refl _ | (simp; done) | (simp; omega)))) | (with_reducible assumption) | (with_reducible exact Below.refl _ _))) h2; clear h2))
    refine wp_gen (fun W => Blk W w2.heap.size [.int .u64 (lw x 0 : Nat),.int .u64 (lw x 1 : Nat),.int .u64 (lw x 2 : Nat),.int .u64 (lw x 3 : Nat)] 27 ∧ Blk W (w2.heap.size + 1) [.int .u64 (lw y 0 : Nat),.int .u64 (lw y 1 : Nat),.int .u64 (lw y 2 : Nat),.int .u64 (lw y 3 : Nat)] 27 ∧ Below w.heap.size w W) ?_ (fun W0 hW => ?_)
    · exact ⟨(Blk.new w2 _ _).alloc _, Blk.new' (by simp), (by repeat (first | (with_reducible refine Below.alloc' ?_ _) | (with_reducible refine Below.drew ?_) | (with_reducible refine below_drewN ?_ _) | ((with_reducible refine Below.setCell ?_ ?_ _); rotate_left; (focus (first | exact Nat.le_refl _ | (simp; done) | (simp; omega)))) | (with_reducible assumption) | (with_reducible exact Below.refl _ _)))⟩
    have hX := Lib.hid hW.1
    have hY := Lib.hid hW.2.1
    have hb0 := hW.2.2
    have xc := hW.1.cell
    have yc := hW.2.1.cell
    have hbel : Below W0.heap.size W0 W0 := Below.refl _ _
    clear hbel1 hbel2 hW
    go_wp2_with (first       | (go_at_call 21; (with_reducible refine (mulM HXL.out HYL.out _).mono ?_); rintro e w1 ⟨rfl, hb⟩; have hbel' := Below.call (show Below W0.heap.size W0 _ from (by repeat (first | (with_reducible refine Below.alloc' ?_ _) | (with_reducible refine Below.drew ?_) | (with_reducible refine below_drewN ?_ _) | ((with_reducible refine Below.setCell ?_ ?_ _); rotate_left; (focus (first | exact Nat.le_refl _ | (simp; done) | (simp; omega)))) | (with_reducible assumption) | (with_reducible exact Below.refl _ _)))) hb; clear hb hbel xc yc; have hbel := hbel'; clear hbel'; have xc := (hX.out.below' hbel).cell; have yc := (hY.out.below' hbel).cell)       | (go_at_call 19; (with_reducible refine (addM HXL.out HYL.out _).mono ?_); rintro e w1 ⟨rfl, hb⟩; have hbel' := Below.call (show Below W0.heap.size W0 _ from (by repeat (first | (with_reducible refine Below.alloc' ?_ _) | (with_reducible refine Below.drew ?_) | (with_reducible refine below_drewN ?_ _) | ((with_reducible refine Below.setCell ?_ ?_ _); rotate_left; (focus (first | exact Nat.le_refl _ | (simp; done) | (simp; omega)))) | (with_reducible assumption) | (with_reducible exact Below.refl _ _)))) hb; clear hb hbel xc yc; have hbel := hbel'; clear hbel'; have xc := (hX.out.below' hbel).cell; have yc := (hY.out.below' hbel).cell)       | (go_at_call 26; first | ((with_reducible refine (ofI (x + y) (by with_reducible exact HA1.out) HA2.out _).mono ?_); rintro e w1 ⟨rfl, hb⟩; have hbel' := Below.call (show Below W0.heap.size W0 _ from (by repeat (first | (with_reducible refine Below.alloc' ?_ _) | (with_reducible refine Below.drew ?_) | (with_reducible refine below_drewN ?_ _) | ((with_reducible refine Below.setCell ?_ ?_ _); rotate_left; (focus (first | exact Nat.le_refl _ | (simp; done) | (simp; omega)))) | (with_reducible assumption) | (with_reducible exact Below.refl _ _)))) hb; clear hb hbel xc yc; have hbel := hbel'; clear hbel'; have xc := (hX.out.below' hbel).cell; have yc := (hY.out.below' hbel).cell) | ((with_reducible refine (ofI (x * y) (by with_reducible exact HM1.out) HM2.out _).mono ?_); rintro e w1 ⟨rfl, hb⟩; have hbel' := Below.call (show Below W0.heap.size W0 _ from (by repeat (first | (with_reducible refine Below.alloc' ?_ _) | (with_reducible refine Below.drew ?_) | (with_reducible refine below_drewN ?_ _) | ((with_reducible refine Below.setCell ?_ ?_ _); rotate_left; (focus (first | exact Nat.le_refl _ | (simp; done) | (simp; omega)))) | (with_reducible assumption) | (with_reducible exact Below.refl _ _)))) hb; clear hb hbel xc yc; have hbel := hbel'; clear hbel'; have xc := (hX.out.below' hbel).cell; have yc := (hY.out.below' hbel).cell))       | (go_at_call 12; first | ((with_reducible refine (HS.out _).mono ?_); rintro e w1 ⟨rfl, hb⟩; have hbel' := Below.call (show Below W0.heap.size W0 _ from (by repeat (first | (with_reducible refine Below.alloc' ?_ _) | (with_reducible refine Below.drew ?_) | (with_reducible refine below_drewN ?_ _) | ((with_reducible refine Below.setCell ?_ ?_ _); rotate_left; (focus (first | exact Nat.le_refl _ | (simp; done) | (simp; omega)))) | (with_reducible assumption) | (with_reducible exact Below.refl _ _)))) hb; clear hb hbel xc yc; have hbel := hbel'; clear hbel'; have xc := (hX.out.below' hbel).cell; have yc := (hY.out.below' hbel).cell) | ((with_reducible refine (sameT (a := sadd x y) (sadd_lt _ _) HA3.out _).mono ?_); rintro e w1 ⟨rfl, hb⟩; have hbel' := Below.call (show Below W0.heap.size W0 _ from (by repeat (first | (with_reducible refine Below.alloc' ?_ _) | (with_reducible refine Below.drew ?_) | (with_reducible refine below_drewN ?_ _) | ((with_reducible refine Below.setCell ?_ ?_ _); rotate_left; (focus (first | exact Nat.le_refl _ | (simp; done) | (simp; omega)))) | (with_reducible assumption) | (with_reducible exact Below.refl _ _)))) hb; clear hb hbel xc yc; have hbel := hbel'; clear hbel'; have xc := (hX.out.below' hbel).cell; have yc := (hY.out.below' hbel).cell) | ((with_reducible refine (sameT (a := smul x y) (smul_lt _ _) HM3.out _).mono ?_); rintro e w1 ⟨rfl, hb⟩; have hbel' := Below.call (show Below W0.heap.size W0 _ from (by repeat (first | (with_reducible refine Below.alloc' ?_ _) | (with_reducible refine Below.drew ?_) | (with_reducible refine below_drewN ?_ _) | ((with_reducible refine Below.setCell ?_ ?_ _); rotate_left; (focus (first | exact Nat.le_refl _ | (simp; done) | (simp; omega)))) | (with_reducible assumption) | (with_reducible exact Below.refl _ _)))) hb; clear hb hbel xc yc; have hbel := hbel'; clear hbel'; have xc := (hX.out.below' hbel).cell; have yc := (hY.out.below' hbel).cell))       | (go_at_call 13; (with_reducible refine (HB.out _).mono ?_); rintro e w1 ⟨rfl, hb⟩; have hbel' := Below.call (show Below W0.heap.size W0 _ from (by repeat (first | (with_reducible refine Below.alloc' ?_ _) | (with_reducible refine Below.drew ?_) | (with_reducible refine below_drewN ?_ _) | ((with_reducible refine Below.setCell ?_ ?_ _); rotate_left; (focus (first | exact Nat.le_refl _ | (simp; done) | (simp; omega)))) | (with_reducible assumption) | (with_reducible exact Below.refl _ _)))) hb; clear hb hbel xc yc; have hbel := hbel'; clear hbel'; have xc := (hX.out.below' hbel).cell; have yc := (hY.out.below' hbel).cell)       | (go_at_call 8; (with_reducible refine (law7awake_any _).mono ?_); rintro e w1 ⟨rfl, hb⟩; have hbel' := Below.call (show Below W0.heap.size W0 _ from (by repeat (first | (with_reducible refine Below.alloc' ?_ _) | (with_reducible refine Below.drew ?_) | (with_reducible refine below_drewN ?_ _) | ((with_reducible refine Below.setCell ?_ ?_ _); rotate_left; (focus (first | exact Nat.le_refl _ | (simp; done) | (simp; omega)))) | (with_reducible assumption) | (with_reducible exact Below.refl _ _)))) hb; clear hb hbel xc yc; have hbel := hbel'; clear hbel'; have xc := (hX.out.below' hbel).cell; have yc := (hY.out.below' hbel).cell))
    go_ret
    exact ⟨rfl, Below.call hb0 hbel⟩
  · have d1 : decide (0 ≤ k) = true := by simp; omega
    have d2 : decide (63 < k) = true := by simp; omega
    have d3 : decide (k < 64) = false := by simp; omega
    clear hk
    have HB := Lib.hid (fun w => scbit_neg x (-1) (by omega) w)
    go_enter Try.func6, Try.ntmps6
    go_upto_region 5 with (go_at_call 26; first | ((with_reducible refine (of_any x (by exact HX.out) _).mono ?_); rintro e w1 ⟨rfl, h1⟩; have hbel1 : Below w.heap.size w w1 := Below.call (by repeat (first | (with_reducible refine Below.alloc' ?_ _) | (with_reducible refine Below.drew ?_) | (with_reducible refine below_drewN ?_ _) | ((with_reducible refine Below.setCell ?_ ?_ _); rotate_left; (focus (first | exact Nat.le_refl _ | (simp; done) | (simp; omega)))) | (with_reducible assumption) | (with_reducible exact Below.refl _ _))) h1; clear h1) | ((with_reducible refine (of_any y (by exact HY.out) _).mono ?_); rintro e w2 ⟨rfl, h2⟩; have hbel2 : Below w.heap.size w w2 := Below.call (by repeat (first | (with_reducible refine Below.alloc' ?_ _) | (with_reducible refine Below.drew ?_) | (with_reducible refine below_drewN ?_ _) | ((with_reducible refine Below.setCell ?_ ?_ _); rotate_left; (focus (first | exact Nat.le_refl _ | (simp; done) | (simp; omega)))) | (with_reducible assumption) | (with_reducible exact Below.refl _ _))) h2; clear h2))
    refine wp_gen (fun W => Blk W w2.heap.size [.int .u64 (lw x 0 : Nat),.int .u64 (lw x 1 : Nat),.int .u64 (lw x 2 : Nat),.int .u64 (lw x 3 : Nat)] 27 ∧ Blk W (w2.heap.size + 1) [.int .u64 (lw y 0 : Nat),.int .u64 (lw y 1 : Nat),.int .u64 (lw y 2 : Nat),.int .u64 (lw y 3 : Nat)] 27 ∧ Below w.heap.size w W) ?_ (fun W0 hW => ?_)
    · exact ⟨(Blk.new w2 _ _).alloc _, Blk.new' (by simp), (by repeat (first | (with_reducible refine Below.alloc' ?_ _) | (with_reducible refine Below.drew ?_) | (with_reducible refine below_drewN ?_ _) | ((with_reducible refine Below.setCell ?_ ?_ _); rotate_left; (focus (first | exact Nat.le_refl _ | (simp; done) | (simp; omega)))) | (with_reducible assumption) | (with_reducible exact Below.refl _ _)))⟩
    have hX := Lib.hid hW.1
    have hY := Lib.hid hW.2.1
    have hb0 := hW.2.2
    have xc := hW.1.cell
    have yc := hW.2.1.cell
    have hbel : Below W0.heap.size W0 W0 := Below.refl _ _
    clear hbel1 hbel2 hW
    go_wp2_with (first       | (go_at_call 21; (with_reducible refine (mulM HXL.out HYL.out _).mono ?_); rintro e w1 ⟨rfl, hb⟩; have hbel' := Below.call (show Below W0.heap.size W0 _ from (by repeat (first | (with_reducible refine Below.alloc' ?_ _) | (with_reducible refine Below.drew ?_) | (with_reducible refine below_drewN ?_ _) | ((with_reducible refine Below.setCell ?_ ?_ _); rotate_left; (focus (first | exact Nat.le_refl _ | (simp; done) | (simp; omega)))) | (with_reducible assumption) | (with_reducible exact Below.refl _ _)))) hb; clear hb hbel xc yc; have hbel := hbel'; clear hbel'; have xc := (hX.out.below' hbel).cell; have yc := (hY.out.below' hbel).cell)       | (go_at_call 19; (with_reducible refine (addM HXL.out HYL.out _).mono ?_); rintro e w1 ⟨rfl, hb⟩; have hbel' := Below.call (show Below W0.heap.size W0 _ from (by repeat (first | (with_reducible refine Below.alloc' ?_ _) | (with_reducible refine Below.drew ?_) | (with_reducible refine below_drewN ?_ _) | ((with_reducible refine Below.setCell ?_ ?_ _); rotate_left; (focus (first | exact Nat.le_refl _ | (simp; done) | (simp; omega)))) | (with_reducible assumption) | (with_reducible exact Below.refl _ _)))) hb; clear hb hbel xc yc; have hbel := hbel'; clear hbel'; have xc := (hX.out.below' hbel).cell; have yc := (hY.out.below' hbel).cell)       | (go_at_call 26; first | ((with_reducible refine (ofI (x + y) (by with_reducible exact HA1.out) HA2.out _).mono ?_); rintro e w1 ⟨rfl, hb⟩; have hbel' := Below.call (show Below W0.heap.size W0 _ from (by repeat (first | (with_reducible refine Below.alloc' ?_ _) | (with_reducible refine Below.drew ?_) | (with_reducible refine below_drewN ?_ _) | ((with_reducible refine Below.setCell ?_ ?_ _); rotate_left; (focus (first | exact Nat.le_refl _ | (simp; done) | (simp; omega)))) | (with_reducible assumption) | (with_reducible exact Below.refl _ _)))) hb; clear hb hbel xc yc; have hbel := hbel'; clear hbel'; have xc := (hX.out.below' hbel).cell; have yc := (hY.out.below' hbel).cell) | ((with_reducible refine (ofI (x * y) (by with_reducible exact HM1.out) HM2.out _).mono ?_); rintro e w1 ⟨rfl, hb⟩; have hbel' := Below.call (show Below W0.heap.size W0 _ from (by repeat (first | (with_reducible refine Below.alloc' ?_ _) | (with_reducible refine Below.drew ?_) | (with_reducible refine below_drewN ?_ _) | ((with_reducible refine Below.setCell ?_ ?_ _); rotate_left; (focus (first | exact Nat.le_refl _ | (simp; done) | (simp; omega)))) | (with_reducible assumption) | (with_reducible exact Below.refl _ _)))) hb; clear hb hbel xc yc; have hbel := hbel'; clear hbel'; have xc := (hX.out.below' hbel).cell; have yc := (hY.out.below' hbel).cell))       | (go_at_call 12; first | ((with_reducible refine (HS.out _).mono ?_); rintro e w1 ⟨rfl, hb⟩; have hbel' := Below.call (show Below W0.heap.size W0 _ from (by repeat (first | (with_reducible refine Below.alloc' ?_ _) | (with_reducible refine Below.drew ?_) | (with_reducible refine below_drewN ?_ _) | ((with_reducible refine Below.setCell ?_ ?_ _); rotate_left; (focus (first | exact Nat.le_refl _ | (simp; done) | (simp; omega)))) | (with_reducible assumption) | (with_reducible exact Below.refl _ _)))) hb; clear hb hbel xc yc; have hbel := hbel'; clear hbel'; have xc := (hX.out.below' hbel).cell; have yc := (hY.out.below' hbel).cell) | ((with_reducible refine (sameT (a := sadd x y) (sadd_lt _ _) HA3.out _).mono ?_); rintro e w1 ⟨rfl, hb⟩; have hbel' := Below.call (show Below W0.heap.size W0 _ from (by repeat (first | (with_reducible refine Below.alloc' ?_ _) | (with_reducible refine Below.drew ?_) | (with_reducible refine below_drewN ?_ _) | ((with_reducible refine Below.setCell ?_ ?_ _); rotate_left; (focus (first | exact Nat.le_refl _ | (simp; done) | (simp; omega)))) | (with_reducible assumption) | (with_reducible exact Below.refl _ _)))) hb; clear hb hbel xc yc; have hbel := hbel'; clear hbel'; have xc := (hX.out.below' hbel).cell; have yc := (hY.out.below' hbel).cell) | ((with_reducible refine (sameT (a := smul x y) (smul_lt _ _) HM3.out _).mono ?_); rintro e w1 ⟨rfl, hb⟩; have hbel' := Below.call (show Below W0.heap.size W0 _ from (by repeat (first | (with_reducible refine Below.alloc' ?_ _) | (with_reducible refine Below.drew ?_) | (with_reducible refine below_drewN ?_ _) | ((with_reducible refine Below.setCell ?_ ?_ _); rotate_left; (focus (first | exact Nat.le_refl _ | (simp; done) | (simp; omega)))) | (with_reducible assumption) | (with_reducible exact Below.refl _ _)))) hb; clear hb hbel xc yc; have hbel := hbel'; clear hbel'; have xc := (hX.out.below' hbel).cell; have yc := (hY.out.below' hbel).cell))       | (go_at_call 13; (with_reducible refine (HB.out _).mono ?_); rintro e w1 ⟨rfl, hb⟩; have hbel' := Below.call (show Below W0.heap.size W0 _ from (by repeat (first | (with_reducible refine Below.alloc' ?_ _) | (with_reducible refine Below.drew ?_) | (with_reducible refine below_drewN ?_ _) | ((with_reducible refine Below.setCell ?_ ?_ _); rotate_left; (focus (first | exact Nat.le_refl _ | (simp; done) | (simp; omega)))) | (with_reducible assumption) | (with_reducible exact Below.refl _ _)))) hb; clear hb hbel xc yc; have hbel := hbel'; clear hbel'; have xc := (hX.out.below' hbel).cell; have yc := (hY.out.below' hbel).cell)       | (go_at_call 8; (with_reducible refine (law7awake_any _).mono ?_); rintro e w1 ⟨rfl, hb⟩; have hbel' := Below.call (show Below W0.heap.size W0 _ from (by repeat (first | (with_reducible refine Below.alloc' ?_ _) | (with_reducible refine Below.drew ?_) | (with_reducible refine below_drewN ?_ _) | ((with_reducible refine Below.setCell ?_ ?_ _); rotate_left; (focus (first | exact Nat.le_refl _ | (simp; done) | (simp; omega)))) | (with_reducible assumption) | (with_reducible exact Below.refl _ _)))) hb; clear hb hbel xc yc; have hbel := hbel'; clear hbel'; have xc := (hX.out.below' hbel).cell; have yc := (hY.out.below' hbel).cell))
    go_ret
    exact ⟨rfl, Below.call hb0 hbel⟩
theorem scalarSmalls_any {a b k : Int} (w : World) (wa : (Lit.int .u64 a).wf = true) (wb : (Lit.int .u64 b).wf = true) (_wk : (Lit.int .i64 k).wf = true) :
    Calls Try.prog 6 #[.int .u64 a, .int .u64 b, .int .i64 k] w fun e w' => e = .returned (.bool true) ∧ Below w.heap.size w w' := by
  have ba := bounds_u64 wa; have bb := bounds_u64 wb
  have key : ∀ a : Int, 0 ≤ a → a ≤ 18446744073709551615 → ∃ x : Nat, x < 2147483648 ∧ bits BinOp.and IntKind.u64 a 2147483647 = (x : Int) := by
    intro a h0 h1
    obtain ⟨a', rfl⟩ := Int.eq_ofNat_of_zero_le h0
    refine ⟨a' % 2147483648, Nat.mod_lt _ (by omega), ?_⟩
    rw [show (2147483647 : Int) = ((2147483647 : Nat) : Int) from rfl, u64_and_nat a' 2147483647 (by omega) (by omega), show a' &&& 2147483647 = a' % 2147483648 from Nat.and_two_pow_sub_one_eq_mod a' 31]
  obtain ⟨x, hx, ea⟩ := key a ba.1 ba.2
  obtain ⟨y, hy, eb⟩ := key b bb.1 bb.2
  by_cases h : x = y
  · subst h
    exact small_core x x a b k true hx hy ea eb (by simp) (fun w => by have := same_any x x (by omega) (by omega) w; rwa [decide_eq_true rfl] at this) (by omega) w
  · exact small_core x y a b k false hx hy ea eb (by simp; omega) (fun w => by have := same_any x y (by omega) (by omega) w; rwa [decide_eq_false h] at this) (by omega) w
namespace scalarSmallsDone
theorem own : ownKnob Try.prog.godebug = none := by kernel_rfl
theorem laidOut : laidOutB Try.prog = true := by kernel_rfl
set_option maxRecDepth 100000 in
theorem lifted (os : Os) (started : os.Started) (H : Type) (enc : TypeId × Value → H) :
    ReturnsInHanded {} Try.checked os 6 .any (Rows.scalarSmallsSpec.pre6 enc Try.prog Try.f6 Rows.scalarSmallsRow.domain false) (Rows.scalarSmallsSpec.post enc Try.prog Try.f6 false true false false) := by
  refine returnsInHanded_of_change (C := Try.checked) own started (by kernel_rfl) Try.func6
    (ChangeSpec.witness6 (enc := enc) (C := Try.checked) false ⟨#[], #[.int .u64 0, .int .u64 0, .int .i64 0], []⟩ 8 (by kernel_rfl) (by kernel_rfl) (by kernel_rfl) (by kernel_rfl)) ?_
  intro W base args ds gs before hval0 hW hcnd _
  have hval : ∀ (j : Nat) t v, Try.f6.params[j]? = some t → args[j]? = some v → Value.okWide Try.prog W .any base t v := hval0
  have hW' := hW
  obtain ⟨p, q, hA0, hV, rfl, hfz, hnd⟩ := hW
  have hA : DataW.TrodAll enc Try.prog W 0 (fun _ => true) true Try.f6.params.toList args.toList ds p := hA0
  rw [Try.params6] at hA hval
  obtain ⟨v0, vs0, d0, ds0, p0, q0, hargs, rfl, rfl, h0, r0⟩ := trodAll_cons hA
  obtain ⟨v1, vs1, d1, ds1, p1, q1, rfl, rfl, rfl, h1, r1⟩ := trodAll_cons r0
  obtain ⟨v2, vs2, d2, ds2, p2, q2, rfl, rfl, rfl, h2, r2⟩ := trodAll_cons r1
  obtain ⟨rfl, rfl, rfl⟩ := trodAll_nil r2
  obtain rfl : args = #[v0, v1, v2] := by cases args; simp_all
  obtain ⟨rfl, rfl⟩ := trodVars_none hV
  obtain ⟨a0, rfl, rfl, rfl, w0⟩ := open_int Try.underlying24 (hval 0 24 v0 rfl rfl) h0
  obtain ⟨a1, rfl, rfl, rfl, w1⟩ := open_int Try.underlying24 (hval 1 24 v1 rfl rfl) h1
  obtain ⟨a2, rfl, rfl, rfl, w2⟩ := open_int Try.underlying3 (hval 2 3 v2 rfl rfl) h2
  clear hA0 hval0
  refine (scalarSmalls_any W w0 w1 w2).mono fun e W' ⟨he, bel⟩ => ?_
  subst he
  exact ⟨_, rfl, _, _, _, [], _, [], hW', trodAll_mk1 (shut_bool Try.underlying4 _), (trodAll_cons_mk (shut_int Try.underlying24 w0) (trodAll_cons_mk (shut_int Try.underlying24 w1) (trodAll_cons_mk (shut_int Try.underlying3 w2) trodAll_mk0))), rfl, bel.frame _, fun h => by cases h⟩
theorem over : Rows.scalarSmallsRow.holds Try.pinned (OpenSpec.ofChange Rows.scalarSmallsSpec) :=
  OpenClaim.holds_of_wide 6 Try.f6 rfl rfl rfl rfl rfl rfl rfl ⟨rfl, rfl, rfl, rfl, rfl⟩ rfl rfl rfl rfl rfl (by kernel_rfl) Try.func6 (by kernel_rfl)
    (of_decide_eq_true (by kernel_rfl)) (by unfold Func.isWrapper; first | (rw [if_pos (by decide +kernel)]; kernel_rfl) | (rw [if_neg (by decide +kernel)]; exact ⟨rfl, rfl⟩))
    (fun os started H enc _ => lifted os started H enc)
theorem proved : Rows.ScalarSmallsSaid := over
#print axioms proved
end scalarSmallsDone

end Go.Proofs.Ytbgfokdchpcifaa
