/- Of chapter 7, ScalarLaws: for every input the law returns true, and each argument reads behind the call as it read before. No condition. -/
import Derived.Test.YtbgfokdchpcifaaLsc
import Derived.ProofKit
import Derived.ShutString
import Derived.ChangeOld
namespace Go.Proofs.Ytbgfokdchpcifaa
open Go.ChangeShapes Go.WideShapes Go.ChangeAt Go.RowKit
open Go.ChangeMaps (open_string shut_string)

set_option maxHeartbeats 4000000 in
theorem scalarLaws_any {a b c : Option Addr} {n m k capa capb capc : Nat} {la lb lc : List UInt8} (w : World) (ha : RdB w a n capa la) (hb : RdB w b m capb lb) (hc : RdB w c k capc lc) :
    Calls Try.prog 5 #[.slice a n capa, .slice b m capb, .slice c k capc] w fun e w' => e = .returned (.bool true) ∧ Below w.heap.size w w' := by
  by_cases hs : n ≤ 100 ∧ m ≤ 100 ∧ k ≤ 100
  · obtain ⟨hn, hm, hk⟩ := hs
    have dn : decide ((100 : Int) < (n : Int)) = false := by simp; omega
    have dm : decide ((100 : Int) < (m : Int)) = false := by simp; omega
    have dk : decide ((100 : Int) < (k : Int)) = false := by simp; omega
    have wx := fun w (h : RdB w a n capa la) => wide_any w h
    have wy := fun w (h : RdB w b m capb lb) => wide_any w h
    have wz := fun w (h : RdB w c k capc lc) => wide_any w h
    have hx : leN (first la 64) % Lq < Lq := Nat.mod_lt _ Lq_pos
    have hy : leN (first lb 64) % Lq < Lq := Nat.mod_lt _ Lq_pos
    have hz : leN (first lc 64) % Lq < Lq := Nat.mod_lt _ Lq_pos
    generalize leN (first la 64) % Lq = x at *
    generalize leN (first lb 64) % Lq = y at *
    generalize leN (first lc 64) % Lq = z at *
    have WX := Lib.hid wx; have WY := Lib.hid wy; have WZ := Lib.hid wz; have HX := Lib.hid hx; have HY := Lib.hid hy; have HZ := Lib.hid hz
    clear wx wy wz hx hy hz hn hm hk
    go_enter Try.func5, Try.ntmps5
    go_upto_region 4 with ((go_at_call 9; first | ((with_reducible refine (WX.out _ (ha.below (by exact (by repeat (first | (with_reducible refine Below.alloc' ?_ _) | (with_reducible refine Below.drew ?_) | (with_reducible refine below_drewN ?_ _) | ((with_reducible refine Below.setCell ?_ ?_ _); rotate_left; (focus (first | exact Nat.le_refl _ | (simp; done) | (simp; omega)))) | (with_reducible assumption) | (with_reducible exact Below.refl _ _)))))).mono ?_); rintro e w1 ⟨rfl, h1⟩; have hbel1 : Below w.heap.size w w1 := Below.call (by repeat (first | (with_reducible refine Below.alloc' ?_ _) | (with_reducible refine Below.drew ?_) | (with_reducible refine below_drewN ?_ _) | ((with_reducible refine Below.setCell ?_ ?_ _); rotate_left; (focus (first | exact Nat.le_refl _ | (simp; done) | (simp; omega)))) | (with_reducible assumption) | (with_reducible exact Below.refl _ _))) h1; clear h1)       | ((with_reducible refine (WY.out _ (hb.below (by exact (by repeat (first | (with_reducible refine Below.alloc' ?_ _) | (with_reducible refine Below.drew ?_) | (with_reducible refine below_drewN ?_ _) | ((with_reducible refine Below.setCell ?_ ?_ _); rotate_left; (focus (first | exact Nat.le_refl _ | (simp; done) | (simp; omega)))) | (with_reducible assumption) | (with_reducible exact Below.refl _ _)))))).mono ?_); rintro e w2 ⟨rfl, h2⟩; have hbel2 : Below w.heap.size w w2 := Below.call (by repeat (first | (with_reducible refine Below.alloc' ?_ _) | (with_reducible refine Below.drew ?_) | (with_reducible refine below_drewN ?_ _) | ((with_reducible refine Below.setCell ?_ ?_ _); rotate_left; (focus (first | exact Nat.le_refl _ | (simp; done) | (simp; omega)))) | (with_reducible assumption) | (with_reducible exact Below.refl _ _))) h2; clear h2)       | ((with_reducible refine (WZ.out _ (hc.below (by exact (by repeat (first | (with_reducible refine Below.alloc' ?_ _) | (with_reducible refine Below.drew ?_) | (with_reducible refine below_drewN ?_ _) | ((with_reducible refine Below.setCell ?_ ?_ _); rotate_left; (focus (first | exact Nat.le_refl _ | (simp; done) | (simp; omega)))) | (with_reducible assumption) | (with_reducible exact Below.refl _ _)))))).mono ?_); rintro e w3 ⟨rfl, h3⟩; have hbel3 : Below w.heap.size w w3 := Below.call (by repeat (first | (with_reducible refine Below.alloc' ?_ _) | (with_reducible refine Below.drew ?_) | (with_reducible refine below_drewN ?_ _) | ((with_reducible refine Below.setCell ?_ ?_ _); rotate_left; (focus (first | exact Nat.le_refl _ | (simp; done) | (simp; omega)))) | (with_reducible assumption) | (with_reducible exact Below.refl _ _))) h3; clear h3)))
    refine wp_gen (fun W => Blk W w3.heap.size [.int .u64 (lw x 0 : Nat),.int .u64 (lw x 1 : Nat),.int .u64 (lw x 2 : Nat),.int .u64 (lw x 3 : Nat)] 27 ∧ Blk W (w3.heap.size + 1) [.int .u64 (lw y 0 : Nat),.int .u64 (lw y 1 : Nat),.int .u64 (lw y 2 : Nat),.int .u64 (lw y 3 : Nat)] 27 ∧ Blk W (w3.heap.size + 1 + 1) [.int .u64 (lw z 0 : Nat),.int .u64 (lw z 1 : Nat),.int .u64 (lw z 2 : Nat),.int .u64 (lw z 3 : Nat)] 27 ∧ Below w.heap.size w W) ?_ (fun W0 hW => ?_)
    · exact ⟨((Blk.new' rfl).alloc _).alloc _, (Blk.new' (by simp)).alloc _, Blk.new' (by simp), (by repeat (first | (with_reducible refine Below.alloc' ?_ _) | (with_reducible refine Below.drew ?_) | (with_reducible refine below_drewN ?_ _) | ((with_reducible refine Below.setCell ?_ ?_ _); rotate_left; (focus (first | exact Nat.le_refl _ | (simp; done) | (simp; omega)))) | (with_reducible assumption) | (with_reducible exact Below.refl _ _)))⟩
    obtain ⟨hX, hY, hZ, hb0⟩ := hW
    clear hbel1 hbel2 hbel3 WX WY WZ ha hb hc
    have hst : ∀ W W' : World, ((W.cell? ⟨w3.heap.size, 0, none⟩ = some (.int .u64 (lw x 0 : Nat)) ∧ W.cell? ⟨w3.heap.size, 1, none⟩ = some (.int .u64 (lw x 1 : Nat)) ∧ W.cell? ⟨w3.heap.size, 2, none⟩ = some (.int .u64 (lw x 2 : Nat)) ∧ W.cell? ⟨w3.heap.size, 3, none⟩ = some (.int .u64 (lw x 3 : Nat))) ∧ (W.cell? ⟨w3.heap.size + 1, 0, none⟩ = some (.int .u64 (lw y 0 : Nat)) ∧ W.cell? ⟨w3.heap.size + 1, 1, none⟩ = some (.int .u64 (lw y 1 : Nat)) ∧ W.cell? ⟨w3.heap.size + 1, 2, none⟩ = some (.int .u64 (lw y 2 : Nat)) ∧ W.cell? ⟨w3.heap.size + 1, 3, none⟩ = some (.int .u64 (lw y 3 : Nat))) ∧ (W.cell? ⟨w3.heap.size + 1 + 1, 0, none⟩ = some (.int .u64 (lw z 0 : Nat)) ∧ W.cell? ⟨w3.heap.size + 1 + 1, 1, none⟩ = some (.int .u64 (lw z 1 : Nat)) ∧ W.cell? ⟨w3.heap.size + 1 + 1, 2, none⟩ = some (.int .u64 (lw z 2 : Nat)) ∧ W.cell? ⟨w3.heap.size + 1 + 1, 3, none⟩ = some (.int .u64 (lw z 3 : Nat))) ∧ Below w.heap.size w W) → Below W.heap.size W W' → ((W'.cell? ⟨w3.heap.size, 0, none⟩ = some (.int .u64 (lw x 0 : Nat)) ∧ W'.cell? ⟨w3.heap.size, 1, none⟩ = some (.int .u64 (lw x 1 : Nat)) ∧ W'.cell? ⟨w3.heap.size, 2, none⟩ = some (.int .u64 (lw x 2 : Nat)) ∧ W'.cell? ⟨w3.heap.size, 3, none⟩ = some (.int .u64 (lw x 3 : Nat))) ∧ (W'.cell? ⟨w3.heap.size + 1, 0, none⟩ = some (.int .u64 (lw y 0 : Nat)) ∧ W'.cell? ⟨w3.heap.size + 1, 1, none⟩ = some (.int .u64 (lw y 1 : Nat)) ∧ W'.cell? ⟨w3.heap.size + 1, 2, none⟩ = some (.int .u64 (lw y 2 : Nat)) ∧ W'.cell? ⟨w3.heap.size + 1, 3, none⟩ = some (.int .u64 (lw y 3 : Nat))) ∧ (W'.cell? ⟨w3.heap.size + 1 + 1, 0, none⟩ = some (.int .u64 (lw z 0 : Nat)) ∧ W'.cell? ⟨w3.heap.size + 1 + 1, 1, none⟩ = some (.int .u64 (lw z 1 : Nat)) ∧ W'.cell? ⟨w3.heap.size + 1 + 1, 2, none⟩ = some (.int .u64 (lw z 2 : Nat)) ∧ W'.cell? ⟨w3.heap.size + 1 + 1, 3, none⟩ = some (.int .u64 (lw z 3 : Nat))) ∧ Below w.heap.size w W') := by
      rintro W W' ⟨h1, h2, h3, h4⟩ hb
      exact ⟨keep4 _ _ h1 hb, keep4 _ _ h2 hb, keep4 _ _ h3 hb, Below.call h4 hb⟩
    have hst' := Lib.hid hst; clear hst; have hst := hst'; clear hst'
    have hS0 : (fun W => (W.cell? ⟨w3.heap.size, 0, none⟩ = some (.int .u64 (lw x 0 : Nat)) ∧ W.cell? ⟨w3.heap.size, 1, none⟩ = some (.int .u64 (lw x 1 : Nat)) ∧ W.cell? ⟨w3.heap.size, 2, none⟩ = some (.int .u64 (lw x 2 : Nat)) ∧ W.cell? ⟨w3.heap.size, 3, none⟩ = some (.int .u64 (lw x 3 : Nat))) ∧ (W.cell? ⟨w3.heap.size + 1, 0, none⟩ = some (.int .u64 (lw y 0 : Nat)) ∧ W.cell? ⟨w3.heap.size + 1, 1, none⟩ = some (.int .u64 (lw y 1 : Nat)) ∧ W.cell? ⟨w3.heap.size + 1, 2, none⟩ = some (.int .u64 (lw y 2 : Nat)) ∧ W.cell? ⟨w3.heap.size + 1, 3, none⟩ = some (.int .u64 (lw y 3 : Nat))) ∧ (W.cell? ⟨w3.heap.size + 1 + 1, 0, none⟩ = some (.int .u64 (lw z 0 : Nat)) ∧ W.cell? ⟨w3.heap.size + 1 + 1, 1, none⟩ = some (.int .u64 (lw z 1 : Nat)) ∧ W.cell? ⟨w3.heap.size + 1 + 1, 2, none⟩ = some (.int .u64 (lw z 2 : Nat)) ∧ W.cell? ⟨w3.heap.size + 1 + 1, 3, none⟩ = some (.int .u64 (lw z 3 : Nat))) ∧ Below w.heap.size w W) W0.drew := ⟨⟨hX.cell 0, hX.cell 1, hX.cell 2, hX.cell 3⟩, ⟨hY.cell 0, hY.cell 1, hY.cell 2, hY.cell 3⟩, ⟨hZ.cell 0, hZ.cell 1, hZ.cell 2, hZ.cell 3⟩, hb0.drew⟩
    have X := HX.out; have Y := HY.out; have Z := HZ.out
    have HS := Lib.hid hS0
    clear hX hY hZ hb0 hS0
    go_wp2
    go_region_held3 (fun W => (W.cell? ⟨w3.heap.size, 0, none⟩ = some (.int .u64 (lw x 0 : Nat)) ∧ W.cell? ⟨w3.heap.size, 1, none⟩ = some (.int .u64 (lw x 1 : Nat)) ∧ W.cell? ⟨w3.heap.size, 2, none⟩ = some (.int .u64 (lw x 2 : Nat)) ∧ W.cell? ⟨w3.heap.size, 3, none⟩ = some (.int .u64 (lw x 3 : Nat))) ∧ (W.cell? ⟨w3.heap.size + 1, 0, none⟩ = some (.int .u64 (lw y 0 : Nat)) ∧ W.cell? ⟨w3.heap.size + 1, 1, none⟩ = some (.int .u64 (lw y 1 : Nat)) ∧ W.cell? ⟨w3.heap.size + 1, 2, none⟩ = some (.int .u64 (lw y 2 : Nat)) ∧ W.cell? ⟨w3.heap.size + 1, 3, none⟩ = some (.int .u64 (lw y 3 : Nat))) ∧ (W.cell? ⟨w3.heap.size + 1 + 1, 0, none⟩ = some (.int .u64 (lw z 0 : Nat)) ∧ W.cell? ⟨w3.heap.size + 1 + 1, 1, none⟩ = some (.int .u64 (lw z 1 : Nat)) ∧ W.cell? ⟨w3.heap.size + 1 + 1, 2, none⟩ = some (.int .u64 (lw z 2 : Nat)) ∧ W.cell? ⟨w3.heap.size + 1 + 1, 3, none⟩ = some (.int .u64 (lw z 3 : Nat))) ∧ Below w.heap.size w W) (first | (exact HS.out) | (first | (refine hst.out _ _ ?_ hb; assumption) | (refine hst.out _ _ ?_ (Below.alloc' (Below.refl _ _) _); assumption) | (refine hst.out _ _ ?_ (Below.drew (Below.refl _ _)); assumption))) (first       | (go_at_call 21; (with_reducible refine (mulM (by first | assumption | exact sadd_lt _ _ | exact smul_lt _ _ | exact sneg_lt _ | (decide +kernel)) (by first | assumption | exact sadd_lt _ _ | exact smul_lt _ _ | exact sneg_lt _ | (decide +kernel)) _).mono ?_); rintro e w1 ⟨rfl, hb⟩)       | (go_at_call 19; (with_reducible refine (addM (by first | assumption | exact sadd_lt _ _ | exact smul_lt _ _ | exact sneg_lt _ | (decide +kernel)) (by first | assumption | exact sadd_lt _ _ | exact smul_lt _ _ | exact sneg_lt _ | (decide +kernel)) _).mono ?_); rintro e w1 ⟨rfl, hb⟩)       | (go_at_call 23; (with_reducible refine (negM (by first | assumption | exact sadd_lt _ _ | exact smul_lt _ _ | exact sneg_lt _ | (decide +kernel)) _).mono ?_); rintro e w1 ⟨rfl, hb⟩)       | (go_at_call 9; first | ((with_reducible refine (wide_nil _).mono ?_); rintro e w1 ⟨rfl, hb⟩) | ((with_reducible refine (wide_one (by exact rd_one (by simp))).mono ?_); rintro e w1 ⟨rfl, hb⟩))       | (go_at_call 8; (with_reducible refine (law7awake_any _).mono ?_); rintro e w1 ⟨rfl, hb⟩)       | (go_at_call 12; (with_reducible refine (sameT (by first | assumption | exact sadd_lt _ _ | exact smul_lt _ _ | exact sneg_lt _ | (decide +kernel)) (by with_reducible first | exact pl_mul_add _ _ _ | exact pl_mul_assoc _ _ _ | exact pl_neg _ HX.out | exact pl_mul_one _ HX.out | exact pl_mul_comm _ _) _).mono ?_); rintro e w1 ⟨rfl, hb⟩))
    go_wp2
    go_ret
    have hf : ∀ W : World, ((W.cell? ⟨w3.heap.size, 0, none⟩ = some (.int .u64 (lw x 0 : Nat)) ∧ W.cell? ⟨w3.heap.size, 1, none⟩ = some (.int .u64 (lw x 1 : Nat)) ∧ W.cell? ⟨w3.heap.size, 2, none⟩ = some (.int .u64 (lw x 2 : Nat)) ∧ W.cell? ⟨w3.heap.size, 3, none⟩ = some (.int .u64 (lw x 3 : Nat))) ∧ (W.cell? ⟨w3.heap.size + 1, 0, none⟩ = some (.int .u64 (lw y 0 : Nat)) ∧ W.cell? ⟨w3.heap.size + 1, 1, none⟩ = some (.int .u64 (lw y 1 : Nat)) ∧ W.cell? ⟨w3.heap.size + 1, 2, none⟩ = some (.int .u64 (lw y 2 : Nat)) ∧ W.cell? ⟨w3.heap.size + 1, 3, none⟩ = some (.int .u64 (lw y 3 : Nat))) ∧ (W.cell? ⟨w3.heap.size + 1 + 1, 0, none⟩ = some (.int .u64 (lw z 0 : Nat)) ∧ W.cell? ⟨w3.heap.size + 1 + 1, 1, none⟩ = some (.int .u64 (lw z 1 : Nat)) ∧ W.cell? ⟨w3.heap.size + 1 + 1, 2, none⟩ = some (.int .u64 (lw z 2 : Nat)) ∧ W.cell? ⟨w3.heap.size + 1 + 1, 3, none⟩ = some (.int .u64 (lw z 3 : Nat))) ∧ Below w.heap.size w W) → Below w.heap.size w W := fun W h => h.2.2.2
    exact ⟨rfl, hf _ (by assumption)⟩
  · by_cases hn : n ≤ 100
    · have dn : decide ((100 : Int) < (n : Int)) = false := by simp; omega
      by_cases hm : m ≤ 100
      · have dm : decide ((100 : Int) < (m : Int)) = false := by simp; omega
        have dk : decide ((100 : Int) < (k : Int)) = true := by simp; omega
        clear hs hn hm ha hb hc
        go_enter Try.func5, Try.ntmps5; go_wp2_with (go_at_call 8; (with_reducible refine (law7awake_any _).mono ?_); rintro e w1 ⟨rfl, hb⟩); go_ret; exact ⟨rfl, hb⟩
      · have dm : decide ((100 : Int) < (m : Int)) = true := by simp; omega
        clear hs hn hm ha hb hc
        go_enter Try.func5, Try.ntmps5; go_wp2_with (go_at_call 8; (with_reducible refine (law7awake_any _).mono ?_); rintro e w1 ⟨rfl, hb⟩); go_ret; exact ⟨rfl, hb⟩
    · have dn : decide ((100 : Int) < (n : Int)) = true := by simp; omega
      clear hs hn ha hb hc
      go_enter Try.func5, Try.ntmps5; go_wp2_with (go_at_call 8; (with_reducible refine (law7awake_any _).mono ?_); rintro e w1 ⟨rfl, hb⟩); go_ret; exact ⟨rfl, hb⟩
namespace scalarLawsDone
theorem own : ownKnob Try.prog.godebug = none := by kernel_rfl
theorem laidOut : laidOutB Try.prog = true := by kernel_rfl
set_option maxRecDepth 100000 in
theorem lifted (os : Os) (started : os.Started) (H : Type) (enc : TypeId × Value → H) :
    ReturnsInHanded {} Try.checked os 5 .any (Rows.scalarLawsSpec.pre6 enc Try.prog Try.f5 Rows.scalarLawsRow.domain false) (Rows.scalarLawsSpec.post enc Try.prog Try.f5 false true false false) := by
  refine returnsInHanded_of_change (C := Try.checked) own started (by kernel_rfl) Try.func5
    (ChangeSpec.witness6 (enc := enc) (C := Try.checked) false ⟨#[], #[.slice none 0 0, .slice none 0 0, .slice none 0 0], []⟩ 8 (by kernel_rfl) (by kernel_rfl) (by kernel_rfl) (by kernel_rfl)) ?_
  intro W base args ds gs before hval0 hW hcnd _
  have hval : ∀ (j : Nat) t v, Try.f5.params[j]? = some t → args[j]? = some v → Value.okWide Try.prog W .any base t v := hval0
  have hW' := hW
  obtain ⟨p, q, hA0, hV, rfl, hfz, hnd⟩ := hW
  have hA : DataW.TrodAll enc Try.prog W 0 (fun _ => true) true Try.f5.params.toList args.toList ds p := hA0
  rw [Try.params5] at hA hval
  obtain ⟨v0, vs0, d0, ds0, p0, q0, hargs, rfl, rfl, h0, r0⟩ := trodAll_cons hA
  obtain ⟨v1, vs1, d1, ds1, p1, q1, rfl, rfl, rfl, h1, r1⟩ := trodAll_cons r0
  obtain ⟨v2, vs2, d2, ds2, p2, q2, rfl, rfl, rfl, h2, r2⟩ := trodAll_cons r1
  obtain ⟨rfl, rfl, rfl⟩ := trodAll_nil r2
  obtain rfl : args = #[v0, v1, v2] := by cases args; simp_all
  obtain ⟨rfl, rfl⟩ := trodVars_none hV
  obtain ⟨a0, len0, cap0, rfl⟩ := okWide_slice Try.underlying22 (hval 0 22 v0 rfl rfl)
  have k0 := h0
  have lt0 : ∀ x ∈ p0, x.block < W.heap.size := by obtain ⟨m, hm⟩ := k0; exact DataW.trod_lt m _ _ _ hm
  obtain ⟨l0, w0⟩ : ∃ l, RdB W a0 len0 cap0 l := by
    obtain ⟨fuel, hf⟩ := h0
    rcases open_ints Try.underlying22 Try.underlying5 (by kernel_rfl) hf with ⟨hcs, _⟩ | ⟨x, l, c, zs, hcs, _, hl, hm, hz, _, hcell, hwz⟩
    · simp [Value.cells] at hcs
      obtain ⟨rfl, rfl, rfl⟩ := hcs
      exact ⟨[], RdB.nil _⟩
    · simp [Value.cells] at hcs
      obtain ⟨rfl, rfl, rfl⟩ := hcs
      exact RdB.of_ints (.inr ⟨_, rfl, hl, hm, by simpa using hz, hcell, hwz⟩)
  obtain ⟨a1, len1, cap1, rfl⟩ := okWide_slice Try.underlying22 (hval 1 22 v1 rfl rfl)
  have k1 := h1
  have lt1 : ∀ x ∈ p1, x.block < W.heap.size := by obtain ⟨m, hm⟩ := k1; exact DataW.trod_lt m _ _ _ hm
  obtain ⟨l1, w1⟩ : ∃ l, RdB W a1 len1 cap1 l := by
    obtain ⟨fuel, hf⟩ := h1
    rcases open_ints Try.underlying22 Try.underlying5 (by kernel_rfl) hf with ⟨hcs, _⟩ | ⟨x, l, c, zs, hcs, _, hl, hm, hz, _, hcell, hwz⟩
    · simp [Value.cells] at hcs
      obtain ⟨rfl, rfl, rfl⟩ := hcs
      exact ⟨[], RdB.nil _⟩
    · simp [Value.cells] at hcs
      obtain ⟨rfl, rfl, rfl⟩ := hcs
      exact RdB.of_ints (.inr ⟨_, rfl, hl, hm, by simpa using hz, hcell, hwz⟩)
  obtain ⟨a2, len2, cap2, rfl⟩ := okWide_slice Try.underlying22 (hval 2 22 v2 rfl rfl)
  have k2 := h2
  have lt2 : ∀ x ∈ p2, x.block < W.heap.size := by obtain ⟨m, hm⟩ := k2; exact DataW.trod_lt m _ _ _ hm
  obtain ⟨l2, w2⟩ : ∃ l, RdB W a2 len2 cap2 l := by
    obtain ⟨fuel, hf⟩ := h2
    rcases open_ints Try.underlying22 Try.underlying5 (by kernel_rfl) hf with ⟨hcs, _⟩ | ⟨x, l, c, zs, hcs, _, hl, hm, hz, _, hcell, hwz⟩
    · simp [Value.cells] at hcs
      obtain ⟨rfl, rfl, rfl⟩ := hcs
      exact ⟨[], RdB.nil _⟩
    · simp [Value.cells] at hcs
      obtain ⟨rfl, rfl, rfl⟩ := hcs
      exact RdB.of_ints (.inr ⟨_, rfl, hl, hm, by simpa using hz, hcell, hwz⟩)
  clear hA0 hval0
  refine (scalarLaws_any W w0 w1 w2).mono fun e W' ⟨he, bel⟩ => ?_
  subst he
  exact ⟨_, rfl, _, _, _, [], _, [], hW', trodAll_mk1 (shut_bool Try.underlying4 _), (trodAll_cons_mk (Below.trod laidOut (by kernel_rfl) (of_decide_eq_true (by kernel_rfl)) k0 bel lt0) (trodAll_cons_mk (Below.trod laidOut (by kernel_rfl) (of_decide_eq_true (by kernel_rfl)) k1 bel lt1) (trodAll_cons_mk (Below.trod laidOut (by kernel_rfl) (of_decide_eq_true (by kernel_rfl)) k2 bel lt2) trodAll_mk0))), rfl, bel.frame _, fun h => by cases h⟩
theorem over : Rows.scalarLawsRow.holds Try.pinned (OpenSpec.ofChange Rows.scalarLawsSpec) :=
  OpenClaim.holds_of_wide 5 Try.f5 rfl rfl rfl rfl rfl rfl rfl ⟨rfl, rfl, rfl, rfl, rfl⟩ rfl rfl rfl rfl rfl (by kernel_rfl) Try.func5 (by kernel_rfl)
    (of_decide_eq_true (by kernel_rfl)) (by unfold Func.isWrapper; first | (rw [if_pos (by decide +kernel)]; kernel_rfl) | (rw [if_neg (by decide +kernel)]; exact ⟨rfl, rfl⟩))
    (fun os started H enc _ => lifted os started H enc)
theorem proved : Rows.ScalarLawsSaid := over
#print axioms proved
end scalarLawsDone
end Go.Proofs.Ytbgfokdchpcifaa
