/- Of chapter 7, ScalarParts: for every input the law returns true, and each argument reads behind the call as it read before. No condition. -/
import Derived.Test.YtbgfokdchpcifaaLsc
import Derived.ProofKit
import Derived.ShutString
import Derived.ChangeOld
namespace Go.Proofs.Ytbgfokdchpcifaa
open Go.ChangeShapes Go.WideShapes Go.ChangeAt Go.RowKit
open Go.ChangeMaps (open_string shut_string)

def t33 : List UInt8 := List.replicate 32 0 ++ [1]
theorem zer33 : (zer 33).set 32 (.int .u8 1) = t33.map bV := by
  simp [zer, t33, bV, List.replicate]
theorem pl_parts (l h : List UInt8) (hl : l.length = 32) (hh : h.length = 32) : wN (l ++ h) = sadd (wN l) (smul (wN t33) (wN h)) := by
  unfold wN sadd smul
  rw [leN_first, leN_first, leN_first, leN_first, List.take_of_length_le (by simp; omega), List.take_of_length_le (by omega), List.take_of_length_le (by decide), List.take_of_length_le (by omega), leN_append, hl]
  rw [show leN t33 = 256 ^ 32 from by decide +kernel]
  rw [Nat.add_mod, ← Nat.mul_mod]
set_option maxHeartbeats 1000000 in
theorem scalarParts_any {a b : Option Addr} {n m capa capb : Nat} {la lb : List UInt8} (w : World) (ha : RdB w a n capa la) (hb : RdB w b m capb lb) :
    Calls Try.prog 7 #[.slice a n capa, .slice b m capb] w fun e w' => e = .returned (.bool true) ∧ Below w.heap.size w w' := by
  by_cases hn : n = 32
  · by_cases hm : m = 32
    · subst hn hm
      have HLA := Lib.hid ha.hlen; have HLB := Lib.hid hb.hlen
      obtain ⟨i0, hi, hz0, hz1, hz2⟩ := info_parts infoU8
      have HI := Lib.hid hi; have HZ0 := Lib.hid hz0; have HZ1 := Lib.hid hz1; have HZ2 := Lib.hid hz2
      clear hi hz0 hz1 hz2
      go_enter Try.func7, Try.ntmps7
      go_upto_region 4 with (at_make; go_must (refine wpList_make_full _ rfl _ _ 22 rfl w.heap.size 5 i0 (.int .u8 0) 1 Try.underlying22 HI.out HZ0.out HZ1.out .i64 .i64 _ _ 33 rfl rfl rfl rfl ?c1 (by unfold maxLen; omega) (Nat.le_refl _) ?c2))
      case c1 => rw [HZ2.out]; omega
      case c2 =>
        intro w1 hown hgr
        have hB := Blk.own hown
        have hbel1 : Below w.heap.size w w1 := (Below.refl _ _).grown hgr (Nat.le_refl _) (by simp)
        rw [madeU8 33] at hB
        clear hown hgr
        have cz : w1.cell? ⟨w.heap.size, 32, none⟩ = some (.int .u8 0) := by rw [hB.cell]; rfl
        have cf := hB.frozen 32
        go_upto_region 5 with fail
        refine wp_gen (fun W => Blk W w.heap.size (t33.map bV) 5 ∧ Below w.heap.size w W) ?_ (fun W0 hW => ?_)
        · exact ⟨by rw [← zer33]; exact hB.set 32 _, (by repeat (first | (with_reducible refine Below.alloc' ?_ _) | (with_reducible refine Below.drew ?_) | (with_reducible refine below_drewN ?_ _) | ((with_reducible refine Below.setCell ?_ ?_ _); rotate_left; (focus (first | exact Nat.le_refl _ | (simp; done) | (simp; omega)))) | (with_reducible assumption) | (with_reducible exact Below.refl _ _)))⟩
        obtain ⟨hT, hbel0⟩ := hW
        clear cz cf hB hbel1 w1
        have hT0 := Lib.hid hT
        have ha0 := ha.below hbel0
        have hb0 := hb.below hbel0
        clear hT
        go_upto_region 6 with (first | (at_builtin; go_must (refine app_bytes _ rfl (.tmp 19) (.tmp 20) rfl W0.heap.size _ 0 [] rfl ?d1 _ _ _ la rfl (by exact ha0.below (by repeat (first | (with_reducible refine Below.alloc' ?_ _) | (with_reducible refine Below.drew ?_) | (with_reducible refine below_drewN ?_ _) | ((with_reducible refine Below.setCell ?_ ?_ _); rotate_left; (focus (first | exact Nat.le_refl _ | (simp; done) | (simp; omega)))) | (with_reducible assumption) | (with_reducible exact Below.refl _ _)))) (by omega) ?d2 W0 (by exact (by repeat (first | (with_reducible refine Below.alloc' ?_ _) | (with_reducible refine Below.drew ?_) | (with_reducible refine below_drewN ?_ _) | ((with_reducible refine Below.setCell ?_ ?_ _); rotate_left; (focus (first | exact Nat.le_refl _ | (simp; done) | (simp; omega)))) | (with_reducible assumption) | (with_reducible exact Below.refl _ _)))) ?d3)))
        case d1 => exact ⟨rfl, .inr ⟨W0.heap.size, 0, #[], rfl, Nat.le_refl _, (by show (W0.heap.push _)[W0.heap.size]? = _; simp), by omega, by simp, rfl, rfl⟩⟩
        case d2 => simp
        case d3 =>
          intro v1 w1 hown1 hbel1
          go_upto_region 6 with (first | (at_builtin; go_must (refine app_bytes _ rfl (.tmp 21) (.tmp 22) rfl W0.heap.size v1 32 la rfl hown1 _ _ _ lb rfl (by exact hb0.below hbel1) (by omega) ?d4 W0 hbel1 ?d5)))
          case d4 => exact hbel1.size
          case d5 =>
            intro v2 w2 hown2 hbel2
            clear hown1 hbel1
            obtain ⟨g, cap, r, rfl, hg, hB, hl, hc, hm⟩ := own_rdb (n := 64) (l := la ++ lb) (by rw [List.map_append]; exact hown2) (by omega)
            have hR := RdB.blk r hB hl hc hm
            clear hown2 hB
            have hE := Lib.hid (pl_parts la lb HLA.out HLB.out)
            have wX := Lib.hid (wideM w2 hR)
            go_upto_region 6 with (go_at_call 9; go_must (refine (wX.out).mono ?_; rintro e w3 ⟨rfl, hb3⟩))
            have hbel3 : Below w.heap.size w (w3.alloc (.cells #[.int .u64 (lw (wN (la ++ lb)) 0 : Nat),.int .u64 (lw (wN (la ++ lb)) 1 : Nat),.int .u64 (lw (wN (la ++ lb)) 2 : Nat),.int .u64 (lw (wN (la ++ lb)) 3 : Nat)] 27)) := by
              have h1 : Below W0.heap.size W0 w3 := Below.call hbel2 hb3
              exact Below.alloc' (Below.call hbel0 h1) _
            have hA3 : Below W0.heap.size W0 (w3.alloc (.cells #[.int .u64 (lw (wN (la ++ lb)) 0 : Nat),.int .u64 (lw (wN (la ++ lb)) 1 : Nat),.int .u64 (lw (wN (la ++ lb)) 2 : Nat),.int .u64 (lw (wN (la ++ lb)) 3 : Nat)] 27)) := Below.alloc' (Below.call hbel2 hb3) _
            have hst : ∀ W W' : World, ((W.cell? ⟨w3.heap.size, 0, none⟩ = some (.int .u64 (lw (wN (la ++ lb)) 0 : Nat)) ∧ W.cell? ⟨w3.heap.size, 1, none⟩ = some (.int .u64 (lw (wN (la ++ lb)) 1 : Nat)) ∧ W.cell? ⟨w3.heap.size, 2, none⟩ = some (.int .u64 (lw (wN (la ++ lb)) 2 : Nat)) ∧ W.cell? ⟨w3.heap.size, 3, none⟩ = some (.int .u64 (lw (wN (la ++ lb)) 3 : Nat))) ∧ RdB W a 32 capa la ∧ RdB W b 32 capb lb ∧ RdB W (some ⟨w.heap.size, 0, none⟩) 33 33 t33 ∧ Below w.heap.size w W) → Below W.heap.size W W' → ((W'.cell? ⟨w3.heap.size, 0, none⟩ = some (.int .u64 (lw (wN (la ++ lb)) 0 : Nat)) ∧ W'.cell? ⟨w3.heap.size, 1, none⟩ = some (.int .u64 (lw (wN (la ++ lb)) 1 : Nat)) ∧ W'.cell? ⟨w3.heap.size, 2, none⟩ = some (.int .u64 (lw (wN (la ++ lb)) 2 : Nat)) ∧ W'.cell? ⟨w3.heap.size, 3, none⟩ = some (.int .u64 (lw (wN (la ++ lb)) 3 : Nat))) ∧ RdB W' a 32 capa la ∧ RdB W' b 32 capb lb ∧ RdB W' (some ⟨w.heap.size, 0, none⟩) 33 33 t33 ∧ Below w.heap.size w W') := by
              rintro W W' ⟨h1, h2, h3, h4, h5⟩ hb
              exact ⟨keep4 _ _ h1 hb, h2.below hb, h3.below hb, h4.below hb, Below.call h5 hb⟩
            have hS0 : (fun W => (W.cell? ⟨w3.heap.size, 0, none⟩ = some (.int .u64 (lw (wN (la ++ lb)) 0 : Nat)) ∧ W.cell? ⟨w3.heap.size, 1, none⟩ = some (.int .u64 (lw (wN (la ++ lb)) 1 : Nat)) ∧ W.cell? ⟨w3.heap.size, 2, none⟩ = some (.int .u64 (lw (wN (la ++ lb)) 2 : Nat)) ∧ W.cell? ⟨w3.heap.size, 3, none⟩ = some (.int .u64 (lw (wN (la ++ lb)) 3 : Nat))) ∧ RdB W a 32 capa la ∧ RdB W b 32 capb lb ∧ RdB W (some ⟨w.heap.size, 0, none⟩) 33 33 t33 ∧ Below w.heap.size w W) (w3.alloc (.cells #[.int .u64 (lw (wN (la ++ lb)) 0 : Nat),.int .u64 (lw (wN (la ++ lb)) 1 : Nat),.int .u64 (lw (wN (la ++ lb)) 2 : Nat),.int .u64 (lw (wN (la ++ lb)) 3 : Nat)] 27)).drew :=
              ⟨⟨(Blk.new w3 _ _).cell 0, (Blk.new w3 _ _).cell 1, (Blk.new w3 _ _).cell 2, (Blk.new w3 _ _).cell 3⟩, (ha0.below hA3).drew, (hb0.below hA3).drew, RdB.drew (RdB.below (RdB.blk [] (by simpa using hT0.out) (by decide) (by omega) (by unfold maxLen; omega)) hA3), hbel3.drew⟩
            have hst' := Lib.hid hst; have HS := Lib.hid hS0
            clear hst hS0 hbel0 hbel2 hb3 hbel3 hA3 ha0 hb0 hR hc hm hl hg wX ha hb
            have hst := hst'
            clear hst'
            go_region_held3 (fun W => (W.cell? ⟨w3.heap.size, 0, none⟩ = some (.int .u64 (lw (wN (la ++ lb)) 0 : Nat)) ∧ W.cell? ⟨w3.heap.size, 1, none⟩ = some (.int .u64 (lw (wN (la ++ lb)) 1 : Nat)) ∧ W.cell? ⟨w3.heap.size, 2, none⟩ = some (.int .u64 (lw (wN (la ++ lb)) 2 : Nat)) ∧ W.cell? ⟨w3.heap.size, 3, none⟩ = some (.int .u64 (lw (wN (la ++ lb)) 3 : Nat))) ∧ RdB W a 32 capa la ∧ RdB W b 32 capb lb ∧ RdB W (some ⟨w.heap.size, 0, none⟩) 33 33 t33 ∧ Below w.heap.size w W) (first | (exact HS.out) | (first | (refine hst.out _ _ ?_ hb; assumption) | (refine hst.out _ _ ?_ (Below.alloc' (Below.refl _ _) _); assumption) | (refine hst.out _ _ ?_ (Below.drew (Below.refl _ _)); assumption))) (first               | (go_at_call 21; (with_reducible refine (mulM (wN_lt _) (wN_lt _) _).mono ?_); rintro e w1 ⟨rfl, hb⟩)               | (go_at_call 19; (with_reducible refine (addM (wN_lt _) (smul_lt _ _) _).mono ?_); rintro e w1 ⟨rfl, hb⟩)               | (go_at_call 12; (with_reducible refine (sameT (wN_lt _) hE.out _).mono ?_); rintro e w1 ⟨rfl, hb⟩)               | (go_at_call 10; (with_reducible refine (bytes_any _ _).mono ?_); rintro e w1 ⟨gg, gc, rfl, hgg, hrr, hb⟩)               | (go_at_call 9; refine calls_gen (fun W => (W.cell? ⟨w3.heap.size, 0, none⟩ = some (.int .u64 (lw (wN (la ++ lb)) 0 : Nat)) ∧ W.cell? ⟨w3.heap.size, 1, none⟩ = some (.int .u64 (lw (wN (la ++ lb)) 1 : Nat)) ∧ W.cell? ⟨w3.heap.size, 2, none⟩ = some (.int .u64 (lw (wN (la ++ lb)) 2 : Nat)) ∧ W.cell? ⟨w3.heap.size, 3, none⟩ = some (.int .u64 (lw (wN (la ++ lb)) 3 : Nat))) ∧ RdB W a 32 capa la ∧ RdB W b 32 capb lb ∧ RdB W (some ⟨w.heap.size, 0, none⟩) 33 33 t33 ∧ Below w.heap.size w W) (by assumption) (fun W hW => ?_); first | ((with_reducible refine (wideM W hW.2.1).mono ?_); rintro e w1 ⟨rfl, hb⟩) | ((with_reducible refine (wideM W hW.2.2.1).mono ?_); rintro e w1 ⟨rfl, hb⟩) | ((with_reducible refine (wideM W hW.2.2.2.1).mono ?_); rintro e w1 ⟨rfl, hb⟩))               | (go_at_call 8; (with_reducible refine (law7awake_any _).mono ?_); rintro e w1 ⟨rfl, hb⟩))
            go_wp2
            go_ret
            have hf : ∀ W : World, ((W.cell? ⟨w3.heap.size, 0, none⟩ = some (.int .u64 (lw (wN (la ++ lb)) 0 : Nat)) ∧ W.cell? ⟨w3.heap.size, 1, none⟩ = some (.int .u64 (lw (wN (la ++ lb)) 1 : Nat)) ∧ W.cell? ⟨w3.heap.size, 2, none⟩ = some (.int .u64 (lw (wN (la ++ lb)) 2 : Nat)) ∧ W.cell? ⟨w3.heap.size, 3, none⟩ = some (.int .u64 (lw (wN (la ++ lb)) 3 : Nat))) ∧ RdB W a 32 capa la ∧ RdB W b 32 capb lb ∧ RdB W (some ⟨w.heap.size, 0, none⟩) 33 33 t33 ∧ Below w.heap.size w W) → Below w.heap.size w W := fun W h => h.2.2.2.2
            exact ⟨rfl, hf _ (by assumption)⟩
    · have dn : ((n : Int) != 32) = false := by simp; omega
      have dm : ((m : Int) != 32) = true := by simp; omega
      clear hn hm ha hb
      go_enter Try.func7, Try.ntmps7; go_wp2_with (go_at_call 8; (with_reducible refine (law7awake_any _).mono ?_); rintro e w1 ⟨rfl, hb⟩); go_ret; exact ⟨rfl, hb⟩
  · have dn : ((n : Int) != 32) = true := by simp; omega
    clear hn ha hb
    go_enter Try.func7, Try.ntmps7; go_wp2_with (go_at_call 8; (with_reducible refine (law7awake_any _).mono ?_); rintro e w1 ⟨rfl, hb⟩); go_ret; exact ⟨rfl, hb⟩
namespace scalarPartsDone
theorem own : ownKnob Try.prog.godebug = none := by kernel_rfl
theorem laidOut : laidOutB Try.prog = true := by kernel_rfl
set_option maxRecDepth 100000 in
theorem lifted (os : Os) (started : os.Started) (H : Type) (enc : TypeId × Value → H) :
    ReturnsInHanded {} Try.checked os 7 .any (Rows.scalarPartsSpec.pre6 enc Try.prog Try.f7 Rows.scalarPartsRow.domain false) (Rows.scalarPartsSpec.post enc Try.prog Try.f7 false true false false) := by
  refine returnsInHanded_of_change (C := Try.checked) own started (by kernel_rfl) Try.func7
    (ChangeSpec.witness6 (enc := enc) (C := Try.checked) false ⟨#[], #[.slice none 0 0, .slice none 0 0], []⟩ 8 (by kernel_rfl) (by kernel_rfl) (by kernel_rfl) (by kernel_rfl)) ?_
  intro W base args ds gs before hval0 hW hcnd _
  have hval : ∀ (j : Nat) t v, Try.f7.params[j]? = some t → args[j]? = some v → Value.okWide Try.prog W .any base t v := hval0
  have hW' := hW
  obtain ⟨p, q, hA0, hV, rfl, hfz, hnd⟩ := hW
  have hA : DataW.TrodAll enc Try.prog W 0 (fun _ => true) true Try.f7.params.toList args.toList ds p := hA0
  rw [Try.params7] at hA hval
  obtain ⟨v0, vs0, d0, ds0, p0, q0, hargs, rfl, rfl, h0, r0⟩ := trodAll_cons hA
  obtain ⟨v1, vs1, d1, ds1, p1, q1, rfl, rfl, rfl, h1, r1⟩ := trodAll_cons r0
  obtain ⟨rfl, rfl, rfl⟩ := trodAll_nil r1
  obtain rfl : args = #[v0, v1] := by cases args; simp_all
  obtain ⟨rfl, rfl⟩ := trodVars_none hV
  obtain ⟨a0, len0, cap0, rfl⟩ := okWide_slice Try.underlying22 (hval 0 22 v0 rfl rfl)
  have k0 := h0
  have lt0 : ∀ x ∈ p0, x.block < W.heap.size := by obtain ⟨m, hm⟩ := k0; exact DataW.trod_lt m _ _ _ hm
  obtain ⟨l0, w0⟩ : ∃ l, RdB W a0 len0 cap0 l := by
    obtain ⟨fuel, hf⟩ := h0
    rcases open_ints Try.underlying22 Try.underlying5 (by kernel_rfl) hf with ⟨hcs, _⟩ | ⟨x, l, c, zs, hcs, _, hl, hm, hz, _, hcell, hwz⟩
    · simp [Value.cells] at hcs
      obtain ⟨rfl, rfl, rfl⟩ := hcs
      exact ⟨[], RdB.nil _⟩
    · simp [Value.cells] at hcs
      obtain ⟨rfl, rfl, rfl⟩ := hcs
      exact RdB.of_ints (.inr ⟨_, rfl, hl, hm, by simpa using hz, hcell, hwz⟩)
  obtain ⟨a1, len1, cap1, rfl⟩ := okWide_slice Try.underlying22 (hval 1 22 v1 rfl rfl)
  have k1 := h1
  have lt1 : ∀ x ∈ p1, x.block < W.heap.size := by obtain ⟨m, hm⟩ := k1; exact DataW.trod_lt m _ _ _ hm
  obtain ⟨l1, w1⟩ : ∃ l, RdB W a1 len1 cap1 l := by
    obtain ⟨fuel, hf⟩ := h1
    rcases open_ints Try.underlying22 Try.underlying5 (by kernel_rfl) hf with ⟨hcs, _⟩ | ⟨x, l, c, zs, hcs, _, hl, hm, hz, _, hcell, hwz⟩
    · simp [Value.cells] at hcs
      obtain ⟨rfl, rfl, rfl⟩ := hcs
      exact ⟨[], RdB.nil _⟩
    · simp [Value.cells] at hcs
      obtain ⟨rfl, rfl, rfl⟩ := hcs
      exact RdB.of_ints (.inr ⟨_, rfl, hl, hm, by simpa using hz, hcell, hwz⟩)
  clear hA0 hval0
  refine (scalarParts_any W w0 w1).mono fun e W' ⟨he, bel⟩ => ?_
  subst he
  exact ⟨_, rfl, _, _, _, [], _, [], hW', trodAll_mk1 (shut_bool Try.underlying4 _), (trodAll_cons_mk (Below.trod laidOut (by kernel_rfl) (of_decide_eq_true (by kernel_rfl)) k0 bel lt0) (trodAll_cons_mk (Below.trod laidOut (by kernel_rfl) (of_decide_eq_true (by kernel_rfl)) k1 bel lt1) trodAll_mk0)), rfl, bel.frame _, fun h => by cases h⟩
theorem over : Rows.scalarPartsRow.holds Try.pinned (OpenSpec.ofChange Rows.scalarPartsSpec) :=
  OpenClaim.holds_of_wide 7 Try.f7 rfl rfl rfl rfl rfl rfl rfl ⟨rfl, rfl, rfl, rfl, rfl⟩ rfl rfl rfl rfl rfl (by kernel_rfl) Try.func7 (by kernel_rfl)
    (of_decide_eq_true (by kernel_rfl)) (by unfold Func.isWrapper; first | (rw [if_pos (by decide +kernel)]; kernel_rfl) | (rw [if_neg (by decide +kernel)]; exact ⟨rfl, rfl⟩))
    (fun os started H enc _ => lifted os started H enc)
theorem proved : Rows.ScalarPartsSaid := over
#print axioms proved
end scalarPartsDone

end Go.Proofs.Ytbgfokdchpcifaa
