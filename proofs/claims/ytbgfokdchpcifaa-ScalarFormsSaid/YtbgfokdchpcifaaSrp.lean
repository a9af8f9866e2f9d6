/- Numbers mod L as values in memory, the program's and the document's, and the contracts of their functions over them. -/
import Derived.Test.YtbgfokdchpcifaaScd
import Derived.Test.YtbgfokdchpcifaaRegs
import Derived.Test.YtbgfokdchpcifaaSrz
namespace Go.Proofs.Ytbgfokdchpcifaa
open Go Go.RowKit

theorem Lq_Pq : Lq < Pq := by decide +kernel
theorem Lq_0 : 0 < Lq := by unfold Lq; omega
theorem fn_sc {n : Nat} (h : n < Lq) : (fn n).val = n := Nat.mod_eq_of_lt (Nat.lt_trans h Lq_Pq)
theorem sc256 {n : Nat} (h : n < Lq) : n < 2 ^ 256 := Nat.lt_trans h (by decide +kernel)
/-- The program's numbers: four words. -/
def rS : Rp where
  n := 4
  rep := fun x cs => x.val < Lq ∧ cs = [.int .u64 (lw x.val 0 : Nat), .int .u64 (lw x.val 1 : Nat), .int .u64 (lw x.val 2 : Nat), .int .u64 (lw x.val 3 : Nat)]
  pos := by omega
  len := fun _ _ h => by obtain ⟨_, rfl⟩ := h; rfl
  one := fun _ _ h v hv => by
    obtain ⟨_, rfl⟩ := h
    simp at hv
    rcases hv with rfl | rfl | rfl | rfl <;> rfl
theorem isS {n : Nat} (h : n < Lq) : IsFs rS (.agg #[.int .u64 (lw n 0 : Nat), .int .u64 (lw n 1 : Nat), .int .u64 (lw n 2 : Nat), .int .u64 (lw n 3 : Nat)]) [fn n] := ⟨_, rfl, Lims.single (R := rS) ⟨by rw [fn_sc h]; exact h, by rw [fn_sc h]⟩⟩
theorem of_isS {v : Value} {x : F} (h : IsFs rS v [x]) : x.val < Lq ∧ v = .agg #[.int .u64 (lw x.val 0 : Nat), .int .u64 (lw x.val 1 : Nat), .int .u64 (lw x.val 2 : Nat), .int .u64 (lw x.val 3 : Nat)] := by
  obtain ⟨cs, rfl, hc⟩ := h
  obtain ⟨h1, rfl⟩ := Lims.of_single hc
  exact ⟨h1, rfl⟩
/-- What bytes are read as, sums, products, opposites. -/
def wS (l : List UInt8) : F := fn (leN (first l 64) % Lq)
def dA (x y : F) : F := fn ((x.val + y.val) % Lq)
def dM (x y : F) : F := fn (x.val * y.val % Lq)
def dN (x : F) : F := fn ((Lq - x.val) % Lq)
/-- Read strictly. -/
def ssV (l : List UInt8) : F := if scOk l then fn (leN l) else 0
def ssC (l : List UInt8) : Int := if scOk l then 0 else 2
def bitI (x : F) (k : Int) : Int := if 0 ≤ k ∧ k ≤ 255 then ((x.val / 2 ^ k.toNat % 2 : Nat) : Int) else 0
theorem cWide {a : Option Addr} {n cap : Nat} {l : List UInt8} {x : F} {w : World} (hx : wS l = x) (h : RdB w a n cap l) :
    Calls Try.prog 9 #[.slice a n cap] w fun e w' => ∃ r, e = .returned r ∧ IsFs rS r [x] ∧ Below w.heap.size w w' := by
  subst hx
  exact (wide_any w h).mono fun _ _ ⟨he, hb⟩ => ⟨_, he, isS (Nat.mod_lt _ Lq_0), hb⟩
theorem cScBytes {v : Value} {x : F} (h : IsFs rS v [x]) (w : World) :
    Calls Try.prog 10 #[v] w fun e w' => ∃ g n cap r, e = .returned (.slice (some ⟨g, 0, none⟩) n cap) ∧ w.heap.size ≤ g ∧ Blk w' g ((leB 32 x.val).map bV ++ r) 5 ∧ (leB 32 x.val).length = n ∧ n ≤ cap ∧ cap ≤ maxLen ∧ Below w.heap.size w w' := by
  obtain ⟨_, rfl⟩ := of_isS h
  exact (bytes_blk x.val w).mono fun _ _ ⟨g, cap, r, he, hg, hB, h1, h2, hb⟩ => ⟨g, 32, cap, r, he, hg, hB, leB_len _ _, h1, h2, hb⟩
theorem cScAdd {v v' : Value} {x y : F} (h : IsFs rS v [x]) (h' : IsFs rS v' [y]) (w : World) :
    Calls Try.prog 19 #[v, v'] w fun e w' => ∃ r, e = .returned r ∧ IsFs rS r [dA x y] ∧ Below w.heap.size w w' := by
  obtain ⟨hx, rfl⟩ := of_isS h; obtain ⟨hy, rfl⟩ := of_isS h'
  have hc := add_any x.val y.val (by unfold Lq at hx hy; omega) w
  rw [once_mod (by omega)] at hc
  exact hc.mono fun _ _ ⟨he, hb⟩ => ⟨_, he, isS (Nat.mod_lt _ Lq_0), hb⟩
theorem cScMul {v v' : Value} {x y : F} (h : IsFs rS v [x]) (h' : IsFs rS v' [y]) (w : World) :
    Calls Try.prog 21 #[v, v'] w fun e w' => ∃ r, e = .returned r ∧ IsFs rS r [dM x y] ∧ Below w.heap.size w w' := by
  obtain ⟨hx, rfl⟩ := of_isS h; obtain ⟨hy, rfl⟩ := of_isS h'
  exact (scmul_any x.val y.val (sc256 hx) (sc256 hy) w).mono fun _ _ ⟨he, hb⟩ => ⟨_, he, isS (Nat.mod_lt _ Lq_0), hb⟩
theorem cScNeg {v : Value} {x : F} (h : IsFs rS v [x]) (w : World) :
    Calls Try.prog 23 #[v] w fun e w' => ∃ r, e = .returned r ∧ IsFs rS r [dN x] ∧ Below w.heap.size w w' := by
  obtain ⟨hx, rfl⟩ := of_isS h
  have hc := neg_any x.val (by omega) w
  rw [once_mod (by have := Lq_0; omega)] at hc
  exact hc.mono fun _ _ ⟨he, hb⟩ => ⟨_, he, isS (Nat.mod_lt _ Lq_0), hb⟩
theorem val_dec {x y : F} {b : Bool} (hq : decide (x = y) = b) : decide (x.val = y.val) = b := by
  rw [← hq, decide_eq_decide]
  exact ⟨F.ext', fun h => by rw [h]⟩
theorem cScSame {v v' : Value} {x y : F} {b : Bool} (hq : decide (x = y) = b) (h : IsFs rS v [x]) (h' : IsFs rS v' [y]) (w : World) :
    Calls Try.prog 12 #[v, v'] w fun e w' => e = .returned (.bool b) ∧ Below w.heap.size w w' := by
  obtain ⟨hx, rfl⟩ := of_isS h; obtain ⟨hy, rfl⟩ := of_isS h'
  have hc := same_any x.val y.val (sc256 hx) (sc256 hy) w
  rwa [val_dec hq] at hc
theorem cScBit {v : Value} {x : F} {k z : Int} (hz : bitI x k = z) (h : IsFs rS v [x]) (w : World) :
    Calls Try.prog 13 #[v, .int .i64 k] w fun e w' => e = .returned (.int .i64 z) ∧ Below w.heap.size w w' := by
  obtain ⟨hx, rfl⟩ := of_isS h
  subst hz
  by_cases hk : 0 ≤ k ∧ k ≤ 255
  · obtain ⟨j, rfl⟩ : ∃ j : Nat, k = j := ⟨k.toNat, by omega⟩
    rw [bitI, if_pos hk]
    exact scbit_any x.val j (by omega) w
  · rw [bitI, if_neg hk]
    exact scbit_no x.val hk w
theorem cScStrict {a : Option Addr} {n cap : Nat} {l : List UInt8} {x : F} {c : Int} {w : World} (hx : ssV l = x) (hc : ssC l = c) (h : RdB w a n cap l) :
    Calls Try.prog 11 #[.slice a n cap] w fun e w' => ∃ r, e = .returned (.tuple #[r, .int .i64 c]) ∧ IsFs rS r [x] ∧ Below w.heap.size w w' := by
  subst hx hc
  by_cases hok : scOk l = true
  · rw [ssV, ssC, if_pos hok, if_pos hok]
    refine (strict_yes w h hok).mono fun _ _ ⟨he, hb⟩ => ⟨_, he, isS ?_, hb⟩
    simp only [scOk, Bool.and_eq_true, decide_eq_true_eq] at hok
    exact hok.2
  · rw [ssV, ssC, if_neg hok, if_neg hok]
    exact (strict_no w h (by simpa using hok)).mono fun _ _ ⟨he, hb⟩ => ⟨_, he, isS Lq_0, hb⟩
theorem tyS : TyOk rS 27 1 := ⟨⟨_, Try.underlying27, rfl⟩, by kernel_rfl⟩
theorem allocS (w : World) : (Instr.alloc 27 true (.tuple #[])).run Try.prog w = .ok (.pointer (some ⟨w.heap.size, 0, none⟩)) (w.alloc (.cells #[.int .u64 0, .int .u64 0, .int .u64 0, .int .u64 0] 27)) := by kernel_rfl
/-- The document's: 32 bytes, the greatest first. -/
def rC : Rp where
  n := 32
  rep := fun x cs => x.val < Lq ∧ cs = row 32 (uV (bR 32 x.val))
  pos := by omega
  len := fun _ _ h => by obtain ⟨_, rfl⟩ := h; rw [row_len]
  one := fun _ _ h v hv => by obtain ⟨_, rfl⟩ := h; exact one_rowB 32 _ v hv
theorem isC {n : Nat} (h : n < Lq) : IsFs rC (.agg (row 32 (uV (bR 32 n))).toArray) [fn n] := ⟨_, rfl, Lims.single (R := rC) ⟨by rw [fn_sc h]; exact h, by rw [fn_sc h]⟩⟩
theorem of_isC {v : Value} {x : F} (h : IsFs rC v [x]) : x.val < Lq ∧ v = .agg (row 32 (uV (bR 32 x.val))).toArray := by
  obtain ⟨cs, rfl, hc⟩ := h
  obtain ⟨h1, rfl⟩ := Lims.of_single hc
  exact ⟨h1, rfl⟩
theorem sc32 {n : Nat} (h : n < Lq) : n < 256 ^ 32 := Nat.lt_trans h (by decide +kernel)
theorem kWide {a : Option Addr} {n cap : Nat} {l : List UInt8} {x : F} {w : World} (hx : wS l = x) (h : RdB w a n cap l) :
    Calls Try.prog 16 #[.slice a n cap] w fun e w' => ∃ r, e = .returned r ∧ IsFs rC r [x] ∧ Below w.heap.size w w' := by
  subst hx
  exact (rwide_any w h).mono fun _ _ ⟨he, hb⟩ => ⟨_, he, isC (Nat.mod_lt _ Lq_0), hb⟩
theorem kScBytes {v : Value} {x : F} (h : IsFs rC v [x]) (w : World) : Calls Try.prog 35 #[v] w (NewBy w (leB 32 x.val)) := by
  obtain ⟨_, rfl⟩ := of_isC h
  exact rscbytes_any x.val w
theorem kScAdd {v v' : Value} {x y : F} (h : IsFs rC v [x]) (h' : IsFs rC v' [y]) (w : World) :
    Calls Try.prog 20 #[v, v'] w fun e w' => ∃ r, e = .returned r ∧ IsFs rC r [dA x y] ∧ Below w.heap.size w w' := by
  obtain ⟨hx, rfl⟩ := of_isC h; obtain ⟨hy, rfl⟩ := of_isC h'
  exact (rscadd_any (sc32 hx) (sc32 hy) rfl w).mono fun _ _ ⟨he, hb⟩ => ⟨_, he, isC (Nat.mod_lt _ Lq_0), hb⟩
theorem kScMul {v v' : Value} {x y : F} (h : IsFs rC v [x]) (h' : IsFs rC v' [y]) (w : World) :
    Calls Try.prog 22 #[v, v'] w fun e w' => ∃ r, e = .returned r ∧ IsFs rC r [dM x y] ∧ Below w.heap.size w w' := by
  obtain ⟨hx, rfl⟩ := of_isC h; obtain ⟨hy, rfl⟩ := of_isC h'
  exact (rscmul_any (sc32 hx) (sc32 hy) rfl w).mono fun _ _ ⟨he, hb⟩ => ⟨_, he, isC (Nat.mod_lt _ Lq_0), hb⟩
theorem neg_turn {x : Nat} (hx : x < Lq) : (Lq - 1) * x % Lq = (Lq - x) % Lq := by
  rcases Nat.eq_zero_or_pos x with rfl | h
  · rw [Nat.mul_zero, Nat.sub_zero, Nat.mod_self, Nat.zero_mod]
  · have e : (Lq - 1) * x = (Lq - x) + Lq * (x - 1) := by
      obtain ⟨y, rfl⟩ : ∃ y, x = y + 1 := ⟨x - 1, by omega⟩
      rw [Nat.sub_mul, Nat.mul_add, Nat.add_sub_cancel]
      have : y + 1 ≤ Lq := by omega
      omega
    rw [e, Nat.add_mul_mod_self_left]
theorem kScNeg {v : Value} {x : F} (h : IsFs rC v [x]) (w : World) :
    Calls Try.prog 24 #[v] w fun e w' => ∃ r, e = .returned r ∧ IsFs rC r [dN x] ∧ Below w.heap.size w w' := by
  obtain ⟨hx, rfl⟩ := of_isC h
  exact (rscneg_any (sc32 hx) (neg_turn hx) w).mono fun _ _ ⟨he, hb⟩ => ⟨_, he, isC (Nat.mod_lt _ Lq_0), hb⟩
theorem kScBit {v : Value} {x : F} {k z : Int} (hz : bitI x k = z) (h : IsFs rC v [x]) (w : World) :
    Calls Try.prog 25 #[v, .int .i64 k] w fun e w' => e = .returned (.int .i64 z) ∧ Below w.heap.size w w' := by
  obtain ⟨hx, rfl⟩ := of_isC h
  subst hz
  by_cases hk : 0 ≤ k ∧ k ≤ 255
  · obtain ⟨j, rfl⟩ : ∃ j : Nat, k = j := ⟨k.toNat, by omega⟩
    rw [bitI, if_pos hk]
    exact rscbit_yes x.val j (by omega) w
  · rw [bitI, if_neg hk]
    exact rscbit_no x.val hk w
theorem tySc : TyOk rC 40 1 := ⟨⟨_, Try.underlying40, rfl⟩, by kernel_rfl⟩
theorem allocSc (w : World) : (Instr.alloc 40 true (.tuple #[])).run Try.prog w = .ok (.pointer (some ⟨w.heap.size, 0, none⟩)) (w.alloc (.cells #[.int .u8 0, .int .u8 0, .int .u8 0, .int .u8 0, .int .u8 0, .int .u8 0, .int .u8 0, .int .u8 0, .int .u8 0, .int .u8 0, .int .u8 0, .int .u8 0, .int .u8 0, .int .u8 0, .int .u8 0, .int .u8 0, .int .u8 0, .int .u8 0, .int .u8 0, .int .u8 0, .int .u8 0, .int .u8 0, .int .u8 0, .int .u8 0, .int .u8 0, .int .u8 0, .int .u8 0, .int .u8 0, .int .u8 0, .int .u8 0, .int .u8 0, .int .u8 0] 40)) := by kernel_rfl
theorem buildSc0 (w : World) : ∃ r, (Instr.build 40 #[]).run Try.prog w = .ok r w ∧ IsFs rC r [0] := by
  have h := isC Lq_0
  rw [show row 32 (uV (bR 32 0)) = [.int .u8 0, .int .u8 0, .int .u8 0, .int .u8 0, .int .u8 0, .int .u8 0, .int .u8 0, .int .u8 0, .int .u8 0, .int .u8 0, .int .u8 0, .int .u8 0, .int .u8 0, .int .u8 0, .int .u8 0, .int .u8 0, .int .u8 0, .int .u8 0, .int .u8 0, .int .u8 0, .int .u8 0, .int .u8 0, .int .u8 0, .int .u8 0, .int .u8 0, .int .u8 0, .int .u8 0, .int .u8 0, .int .u8 0, .int .u8 0, .int .u8 0, .int .u8 0] from by kernel_rfl] at h
  exact ⟨_, by kernel_rfl, h⟩
theorem row_intsB (n : Nat) (f : Nat → Nat) : row n (uV f) = ((List.range n).map fun i => ((f i : Nat) : Int)).map (Value.int .u8) := by
  simp [row, uV, Function.comp_def]
theorem size_u8 (w : World) : (sizeOf 5).run Try.prog w = .ok 1 w := by
  have h := infoSz
  cases hq : Try.prog.info? 5 with
  | none => simp [hq] at h
  | some i =>
    simp [hq] at h
    simp [sizeOf, typeInfo, hq, h]
theorem bR_inj {x y : Nat} (hx : x < 256 ^ 32) (hy : y < 256 ^ 32) (h : ∀ i, i < 32 → bR 32 x i = bR 32 y i) : x = y := by
  rw [← hv_full hx, ← hv_full hy]
  exact hv_congr 32 h
theorem eq_rowB (x y : Nat) (hx : x < 256 ^ 32) (hy : y < 256 ^ 32) (w : World) : (Op.equal 40 (.agg (row 32 (uV (bR 32 x))).toArray) (.agg (row 32 (uV (bR 32 y))).toArray)).run Try.prog w = .ok (decide (x = y)) w := by
  rw [row_intsB, row_intsB]
  have h := eqArr (P := Try.prog) w 9998 40 5 32 .u8 Try.underlying40 Try.underlying5 size_u8 ((List.range 32).map fun i => ((bR 32 x i : Nat) : Int)) ((List.range 32).map fun i => ((bR 32 y i : Nat) : Int)) (by simp) (by simp)
  refine Eq.trans h ?_
  congr 1
  rw [Bool.eq_iff_iff, beq_iff_eq, decide_eq_true_iff]
  constructor
  · intro e
    apply bR_inj hx hy
    intro i hi
    have := congrArg (fun l => l[i]?) e
    simp [hi] at this
    omega
  · rintro rfl; rfl
theorem run_eqlC {ev : Operand → Value} {o : Oper} {W : World} {x y : F} {a b : Operand} {t : TypeId} (ho : o.op = .binOp .eql 40 a b t) (ha : IsFs rC (ev a) [x]) (hb : IsFs rC (ev b) [y]) :
    (execOp ev o).run Try.prog W = .ok (.value (.bool (decide (x = y)))) W := by
  have hg : Try.prog.eqGuardType Try.prog.depth 40 = false := by kernel_rfl
  obtain ⟨hx, h1⟩ := of_isC ha
  obtain ⟨hy, h2⟩ := of_isC hb
  unfold execOp
  simp only [ho, h1, h2]
  simp [eqGuard, binOp, hg, eq_rowB _ _ (sc32 hx) (sc32 hy)]
  exact ⟨F.ext', fun h => by rw [h]⟩
theorem leB_inj_S {x y : F} (hx : x.val < Lq) (hy : y.val < Lq) (h : leB 32 x.val = leB 32 y.val) : x = y := F.ext' (leB_inj (sc256 hx) (sc256 hy) h)
end Go.Proofs.Ytbgfokdchpcifaa
