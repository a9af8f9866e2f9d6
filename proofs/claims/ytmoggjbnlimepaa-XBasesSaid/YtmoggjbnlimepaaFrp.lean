/- Package field's numbers as values in memory: their layout, and the contracts of its functions over it. -/
import Derived.Test.YtmoggjbnlimepaaLfe
import Derived.Test.YtmoggjbnlimepaaRegw
namespace Go.Proofs.Ytmoggjbnlimepaa
open Go Go.RowKit

def repE (x : F) (cs : List Value) : Prop := ∃ h, FF h x ∧ cs = [.int .u64 (h 0 : Nat), .int .u64 (h 1 : Nat), .int .u64 (h 2 : Nat), .int .u64 (h 3 : Nat), .int .u64 (h 4 : Nat)]
def rE : Rp where
  n := 5
  rep := repE
  pos := by omega
  len := fun _ _ h => by obtain ⟨h, _, rfl⟩ := h; rfl
  one := fun _ _ h v hv => by
    obtain ⟨h, _, rfl⟩ := h
    simp at hv
    rcases hv with rfl | rfl | rfl | rfl | rfl <;> rfl
theorem isE {f : Nat → Nat} {x : F} (h : FF f x) : IsFs rE (.agg #[.int .u64 (f 0 : Nat), .int .u64 (f 1 : Nat), .int .u64 (f 2 : Nat), .int .u64 (f 3 : Nat), .int .u64 (f 4 : Nat)]) [x] := ⟨_, rfl, Lims.single (R := rE) ⟨f, h, rfl⟩⟩
theorem of_isE {v : Value} {x : F} (h : IsFs rE v [x]) : ∃ f, v = .agg #[.int .u64 (f 0 : Nat), .int .u64 (f 1 : Nat), .int .u64 (f 2 : Nat), .int .u64 (f 3 : Nat), .int .u64 (f 4 : Nat)] ∧ FF f x := by
  obtain ⟨cs, rfl, hc⟩ := h
  obtain ⟨f, hf, rfl⟩ := Lims.of_single hc
  exact ⟨f, rfl, hf⟩
theorem cAdd {v v' : Value} {x y : F} (h : IsFs rE v [x]) (h' : IsFs rE v' [y]) (w : World) :
    Calls Try.prog 38 #[v, v'] w fun e w' => ∃ r, e = .returned r ∧ IsFs rE r [x + y] ∧ Below w.heap.size w w' := by
  obtain ⟨f, rfl, hf⟩ := of_isE h; obtain ⟨g, rfl, hg⟩ := of_isE h'
  exact (faddM hf hg w).mono fun e w' ⟨k, he, hk, hb⟩ => ⟨_, he, isE hk, hb⟩
theorem cSub {v v' : Value} {x y : F} (h : IsFs rE v [x]) (h' : IsFs rE v' [y]) (w : World) :
    Calls Try.prog 39 #[v, v'] w fun e w' => ∃ r, e = .returned r ∧ IsFs rE r [x - y] ∧ Below w.heap.size w w' := by
  obtain ⟨f, rfl, hf⟩ := of_isE h; obtain ⟨g, rfl, hg⟩ := of_isE h'
  exact (fsubM hf hg w).mono fun e w' ⟨k, he, hk, hb⟩ => ⟨_, he, isE hk, hb⟩
theorem cMul {v v' : Value} {x y : F} (h : IsFs rE v [x]) (h' : IsFs rE v' [y]) (w : World) :
    Calls Try.prog 25 #[v, v'] w fun e w' => ∃ r, e = .returned r ∧ IsFs rE r [x * y] ∧ Below w.heap.size w w' := by
  obtain ⟨f, rfl, hf⟩ := of_isE h; obtain ⟨g, rfl, hg⟩ := of_isE h'
  exact (fmulM hf hg w).mono fun e w' ⟨k, he, hk, hb⟩ => ⟨_, he, isE hk, hb⟩
theorem cInv {v : Value} {x : F} (h : IsFs rE v [x]) (w : World) :
    Calls Try.prog 26 #[v] w fun e w' => ∃ r, e = .returned r ∧ IsFs rE r [finv x] ∧ Below w.heap.size w w' := by
  obtain ⟨f, rfl, hf⟩ := of_isE h
  exact (finvM hf w).mono fun e w' ⟨k, he, hk, hb⟩ => ⟨_, he, isE hk, hb⟩
theorem cSmall {n : Nat} (hn : n < 18446744073709551616) (w : World) :
    Calls Try.prog 22 #[.int .u64 n] w fun e w' => ∃ r, e = .returned r ∧ IsFs rE r [fn n] ∧ Below w.heap.size w w' :=
  (fsmallM hn w).mono fun _ _ ⟨_, he, hk, hb⟩ => ⟨_, he, isE hk, hb⟩
theorem cSmallI {n : Nat} {z : Int} (hz : z = (n : Nat)) (hn : n < 18446744073709551616) (w : World) :
    Calls Try.prog 22 #[.int .u64 z] w fun e w' => ∃ r, e = .returned r ∧ IsFs rE r [fn n] ∧ Below w.heap.size w w' := by subst hz; exact cSmall hn w
theorem buildE0 (w : World) : ∃ r, (Instr.build 41 #[]).run Try.prog w = .ok r w ∧ IsFs rE r [0] :=
  ⟨_, by kernel_rfl, isE (f := fun _ => 0) FF.zero⟩
theorem cOf {a : Option Addr} {n cap : Nat} {l : List UInt8} {w : World} (h : RdB w a n cap l) :
    Calls Try.prog 21 #[.slice a n cap] w fun e w' => ∃ r, e = .returned r ∧ IsFs rE r [feF l] ∧ Below w.heap.size w w' :=
  (fofM w h).mono fun _ _ ⟨_, he, hk, hb⟩ => ⟨_, he, isE hk, hb⟩
theorem cBytes {v : Value} {x : F} (h : IsFs rE v [x]) (w : World) :
    Calls Try.prog 27 #[v] w fun e w' => ∃ g n cap r, e = .returned (.slice (some ⟨g, 0, none⟩) n cap) ∧ w.heap.size ≤ g ∧ Blk w' g ((leB 32 x.val).map bV ++ r) 5 ∧ (leB 32 x.val).length = n ∧ n ≤ cap ∧ cap ≤ maxLen ∧ Below w.heap.size w w' := by
  obtain ⟨f, rfl, hf⟩ := of_isE h
  exact (fbytesM hf w).mono fun _ _ ⟨g, cap, r, he, hg, hB, h1, h2, hb⟩ => ⟨g, 32, cap, r, he, hg, hB, leB_len _ _, h1, h2, hb⟩
theorem tyE : TyOk rE 41 1 := ⟨⟨_, Try.underlying41, rfl⟩, by kernel_rfl⟩
theorem allocE (w : World) : (Instr.alloc 41 true (.tuple #[])).run Try.prog w = .ok (.pointer (some ⟨w.heap.size, 0, none⟩)) (w.alloc (.cells #[.int .u64 0, .int .u64 0, .int .u64 0, .int .u64 0, .int .u64 0] 41)) := by kernel_rfl
end Go.Proofs.Ytmoggjbnlimepaa
