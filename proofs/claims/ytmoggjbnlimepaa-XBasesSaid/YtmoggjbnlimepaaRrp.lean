/- The document's own field: its numbers as values in memory, and the contracts of its functions over them. -/
import Derived.Test.YtmoggjbnlimepaaRfp
import Derived.Test.YtmoggjbnlimepaaRegw
namespace Go.Proofs.Ytmoggjbnlimepaa
open Go Go.RowKit

def rR : Rp where
  n := 16
  rep := fun x cs => cs = row 16 (fV (d16 x.val))
  pos := by omega
  len := fun _ _ h => by rw [h, row_len]
  one := fun _ _ h v hv => by subst h; exact one_row 16 _ v hv
theorem isR (x : F) : IsFs rR (.agg (row 16 (fV (d16 x.val))).toArray) [x] := ⟨_, rfl, Lims.single (R := rR) rfl⟩
theorem of_isR {v : Value} {x : F} (h : IsFs rR v [x]) : v = .agg (row 16 (fV (d16 x.val))).toArray := by
  obtain ⟨cs, rfl, hc⟩ := h
  have := Lims.of_single hc
  rw [show cs = row 16 (fV (d16 x.val)) from this]
theorem kAdd {v v' : Value} {x y : F} (h : IsFs rR v [x]) (h' : IsFs rR v' [y]) (w : World) :
    Calls Try.prog 32 #[v, v'] w fun e w' => ∃ r, e = .returned r ∧ IsFs rR r [x + y] ∧ Below w.heap.size w w' := by
  rw [of_isR h, of_isR h']
  exact (raddM x y w).mono fun _ _ ⟨he, hb⟩ => ⟨_, he, isR _, hb⟩
theorem kSub {v v' : Value} {x y : F} (h : IsFs rR v [x]) (h' : IsFs rR v' [y]) (w : World) :
    Calls Try.prog 34 #[v, v'] w fun e w' => ∃ r, e = .returned r ∧ IsFs rR r [x - y] ∧ Below w.heap.size w w' := by
  rw [of_isR h, of_isR h']
  exact (rsubM x y w).mono fun _ _ ⟨he, hb⟩ => ⟨_, he, isR _, hb⟩
theorem kMul {v v' : Value} {x y : F} (h : IsFs rR v [x]) (h' : IsFs rR v' [y]) (w : World) :
    Calls Try.prog 33 #[v, v'] w fun e w' => ∃ r, e = .returned r ∧ IsFs rR r [x * y] ∧ Below w.heap.size w w' := by
  rw [of_isR h, of_isR h']
  exact (rmulM x y w).mono fun _ _ ⟨he, hb⟩ => ⟨_, he, isR _, hb⟩
theorem kInv {v : Value} {x : F} (h : IsFs rR v [x]) (w : World) :
    Calls Try.prog 35 #[v] w fun e w' => ∃ r, e = .returned r ∧ IsFs rR r [finv x] ∧ Below w.heap.size w w' := by
  rw [of_isR h]
  exact (rinvM x w).mono fun _ _ ⟨he, hb⟩ => ⟨_, he, isR _, hb⟩
theorem kSmallI {n : Nat} {z : Int} (hz : z = (n : Nat)) (hn : n < 18446744073709551616) (w : World) :
    Calls Try.prog 31 #[.int .u64 z] w fun e w' => ∃ r, e = .returned r ∧ IsFs rR r [fn n] ∧ Below w.heap.size w w' := by
  subst hz
  exact (rsmallM n hn w).mono fun _ _ ⟨he, hb⟩ => ⟨_, he, by have := isR (fn n); exact this, hb⟩
theorem kPow {v : Value} {x r : F} (a b N : Nat) (ha : a < 256) (hb : b < 256) (hN : beF (pwF a b) 32 = N) (hr : fpow x N = r) (h : IsFs rR v [x]) {w : World} {ge : Nat} (hE : Blk w ge (row 32 (uV (pwF a b))) 5) :
    Calls Try.prog 48 #[v, .slice (some ⟨ge, 0, none⟩) 32 32] w fun e w' => ∃ r', e = .returned r' ∧ IsFs rR r' [r] ∧ Below w.heap.size w w' := by
  rw [of_isR h]
  subst hr
  exact (rpowK x a b N ha hb hN w ge hE).mono fun _ _ ⟨he, hb⟩ => ⟨_, he, isR _, hb⟩
theorem tyFe : TyOk rR 54 1 := ⟨⟨_, Try.underlying54, rfl⟩, by kernel_rfl⟩
theorem allocFe (w : World) : (Instr.alloc 54 true (.tuple #[])).run Try.prog w = .ok (.pointer (some ⟨w.heap.size, 0, none⟩)) (w.alloc (.cells #[.int .u64 0, .int .u64 0, .int .u64 0, .int .u64 0, .int .u64 0, .int .u64 0, .int .u64 0, .int .u64 0, .int .u64 0, .int .u64 0, .int .u64 0, .int .u64 0, .int .u64 0, .int .u64 0, .int .u64 0, .int .u64 0] 54)) := by kernel_rfl
theorem buildFe0 (w : World) : ∃ r, (Instr.build 54 #[]).run Try.prog w = .ok r w ∧ IsFs rR r [0] := by
  have h := isR 0
  rw [show row 16 (fV (d16 (0 : F).val)) = [.int .u64 0, .int .u64 0, .int .u64 0, .int .u64 0, .int .u64 0, .int .u64 0, .int .u64 0, .int .u64 0, .int .u64 0, .int .u64 0, .int .u64 0, .int .u64 0, .int .u64 0, .int .u64 0, .int .u64 0, .int .u64 0] from by kernel_rfl] at h
  exact ⟨_, by kernel_rfl, h⟩
theorem HasFs.cell0 {w : World} {g : Nat} {x : F} (h : HasFs rR w g 0 [x]) : w.cell? ⟨g, 0, none⟩ = some (.int .u64 (d16 x.val 0 : Nat)) := by
  obtain ⟨cs, hc, hr⟩ := h
  have e : cs = row 16 (fV (d16 x.val)) := Lims.of_single hc
  subst e
  exact hr 0 _ (row_get (by omega))
end Go.Proofs.Ytmoggjbnlimepaa
