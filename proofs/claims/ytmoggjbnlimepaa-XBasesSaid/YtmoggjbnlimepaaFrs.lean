/- Package field's numbers as values in memory, second part: the same, odd, one of two, reading strictly, roots. -/
import Derived.Test.YtmoggjbnlimepaaFrp
import Derived.Test.YtmoggjbnlimepaaRegs
namespace Go.Proofs.Ytmoggjbnlimepaa
open Go Go.RowKit

/-- What reading strictly makes of bytes, and what it tells. -/
def stV (l : List UInt8) : F := if feOk l then feF l else 0
def stC (l : List UInt8) : Int := if feOk l then 0 else 2
theorem cOf' {a : Option Addr} {n cap : Nat} {l : List UInt8} {x : F} {w : World} (hx : feF l = x) (h : RdB w a n cap l) :
    Calls Try.prog 21 #[.slice a n cap] w fun e w' => ∃ r, e = .returned r ∧ IsFs rE r [x] ∧ Below w.heap.size w w' := by subst hx; exact cOf h
theorem leB_inj_F {x y : F} (h : leB 32 x.val = leB 32 y.val) : x = y := by rw [← feF_leB x, h, feF_leB]
theorem leB_dec {x y : F} {b : Bool} (hq : decide (x = y) = b) : decide (leB 32 x.val = leB 32 y.val) = b := by
  rw [← hq, decide_eq_decide]
  exact ⟨leB_inj_F, fun h => by rw [h]⟩
end Go.Proofs.Ytmoggjbnlimepaa
