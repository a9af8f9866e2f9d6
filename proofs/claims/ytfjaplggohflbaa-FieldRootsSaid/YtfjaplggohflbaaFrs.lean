/- Package field's numbers as values in memory, second part: the same, odd, one of two, reading strictly, roots. -/
import Derived.Test.YtfjaplggohflbaaFrp
import Derived.Test.YtfjaplggohflbaaRegs
import Derived.Test.YtfjaplggohflbaaFrt
namespace Go.Proofs.Ytfjaplggohflbaa
open Go Go.RowKit

theorem cSame {v v' : Value} {x y : F} {b : Bool} (hq : decide (x = y) = b) (h : IsFs rE v [x]) (h' : IsFs rE v' [y]) (w : World) :
    Calls Try.prog 15 #[v, v'] w fun e w' => e = .returned (.bool b) ∧ Below w.heap.size w w' := by
  obtain ⟨f, rfl, hf⟩ := of_isE h; obtain ⟨g, rfl, hg⟩ := of_isE h'
  subst hq
  exact fsameM hf hg w
theorem cOdd {v : Value} {x : F} {b : Bool} (hq : decide (x.val % 2 = 1) = b) (h : IsFs rE v [x]) (w : World) :
    Calls Try.prog 25 #[v] w fun e w' => e = .returned (.bool b) ∧ Below w.heap.size w w' := by
  obtain ⟨f, rfl, hf⟩ := of_isE h
  subst hq
  exact foddM hf w
theorem cPick {v v' : Value} {x y z : F} {b : Bool} (hz : (if b then x else y) = z) (h : IsFs rE v [x]) (h' : IsFs rE v' [y]) (w : World) :
    Calls Try.prog 14 #[.bool b, v, v'] w fun e w' => ∃ r, e = .returned r ∧ IsFs rE r [z] ∧ Below w.heap.size w w' := by
  subst hz
  obtain ⟨f, rfl, hf⟩ := of_isE h; obtain ⟨g, rfl, hg⟩ := of_isE h'
  refine (fepick_any b f g w).mono ?_
  rintro e w' ⟨rfl, hb⟩
  cases b
  · exact ⟨_, rfl, isE hg, hb⟩
  · exact ⟨_, rfl, isE hf, hb⟩
/-- What reading strictly makes of bytes, and what it tells. -/
def stV (l : List UInt8) : F := if feOk l then feF l else 0
def stC (l : List UInt8) : Int := if feOk l then 0 else 2
theorem cStrict {a : Option Addr} {n cap : Nat} {l : List UInt8} {w : World} (h : RdB w a n cap l) :
    Calls Try.prog 17 #[.slice a n cap] w fun e w' => ∃ r, e = .returned (.tuple #[r, .int .i64 (stC l)]) ∧ IsFs rE r [stV l] ∧ Below w.heap.size w w' := by
  by_cases hok : feOk l = true
  · refine (fstrict_yes w h hok).mono ?_
    rintro e w' ⟨f, rfl, hf, hb⟩
    rw [stC, stV, if_pos hok, if_pos hok]
    exact ⟨_, rfl, isE hf, hb⟩
  · refine (fstrict_no w h (by simpa using hok)).mono ?_
    rintro e w' ⟨f, rfl, hf, hb⟩
    rw [stC, stV, if_neg hok, if_neg hok]
    exact ⟨_, rfl, isE hf, hb⟩
theorem cRoot {v : Value} {x : F} (h : IsFs rE v [x]) (w : World) :
    Calls Try.prog 34 #[v] w fun e w' => ∃ r, e = .returned (.tuple #[r, .int .i64 (rootC x)]) ∧ IsFs rE r [rootV x] ∧ Below w.heap.size w w' := by
  obtain ⟨f, rfl, hf⟩ := of_isE h
  refine (rootM hf w).mono ?_
  rintro e w' ⟨g, rfl, hg, hb⟩
  exact ⟨_, rfl, isE hg, hb⟩
theorem cOf' {a : Option Addr} {n cap : Nat} {l : List UInt8} {x : F} {w : World} (hx : feF l = x) (h : RdB w a n cap l) :
    Calls Try.prog 13 #[.slice a n cap] w fun e w' => ∃ r, e = .returned r ∧ IsFs rE r [x] ∧ Below w.heap.size w w' := by subst hx; exact cOf h
theorem cStrict' {a : Option Addr} {n cap : Nat} {l : List UInt8} {x : F} {c : Int} {w : World} (hx : stV l = x) (hc : stC l = c) (h : RdB w a n cap l) :
    Calls Try.prog 17 #[.slice a n cap] w fun e w' => ∃ r, e = .returned (.tuple #[r, .int .i64 c]) ∧ IsFs rE r [x] ∧ Below w.heap.size w w' := by subst hx hc; exact cStrict h
theorem leB_inj_F {x y : F} (h : leB 32 x.val = leB 32 y.val) : x = y := by rw [← feF_leB x, h, feF_leB]
theorem leB_dec {x y : F} {b : Bool} (hq : decide (x = y) = b) : decide (leB 32 x.val = leB 32 y.val) = b := by
  rw [← hq, decide_eq_decide]
  exact ⟨leB_inj_F, fun h => by rw [h]⟩
end Go.Proofs.Ytfjaplggohflbaa
