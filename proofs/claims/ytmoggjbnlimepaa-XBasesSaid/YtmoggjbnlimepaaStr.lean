/- Strings of bytes. -/
import Derived.Test.YtmoggjbnlimepaaFlat
import Derived.Laws.IdiomStrings
namespace Go.Proofs.Ytmoggjbnlimepaa
open Go.RowKit

/-- Bytes as a string. -/
def bs (l : List UInt8) : ByteArray := ⟨l.toArray⟩
theorem conv_any {w : World} {a : Option Addr} {n cap : Nat} {l : List UInt8} (h : RdB w a n cap l) : (convert 22 9 (.slice a n cap)).run Try.prog w = .ok (.string (bs l)) w := by
  have hl := h.hlen
  rcases h.cases with ⟨rfl, rfl⟩ | ⟨b, o, hn, rfl, hc⟩
  · cases a with
    | none => rw [run_convert_bytes_string w 22 9 5 none 0 cap Try.underlying22 Try.underlying5 Try.underlying9]; rfl
    | some ad => exact run_convert_bytes_back w 22 9 5 ad cap [] Try.underlying22 Try.underlying5 Try.underlying9 (fun j hj => by simp at hj)
  · subst hl
    exact run_convert_bytes_back w 22 9 5 ⟨b, o, none⟩ cap l Try.underlying22 Try.underlying5 Try.underlying9 (fun j hj => by rw [addr_add]; exact hc j hj)
theorem bs_inj {l m : List UInt8} (h : bs l = bs m) : l = m := by
  unfold bs at h
  injection h with h
  exact Array.toList_inj.2 h |> fun e => by simpa using e
theorem ba_beq : ∀ a b : ByteArray, (a == b) = (a.data == b.data) := fun ⟨_⟩ ⟨_⟩ => rfl
theorem bs_beq (l m : List UInt8) : (bs l == bs m) = decide (l = m) := by
  rw [ba_beq]
  by_cases h : l = m
  · subst h; simp
  · rw [decide_eq_false h, beq_eq_false_iff_ne]
    intro e
    apply h
    simpa [bs] using e
theorem bs_toList (l : List UInt8) : (bs l).toList = l := ByteArray.toList_mk l
theorem bs_eqT (l m : List UInt8) : ((bs l).toList == (bs m).toList) = decide (l = m) := by
  rw [bs_toList, bs_toList]
  by_cases h : l = m
  · subst h; simp
  · rw [decide_eq_false h, beq_eq_false_iff_ne]; exact h
end Go.Proofs.Ytmoggjbnlimepaa
