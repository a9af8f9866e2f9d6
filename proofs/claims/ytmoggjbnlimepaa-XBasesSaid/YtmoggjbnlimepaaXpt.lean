/- x25519's points in memory. -/
import Derived.Test.YtmoggjbnlimepaaFrs
import Derived.Test.YtmoggjbnlimepaaXcl
import Derived.Test.YtmoggjbnlimepaaXfn
import Derived.Deep.DeepCutAuto
namespace Go.Proofs.Ytmoggjbnlimepaa
open Go Go.RowKit

theorem typoint : TyOk rE 45 2 := ⟨⟨_, Try.underlying45, rfl⟩, by kernel_rfl⟩
theorem allocpoint (w : World) : (Instr.alloc 45 true (.tuple #[])).run Try.prog w = .ok (.pointer (some ⟨w.heap.size, 0, none⟩)) (w.alloc (.cells #[.int .u64 0, .int .u64 0, .int .u64 0, .int .u64 0, .int .u64 0, .int .u64 0, .int .u64 0, .int .u64 0, .int .u64 0, .int .u64 0] 45)) := by kernel_rfl
theorem field_point0 (b : Nat) (w : World) : (Instr.fieldAt 45 (.pointer (some ⟨b, 0, none⟩)) 0).run Try.prog w = .ok (.pointer (some ⟨b, 0, none⟩)) w := by kernel_rfl
theorem field_point1 (b : Nat) (w : World) : (Instr.fieldAt 45 (.pointer (some ⟨b, 0, none⟩)) 1).run Try.prog w = .ok (.pointer (some ⟨b, 5, none⟩)) w := by kernel_rfl
theorem build_point {u v : Value} {x z : F} (h : IsFs rE u [x]) (k : IsFs rE v [z]) (w : World) : ∃ r, (Instr.build 45 #[(0, u), (1, v)]).run Try.prog w = .ok r w ∧ IsFs rE r [x, z] := by
  obtain ⟨cs, ds, hu, hv, hr⟩ := h.app k
  obtain ⟨f, rfl, hf⟩ := of_isE h; obtain ⟨g, rfl, hg⟩ := of_isE k
  simp only [Value.agg.injEq] at hu hv
  obtain rfl := List.toArray_inj hu
  obtain rfl := List.toArray_inj hv
  exact ⟨_, by kernel_rfl, hr⟩
end Go.Proofs.Ytmoggjbnlimepaa
