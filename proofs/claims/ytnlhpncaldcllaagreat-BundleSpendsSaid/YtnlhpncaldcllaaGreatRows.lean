/-
  No cell of these rows narrows 'for every input' (looked for: loops, veiled, ifaces, maps, wideKeys, modest, calm, conditions, laid).
  DERIVED. THE GIVEN ROWS OF THIS SEAT. 8 by the template 'for every input the law returns true; each argument reads behind the call as it read before'; 0 by the template 'total and deterministic' (their statements: YtnlhpncaldcllaaGreatTotals.lean).
  GIVEN WITH THE SEED: the statements are not yours to turn. If you find one false, say at which input.
  Laid BY PROGRAM, IN A SANDBOX (cutbox-rows.mjs): the forced cells as the released guide's own fill.sh prints them over the translation c2af9f54acc6b322… (all of the seat's roots in one cut). By AI agents, Wed Nov 11 2026. No macro, syntax, notation, axiom, sorry.
-/
import Derived.Test.YtnlhpncaldcllaaGreatChecked
import GoSem.Claim
import GoSem.ClaimJoined
import GoSem.ClaimMapViews
import Derived.JoinedTies
import Derived.KernelRfl
namespace Go.Proofs.YtnlhpncaldcllaaGreat
/- THE CELL 'sum', in the pinned program and in every row, IS THE sha256 OF THE DUMP (.gsa) THAT YtnlhpncaldcllaaGreatProg.lean LOADS. Nothing in Lean hashes anything: it is a label: what it is worth is what the hold of that sum in a sandbox is worth. -/
noncomputable def Tryz.pinned : Pinned := { name := "ytnlhpncaldcllaagreat", sum := "c2af9f54acc6b32286224bbc2c502fdb14d1623285e89cba38eb5241cf3cd3a1", checked := Tryz.checked }
namespace Rows
def none {H : Type} : Left H := { results := [], args := [] }

/-- 'missivelaw23.BundleVerifies': WHATEVER THE INPUT: true; the input reads as it did. -/
def bundleVerifiesSpec : ChangeSpec := { name := "bundleVerifies", fn := fun _ => fun
  | [d1, d2, d3, d4, d5, d6, d7, d8] => { results := [.lit (.bool true)], args := [d1, d2, d3, d4, d5, d6, d7, d8] }
  | _ => none }
def bundleVerifiesRow : OpenClaim := { program := "ytnlhpncaldcllaagreat", sum := "c2af9f54acc6b32286224bbc2c502fdb14d1623285e89cba38eb5241cf3cd3a1", func := "missive/missivelaw23.BundleVerifies", spec := "bundleVerifies", inPlace := ["math/bits.Add64", "math/bits.Sub64"], unfollowed := true, recurses := true, apart := false }
def BundleVerifiesSaid : Prop := bundleVerifiesRow.holds Tryz.pinned (OpenSpec.ofChange bundleVerifiesSpec)

/-- ITS FALSE NEIGHBOUR: 'it returns false'. Refute it at one input. -/
def bundleVerifiesWrong : ChangeSpec := { name := "bundleVerifies", fn := fun _ => fun
  | [d1, d2, d3, d4, d5, d6, d7, d8] => { results := [.lit (.bool false)], args := [d1, d2, d3, d4, d5, d6, d7, d8] }
  | _ => none }
def BundleVerifiesWrongFalsely : Prop := bundleVerifiesRow.holds Tryz.pinned (OpenSpec.ofChange bundleVerifiesWrong)

/-- 'missivelaw23.BundleDown': WHATEVER THE INPUT: true; the input reads as it did. -/
def bundleDownSpec : ChangeSpec := { name := "bundleDown", fn := fun _ => fun
  | [d1, d2] => { results := [.lit (.bool true)], args := [d1, d2] }
  | _ => none }
def bundleDownRow : OpenClaim := { program := "ytnlhpncaldcllaagreat", sum := "c2af9f54acc6b32286224bbc2c502fdb14d1623285e89cba38eb5241cf3cd3a1", func := "missive/missivelaw23.BundleDown", spec := "bundleDown", inPlace := ["math/bits.Add64", "math/bits.Sub64"], unfollowed := true, recurses := true, apart := false }
def BundleDownSaid : Prop := bundleDownRow.holds Tryz.pinned (OpenSpec.ofChange bundleDownSpec)

/-- ITS FALSE NEIGHBOUR: 'it returns false'. Refute it at one input. -/
def bundleDownWrong : ChangeSpec := { name := "bundleDown", fn := fun _ => fun
  | [d1, d2] => { results := [.lit (.bool false)], args := [d1, d2] }
  | _ => none }
def BundleDownWrongFalsely : Prop := bundleDownRow.holds Tryz.pinned (OpenSpec.ofChange bundleDownWrong)

/-- 'missivelaw23.BundleShapes': WHATEVER THE INPUT: true; the input reads as it did. -/
def bundleShapesSpec : ChangeSpec := { name := "bundleShapes", fn := fun _ => fun
  | [d1, d2, d3] => { results := [.lit (.bool true)], args := [d1, d2, d3] }
  | _ => none }
def bundleShapesRow : OpenClaim := { program := "ytnlhpncaldcllaagreat", sum := "c2af9f54acc6b32286224bbc2c502fdb14d1623285e89cba38eb5241cf3cd3a1", func := "missive/missivelaw23.BundleShapes", spec := "bundleShapes", inPlace := ["math/bits.Add64", "math/bits.Sub64"], unfollowed := true, recurses := true, apart := false }
def BundleShapesSaid : Prop := bundleShapesRow.holds Tryz.pinned (OpenSpec.ofChange bundleShapesSpec)

/-- ITS FALSE NEIGHBOUR: 'it returns false'. Refute it at one input. -/
def bundleShapesWrong : ChangeSpec := { name := "bundleShapes", fn := fun _ => fun
  | [d1, d2, d3] => { results := [.lit (.bool false)], args := [d1, d2, d3] }
  | _ => none }
def BundleShapesWrongFalsely : Prop := bundleShapesRow.holds Tryz.pinned (OpenSpec.ofChange bundleShapesWrong)

/-- 'missivelaw23.BundleSeeds': WHATEVER THE INPUT: true; the input reads as it did. -/
def bundleSeedsSpec : ChangeSpec := { name := "bundleSeeds", fn := fun _ => fun
  | [d1, d2] => { results := [.lit (.bool true)], args := [d1, d2] }
  | _ => none }
def bundleSeedsRow : OpenClaim := { program := "ytnlhpncaldcllaagreat", sum := "c2af9f54acc6b32286224bbc2c502fdb14d1623285e89cba38eb5241cf3cd3a1", func := "missive/missivelaw23.BundleSeeds", spec := "bundleSeeds", inPlace := ["math/bits.Add64", "math/bits.Sub64"], unfollowed := true, recurses := true, apart := false }
def BundleSeedsSaid : Prop := bundleSeedsRow.holds Tryz.pinned (OpenSpec.ofChange bundleSeedsSpec)

/-- ITS FALSE NEIGHBOUR: 'it returns false'. Refute it at one input. -/
def bundleSeedsWrong : ChangeSpec := { name := "bundleSeeds", fn := fun _ => fun
  | [d1, d2] => { results := [.lit (.bool false)], args := [d1, d2] }
  | _ => none }
def BundleSeedsWrongFalsely : Prop := bundleSeedsRow.holds Tryz.pinned (OpenSpec.ofChange bundleSeedsWrong)

/-- 'missivelaw23.BundleKeys': WHATEVER THE INPUT: true; the input reads as it did. -/
def bundleKeysSpec : ChangeSpec := { name := "bundleKeys", fn := fun _ => fun
  | [d1, d2, d3, d4] => { results := [.lit (.bool true)], args := [d1, d2, d3, d4] }
  | _ => none }
def bundleKeysRow : OpenClaim := { program := "ytnlhpncaldcllaagreat", sum := "c2af9f54acc6b32286224bbc2c502fdb14d1623285e89cba38eb5241cf3cd3a1", func := "missive/missivelaw23.BundleKeys", spec := "bundleKeys", inPlace := ["math/bits.Add64", "math/bits.Sub64"], unfollowed := true, recurses := true, apart := false }
def BundleKeysSaid : Prop := bundleKeysRow.holds Tryz.pinned (OpenSpec.ofChange bundleKeysSpec)

/-- ITS FALSE NEIGHBOUR: 'it returns false'. Refute it at one input. -/
def bundleKeysWrong : ChangeSpec := { name := "bundleKeys", fn := fun _ => fun
  | [d1, d2, d3, d4] => { results := [.lit (.bool false)], args := [d1, d2, d3, d4] }
  | _ => none }
def BundleKeysWrongFalsely : Prop := bundleKeysRow.holds Tryz.pinned (OpenSpec.ofChange bundleKeysWrong)

/-- 'missivelaw23.BundleSpends': WHATEVER THE INPUT: true; the input reads as it did. -/
def bundleSpendsSpec : ChangeSpec := { name := "bundleSpends", fn := fun _ => fun
  | [d1, d2] => { results := [.lit (.bool true)], args := [d1, d2] }
  | _ => none }
def bundleSpendsRow : OpenClaim := { program := "ytnlhpncaldcllaagreat", sum := "c2af9f54acc6b32286224bbc2c502fdb14d1623285e89cba38eb5241cf3cd3a1", func := "missive/missivelaw23.BundleSpends", spec := "bundleSpends", inPlace := ["math/bits.Add64", "math/bits.Sub64"], unfollowed := true, recurses := true, apart := false }
def BundleSpendsSaid : Prop := bundleSpendsRow.holds Tryz.pinned (OpenSpec.ofChange bundleSpendsSpec)

/-- ITS FALSE NEIGHBOUR: 'it returns false'. Refute it at one input. -/
def bundleSpendsWrong : ChangeSpec := { name := "bundleSpends", fn := fun _ => fun
  | [d1, d2] => { results := [.lit (.bool false)], args := [d1, d2] }
  | _ => none }
def BundleSpendsWrongFalsely : Prop := bundleSpendsRow.holds Tryz.pinned (OpenSpec.ofChange bundleSpendsWrong)

/-- 'missivelaw23.BundleForms': WHATEVER THE INPUT: true; the input reads as it did. -/
def bundleFormsSpec : ChangeSpec := { name := "bundleForms", fn := fun _ => fun
  | [d1, d2, d3, d4, d5, d6] => { results := [.lit (.bool true)], args := [d1, d2, d3, d4, d5, d6] }
  | _ => none }
def bundleFormsRow : OpenClaim := { program := "ytnlhpncaldcllaagreat", sum := "c2af9f54acc6b32286224bbc2c502fdb14d1623285e89cba38eb5241cf3cd3a1", func := "missive/missivelaw23.BundleForms", spec := "bundleForms", inPlace := ["math/bits.Add64", "math/bits.Sub64"], unfollowed := true, recurses := true, apart := false }
def BundleFormsSaid : Prop := bundleFormsRow.holds Tryz.pinned (OpenSpec.ofChange bundleFormsSpec)

/-- ITS FALSE NEIGHBOUR: 'it returns false'. Refute it at one input. -/
def bundleFormsWrong : ChangeSpec := { name := "bundleForms", fn := fun _ => fun
  | [d1, d2, d3, d4, d5, d6] => { results := [.lit (.bool false)], args := [d1, d2, d3, d4, d5, d6] }
  | _ => none }
def BundleFormsWrongFalsely : Prop := bundleFormsRow.holds Tryz.pinned (OpenSpec.ofChange bundleFormsWrong)

/-- 'missivelaw23.BundleBack': WHATEVER THE INPUT: true; the input reads as it did. -/
def bundleBackSpec : ChangeSpec := { name := "bundleBack", fn := fun _ => fun
  | [d1, d2, d3] => { results := [.lit (.bool true)], args := [d1, d2, d3] }
  | _ => none }
def bundleBackRow : OpenClaim := { program := "ytnlhpncaldcllaagreat", sum := "c2af9f54acc6b32286224bbc2c502fdb14d1623285e89cba38eb5241cf3cd3a1", func := "missive/missivelaw23.BundleBack", spec := "bundleBack", inPlace := ["math/bits.Add64", "math/bits.Sub64"], unfollowed := true, recurses := true, apart := false }
def BundleBackSaid : Prop := bundleBackRow.holds Tryz.pinned (OpenSpec.ofChange bundleBackSpec)

/-- ITS FALSE NEIGHBOUR: 'it returns false'. Refute it at one input. -/
def bundleBackWrong : ChangeSpec := { name := "bundleBack", fn := fun _ => fun
  | [d1, d2, d3] => { results := [.lit (.bool false)], args := [d1, d2, d3] }
  | _ => none }
def BundleBackWrongFalsely : Prop := bundleBackRow.holds Tryz.pinned (OpenSpec.ofChange bundleBackWrong)

/- THE SECOND FORM. 'bulk': how many values and letters a reading holds, each counted each time it is reached (what is shared counts as often as it is met; a slice's spare places count too). A statement '..UptoSaid' is the law's where the arguments, and the package variables that the reading takes, are together of bulk at most 1048576: NARROWER than '..Said'. Prove '..Said' where nothing that the law and all that it calls make is longer than what came in: it says more and counts as full. Else prove '..UptoSaid'. A law counts once. -/
mutual
def uptoBulk {H : Type} : DataW H → Nat
  | .lit (.string bytes) => bytes.length + 1
  | .lit _ => 1
  | .nil => 1
  | .ptr d => uptoBulk d + 1
  | .slice elems spare => uptoBulkAll elems + uptoBulkAll spare + 1
  | .agg parts => uptoBulkAll parts + 1
  | .iface _ d => uptoBulk d + 1
  | .map entries => uptoBulkEntries entries + 1
  | .held _ => 1
def uptoBulkAll {H : Type} : List (DataW H) → Nat
  | [] => 0
  | d :: r => uptoBulk d + uptoBulkAll r
def uptoBulkEntries {H : Type} : List (Lit × DataW H) → Nat
  | [] => 0
  | x :: r => uptoBulkEntry x + uptoBulkEntries r
def uptoBulkEntry {H : Type} : Lit × DataW H → Nat
  | (.string bytes, d) => bytes.length + uptoBulk d + 1
  | (_, d) => uptoBulk d + 1
 end
def uptoSmall : (H : Type) → List (DataW H) → Bool := fun _ ds => decide (uptoBulkAll ds ≤ 1048576)
def OpenSpec.upto (s : _root_.Go.ChangeSpec) : _root_.Go.OpenSpec := { _root_.Go.OpenSpec.ofChange s with cond := some uptoSmall }

/-- 'missivelaw23.BundleVerifies', WHERE WHAT IT READS IS OF BULK AT MOST 1048576: true; the input reads as it did. -/
def bundleVerifiesUptoRow : OpenClaim := { program := "ytnlhpncaldcllaagreat", sum := "c2af9f54acc6b32286224bbc2c502fdb14d1623285e89cba38eb5241cf3cd3a1", func := "missive/missivelaw23.BundleVerifies", spec := "bundleVerifies", inPlace := ["math/bits.Add64", "math/bits.Sub64"], unfollowed := true, recurses := true, apart := false, narrowed := true }
def BundleVerifiesUptoSaid : Prop := bundleVerifiesUptoRow.holds Tryz.pinned (OpenSpec.upto bundleVerifiesSpec)

/-- 'missivelaw23.BundleDown', WHERE WHAT IT READS IS OF BULK AT MOST 1048576: true; the input reads as it did. -/
def bundleDownUptoRow : OpenClaim := { program := "ytnlhpncaldcllaagreat", sum := "c2af9f54acc6b32286224bbc2c502fdb14d1623285e89cba38eb5241cf3cd3a1", func := "missive/missivelaw23.BundleDown", spec := "bundleDown", inPlace := ["math/bits.Add64", "math/bits.Sub64"], unfollowed := true, recurses := true, apart := false, narrowed := true }
def BundleDownUptoSaid : Prop := bundleDownUptoRow.holds Tryz.pinned (OpenSpec.upto bundleDownSpec)

/-- 'missivelaw23.BundleShapes', WHERE WHAT IT READS IS OF BULK AT MOST 1048576: true; the input reads as it did. -/
def bundleShapesUptoRow : OpenClaim := { program := "ytnlhpncaldcllaagreat", sum := "c2af9f54acc6b32286224bbc2c502fdb14d1623285e89cba38eb5241cf3cd3a1", func := "missive/missivelaw23.BundleShapes", spec := "bundleShapes", inPlace := ["math/bits.Add64", "math/bits.Sub64"], unfollowed := true, recurses := true, apart := false, narrowed := true }
def BundleShapesUptoSaid : Prop := bundleShapesUptoRow.holds Tryz.pinned (OpenSpec.upto bundleShapesSpec)

/-- 'missivelaw23.BundleSeeds', WHERE WHAT IT READS IS OF BULK AT MOST 1048576: true; the input reads as it did. -/
def bundleSeedsUptoRow : OpenClaim := { program := "ytnlhpncaldcllaagreat", sum := "c2af9f54acc6b32286224bbc2c502fdb14d1623285e89cba38eb5241cf3cd3a1", func := "missive/missivelaw23.BundleSeeds", spec := "bundleSeeds", inPlace := ["math/bits.Add64", "math/bits.Sub64"], unfollowed := true, recurses := true, apart := false, narrowed := true }
def BundleSeedsUptoSaid : Prop := bundleSeedsUptoRow.holds Tryz.pinned (OpenSpec.upto bundleSeedsSpec)

/-- 'missivelaw23.BundleKeys', WHERE WHAT IT READS IS OF BULK AT MOST 1048576: true; the input reads as it did. -/
def bundleKeysUptoRow : OpenClaim := { program := "ytnlhpncaldcllaagreat", sum := "c2af9f54acc6b32286224bbc2c502fdb14d1623285e89cba38eb5241cf3cd3a1", func := "missive/missivelaw23.BundleKeys", spec := "bundleKeys", inPlace := ["math/bits.Add64", "math/bits.Sub64"], unfollowed := true, recurses := true, apart := false, narrowed := true }
def BundleKeysUptoSaid : Prop := bundleKeysUptoRow.holds Tryz.pinned (OpenSpec.upto bundleKeysSpec)

/-- 'missivelaw23.BundleSpends', WHERE WHAT IT READS IS OF BULK AT MOST 1048576: true; the input reads as it did. -/
def bundleSpendsUptoRow : OpenClaim := { program := "ytnlhpncaldcllaagreat", sum := "c2af9f54acc6b32286224bbc2c502fdb14d1623285e89cba38eb5241cf3cd3a1", func := "missive/missivelaw23.BundleSpends", spec := "bundleSpends", inPlace := ["math/bits.Add64", "math/bits.Sub64"], unfollowed := true, recurses := true, apart := false, narrowed := true }
def BundleSpendsUptoSaid : Prop := bundleSpendsUptoRow.holds Tryz.pinned (OpenSpec.upto bundleSpendsSpec)

/-- 'missivelaw23.BundleForms', WHERE WHAT IT READS IS OF BULK AT MOST 1048576: true; the input reads as it did. -/
def bundleFormsUptoRow : OpenClaim := { program := "ytnlhpncaldcllaagreat", sum := "c2af9f54acc6b32286224bbc2c502fdb14d1623285e89cba38eb5241cf3cd3a1", func := "missive/missivelaw23.BundleForms", spec := "bundleForms", inPlace := ["math/bits.Add64", "math/bits.Sub64"], unfollowed := true, recurses := true, apart := false, narrowed := true }
def BundleFormsUptoSaid : Prop := bundleFormsUptoRow.holds Tryz.pinned (OpenSpec.upto bundleFormsSpec)

/-- 'missivelaw23.BundleBack', WHERE WHAT IT READS IS OF BULK AT MOST 1048576: true; the input reads as it did. -/
def bundleBackUptoRow : OpenClaim := { program := "ytnlhpncaldcllaagreat", sum := "c2af9f54acc6b32286224bbc2c502fdb14d1623285e89cba38eb5241cf3cd3a1", func := "missive/missivelaw23.BundleBack", spec := "bundleBack", inPlace := ["math/bits.Add64", "math/bits.Sub64"], unfollowed := true, recurses := true, apart := false, narrowed := true }
def BundleBackUptoSaid : Prop := bundleBackUptoRow.holds Tryz.pinned (OpenSpec.upto bundleBackSpec)

end Rows
end Go.Proofs.YtnlhpncaldcllaaGreat
