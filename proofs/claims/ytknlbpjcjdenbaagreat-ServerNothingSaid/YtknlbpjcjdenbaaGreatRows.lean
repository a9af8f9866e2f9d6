/-
  No cell of these rows narrows 'for every input' (looked for: loops, veiled, ifaces, maps, wideKeys, modest, calm, conditions, laid).
  DERIVED. THE GIVEN ROWS OF THIS SEAT. 5 by the template 'for every input the law returns true; each argument reads behind the call as it read before'; 0 by the template 'total and deterministic' (their statements: YtknlbpjcjdenbaaGreatTotals.lean).
  GIVEN WITH THE SEED: the statements are not yours to turn. If you find one false, say at which input.
  Laid BY PROGRAM, IN A SANDBOX (cutbox-rows.mjs): the forced cells as the released guide's own fill.sh prints them over the translation a55b82bf6c308781… (all of the seat's roots in one cut). By AI agents, Wed Nov 11 2026. No macro, syntax, notation, axiom, sorry.
-/
import Derived.Test.YtknlbpjcjdenbaaGreatChecked
import GoSem.Claim
import GoSem.ClaimJoined
import GoSem.ClaimMapViews
import Derived.JoinedTies
import Derived.KernelRfl
namespace Go.Proofs.YtknlbpjcjdenbaaGreat
/- THE CELL 'sum', in the pinned program and in every row, IS THE sha256 OF THE DUMP (.gsa) THAT YtknlbpjcjdenbaaGreatProg.lean LOADS. Nothing in Lean hashes anything: it is a label: what it is worth is what the hold of that sum in a sandbox is worth. -/
noncomputable def Tryz.pinned : Pinned := { name := "ytknlbpjcjdenbaagreat", sum := "a55b82bf6c308781172c1e95ab9d358d0b62c6c1d71b687b3a68ed967dc515f7", checked := Tryz.checked }
namespace Rows
def none {H : Type} : Left H := { results := [], args := [] }

/-- 'missivelaw26.ServerOnce': WHATEVER THE INPUT: true; the input reads as it did. -/
def serverOnceSpec : ChangeSpec := { name := "serverOnce", fn := fun _ => fun
  | [d1, d2, d3] => { results := [.lit (.bool true)], args := [d1, d2, d3] }
  | _ => none }
def serverOnceRow : OpenClaim := { program := "ytknlbpjcjdenbaagreat", sum := "a55b82bf6c308781172c1e95ab9d358d0b62c6c1d71b687b3a68ed967dc515f7", func := "missive/missivelaw26.ServerOnce", spec := "serverOnce", inPlace := ["math/bits.Add64", "math/bits.Sub64"], unfollowed := true, recurses := true, apart := false }
def ServerOnceSaid : Prop := serverOnceRow.holds Tryz.pinned (OpenSpec.ofChange serverOnceSpec)

/-- ITS FALSE NEIGHBOUR: 'it returns false'. Refute it at one input. -/
def serverOnceWrong : ChangeSpec := { name := "serverOnce", fn := fun _ => fun
  | [d1, d2, d3] => { results := [.lit (.bool false)], args := [d1, d2, d3] }
  | _ => none }
def ServerOnceWrongFalsely : Prop := serverOnceRow.holds Tryz.pinned (OpenSpec.ofChange serverOnceWrong)

/-- 'missivelaw26.ServerKeeps': WHATEVER THE INPUT: true; the input reads as it did. -/
def serverKeepsSpec : ChangeSpec := { name := "serverKeeps", fn := fun _ => fun
  | [d1, d2, d3, d4] => { results := [.lit (.bool true)], args := [d1, d2, d3, d4] }
  | _ => none }
def serverKeepsRow : OpenClaim := { program := "ytknlbpjcjdenbaagreat", sum := "a55b82bf6c308781172c1e95ab9d358d0b62c6c1d71b687b3a68ed967dc515f7", func := "missive/missivelaw26.ServerKeeps", spec := "serverKeeps", inPlace := ["math/bits.Add64", "math/bits.Sub64"], unfollowed := true, recurses := true, apart := false }
def ServerKeepsSaid : Prop := serverKeepsRow.holds Tryz.pinned (OpenSpec.ofChange serverKeepsSpec)

/-- ITS FALSE NEIGHBOUR: 'it returns false'. Refute it at one input. -/
def serverKeepsWrong : ChangeSpec := { name := "serverKeeps", fn := fun _ => fun
  | [d1, d2, d3, d4] => { results := [.lit (.bool false)], args := [d1, d2, d3, d4] }
  | _ => none }
def ServerKeepsWrongFalsely : Prop := serverKeepsRow.holds Tryz.pinned (OpenSpec.ofChange serverKeepsWrong)

/-- 'missivelaw26.ServerPlays': WHATEVER THE INPUT: true; the input reads as it did. -/
def serverPlaysSpec : ChangeSpec := { name := "serverPlays", fn := fun _ => fun
  | [d1, d2] => { results := [.lit (.bool true)], args := [d1, d2] }
  | _ => none }
def serverPlaysRow : OpenClaim := { program := "ytknlbpjcjdenbaagreat", sum := "a55b82bf6c308781172c1e95ab9d358d0b62c6c1d71b687b3a68ed967dc515f7", func := "missive/missivelaw26.ServerPlays", spec := "serverPlays", inPlace := ["math/bits.Add64", "math/bits.Sub64"], unfollowed := true, recurses := true, apart := false }
def ServerPlaysSaid : Prop := serverPlaysRow.holds Tryz.pinned (OpenSpec.ofChange serverPlaysSpec)

/-- ITS FALSE NEIGHBOUR: 'it returns false'. Refute it at one input. -/
def serverPlaysWrong : ChangeSpec := { name := "serverPlays", fn := fun _ => fun
  | [d1, d2] => { results := [.lit (.bool false)], args := [d1, d2] }
  | _ => none }
def ServerPlaysWrongFalsely : Prop := serverPlaysRow.holds Tryz.pinned (OpenSpec.ofChange serverPlaysWrong)

/-- 'missivelaw26.ServerNothing': WHATEVER THE INPUT: true; the input reads as it did. -/
def serverNothingSpec : ChangeSpec := { name := "serverNothing", fn := fun _ => fun
  | [d1, d2] => { results := [.lit (.bool true)], args := [d1, d2] }
  | _ => none }
def serverNothingRow : OpenClaim := { program := "ytknlbpjcjdenbaagreat", sum := "a55b82bf6c308781172c1e95ab9d358d0b62c6c1d71b687b3a68ed967dc515f7", func := "missive/missivelaw26.ServerNothing", spec := "serverNothing", inPlace := ["math/bits.Add64", "math/bits.Sub64"], unfollowed := true, recurses := true, apart := false }
def ServerNothingSaid : Prop := serverNothingRow.holds Tryz.pinned (OpenSpec.ofChange serverNothingSpec)

/-- ITS FALSE NEIGHBOUR: 'it returns false'. Refute it at one input. -/
def serverNothingWrong : ChangeSpec := { name := "serverNothing", fn := fun _ => fun
  | [d1, d2] => { results := [.lit (.bool false)], args := [d1, d2] }
  | _ => none }
def ServerNothingWrongFalsely : Prop := serverNothingRow.holds Tryz.pinned (OpenSpec.ofChange serverNothingWrong)

/-- 'missivelaw26.ServerRenews': WHATEVER THE INPUT: true; the input reads as it did. -/
def serverRenewsSpec : ChangeSpec := { name := "serverRenews", fn := fun _ => fun
  | [d1, d2] => { results := [.lit (.bool true)], args := [d1, d2] }
  | _ => none }
def serverRenewsRow : OpenClaim := { program := "ytknlbpjcjdenbaagreat", sum := "a55b82bf6c308781172c1e95ab9d358d0b62c6c1d71b687b3a68ed967dc515f7", func := "missive/missivelaw26.ServerRenews", spec := "serverRenews", inPlace := ["math/bits.Add64", "math/bits.Sub64"], unfollowed := true, recurses := true, apart := false }
def ServerRenewsSaid : Prop := serverRenewsRow.holds Tryz.pinned (OpenSpec.ofChange serverRenewsSpec)

/-- ITS FALSE NEIGHBOUR: 'it returns false'. Refute it at one input. -/
def serverRenewsWrong : ChangeSpec := { name := "serverRenews", fn := fun _ => fun
  | [d1, d2] => { results := [.lit (.bool false)], args := [d1, d2] }
  | _ => none }
def ServerRenewsWrongFalsely : Prop := serverRenewsRow.holds Tryz.pinned (OpenSpec.ofChange serverRenewsWrong)

/- THE SECOND FORM. 'bulk': how many values and letters a reading holds, each counted each time it is reached (what is shared counts as often as it is met; a slice's spare places count too). A statement '..UptoSaid' is the law's where the arguments, and the package variables that the reading takes, are together of bulk at most 1048576: NARROWER than '..Said'. Prove '..Said' where nothing that the law and all that it calls make is longer than what came in: it says more and counts as full. Else prove '..UptoSaid'. A law counts once. -/
mutual
def uptoBulk {H : Type} : DataW H → Nat
  | .lit (.string bytes) => bytes.length + 1
  | .lit _ => 1
  | .nil => 1
  | .ptr d => uptoBulk d + 1
  | .slice elems spare => uptoBulkAll elems + uptoBulkAll spare + 1
  | .agg parts => uptoBulkAll parts + 1
  | .iface _ d => uptoBulk d + 1
  | .map entries => uptoBulkEntries entries + 1
  | .held _ => 1
def uptoBulkAll {H : Type} : List (DataW H) → Nat
  | [] => 0
  | d :: r => uptoBulk d + uptoBulkAll r
def uptoBulkEntries {H : Type} : List (Lit × DataW H) → Nat
  | [] => 0
  | x :: r => uptoBulkEntry x + uptoBulkEntries r
def uptoBulkEntry {H : Type} : Lit × DataW H → Nat
  | (.string bytes, d) => bytes.length + uptoBulk d + 1
  | (_, d) => uptoBulk d + 1
 end
def uptoSmall : (H : Type) → List (DataW H) → Bool := fun _ ds => decide (uptoBulkAll ds ≤ 1048576)
def OpenSpec.upto (s : _root_.Go.ChangeSpec) : _root_.Go.OpenSpec := { _root_.Go.OpenSpec.ofChange s with cond := some uptoSmall }

/-- 'missivelaw26.ServerOnce', WHERE WHAT IT READS IS OF BULK AT MOST 1048576: true; the input reads as it did. -/
def serverOnceUptoRow : OpenClaim := { program := "ytknlbpjcjdenbaagreat", sum := "a55b82bf6c308781172c1e95ab9d358d0b62c6c1d71b687b3a68ed967dc515f7", func := "missive/missivelaw26.ServerOnce", spec := "serverOnce", inPlace := ["math/bits.Add64", "math/bits.Sub64"], unfollowed := true, recurses := true, apart := false, narrowed := true }
def ServerOnceUptoSaid : Prop := serverOnceUptoRow.holds Tryz.pinned (OpenSpec.upto serverOnceSpec)

/-- 'missivelaw26.ServerKeeps', WHERE WHAT IT READS IS OF BULK AT MOST 1048576: true; the input reads as it did. -/
def serverKeepsUptoRow : OpenClaim := { program := "ytknlbpjcjdenbaagreat", sum := "a55b82bf6c308781172c1e95ab9d358d0b62c6c1d71b687b3a68ed967dc515f7", func := "missive/missivelaw26.ServerKeeps", spec := "serverKeeps", inPlace := ["math/bits.Add64", "math/bits.Sub64"], unfollowed := true, recurses := true, apart := false, narrowed := true }
def ServerKeepsUptoSaid : Prop := serverKeepsUptoRow.holds Tryz.pinned (OpenSpec.upto serverKeepsSpec)

/-- 'missivelaw26.ServerPlays', WHERE WHAT IT READS IS OF BULK AT MOST 1048576: true; the input reads as it did. -/
def serverPlaysUptoRow : OpenClaim := { program := "ytknlbpjcjdenbaagreat", sum := "a55b82bf6c308781172c1e95ab9d358d0b62c6c1d71b687b3a68ed967dc515f7", func := "missive/missivelaw26.ServerPlays", spec := "serverPlays", inPlace := ["math/bits.Add64", "math/bits.Sub64"], unfollowed := true, recurses := true, apart := false, narrowed := true }
def ServerPlaysUptoSaid : Prop := serverPlaysUptoRow.holds Tryz.pinned (OpenSpec.upto serverPlaysSpec)

/-- 'missivelaw26.ServerNothing', WHERE WHAT IT READS IS OF BULK AT MOST 1048576: true; the input reads as it did. -/
def serverNothingUptoRow : OpenClaim := { program := "ytknlbpjcjdenbaagreat", sum := "a55b82bf6c308781172c1e95ab9d358d0b62c6c1d71b687b3a68ed967dc515f7", func := "missive/missivelaw26.ServerNothing", spec := "serverNothing", inPlace := ["math/bits.Add64", "math/bits.Sub64"], unfollowed := true, recurses := true, apart := false, narrowed := true }
def ServerNothingUptoSaid : Prop := serverNothingUptoRow.holds Tryz.pinned (OpenSpec.upto serverNothingSpec)

/-- 'missivelaw26.ServerRenews', WHERE WHAT IT READS IS OF BULK AT MOST 1048576: true; the input reads as it did. -/
def serverRenewsUptoRow : OpenClaim := { program := "ytknlbpjcjdenbaagreat", sum := "a55b82bf6c308781172c1e95ab9d358d0b62c6c1d71b687b3a68ed967dc515f7", func := "missive/missivelaw26.ServerRenews", spec := "serverRenews", inPlace := ["math/bits.Add64", "math/bits.Sub64"], unfollowed := true, recurses := true, apart := false, narrowed := true }
def ServerRenewsUptoSaid : Prop := serverRenewsUptoRow.holds Tryz.pinned (OpenSpec.upto serverRenewsSpec)

end Rows
end Go.Proofs.YtknlbpjcjdenbaaGreat
