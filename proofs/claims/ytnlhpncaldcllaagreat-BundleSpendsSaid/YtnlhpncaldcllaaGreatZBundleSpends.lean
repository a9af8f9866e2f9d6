/- BundleSpends: a key is spent once, and never published again: for every input. -/
import Derived.Test.YtnlhpncaldcllaaGreatZBBE
import Derived.Test.YtnlhpncaldcllaaGreatRows
import Derived.ProofKit
import Derived.ShutString
import Derived.ChangeOld
namespace Go.Proofs.YtnlhpncaldcllaaGreat
open Go Go.ChangeShapes Go.WideShapes Go.ChangeAt Go.RowKit
set_option linter.unusedVariables false

def gSpends:GF:=fun l=>match l with
 | [.one (.ob .int _),.one (.ob .int _)]=>some ⟨[.one (.ob .bool true)],[],none⟩
 |_=>none
theorem spends_sound:ab 8 (aq gSpends):=af aj Mr Tryz.func8 (by kernel_rfl) rfl (rs:= [.tmp 4]) Tryz.results8 fun l g h hp=>by
 unfold gSpends at h
 split at h
 ·cases h;exact ⟨Nat.le_of_ble_eq_true rfl,rfl,rfl,rfl,Il _ _⟩
 ·cases h
theorem bundleSpends_any {n id:Int} (w:World) (_hn:(Lit.int .i64 n).wf=true) (_hw:(Lit.int .i64 id).wf=true):Calls Tryz.prog 8 #[.int .i64 n,.int .i64 id] w fun e w'=>e= .returned (.bool true)∧Below w.heap.size w w':=
 Df spends_sound (l:= [.one (.ob .int n),.one (.ob .int id)]) rfl ⟨_,_,rfl,rfl,_,_,rfl,rfl,rfl⟩
namespace bundleSpendsDone
theorem own:ownKnob Tryz.prog.godebug=none:=by kernel_rfl
theorem laidOut:laidOutB Tryz.prog=true:=by kernel_rfl
set_option maxRecDepth 100000 in
theorem lifted (os:Os) (started:os.Started) (H:Type) (enc:TypeId×Value→H):
  ReturnsInHanded {} Tryz.checked os 8 .any (Rows.bundleSpendsSpec.pre6 enc Tryz.prog Tryz.f8 Rows.bundleSpendsRow.domain false) (Rows.bundleSpendsSpec.post enc Tryz.prog Tryz.f8 false true false false):=by
 refine returnsInHanded_of_change (C:=Tryz.checked) own started (by kernel_rfl) Tryz.func8
  (ChangeSpec.witness6 (enc:=enc) (C:=Tryz.checked) false ⟨#[],#[.int .i64 0,.int .i64 0],[]⟩ 8 (by kernel_rfl) (by kernel_rfl) (by kernel_rfl) (by kernel_rfl)) ?_
 intro W base args ds gs before hval0 hW hcnd _
 have hval:∀(j:Nat) t v,Tryz.f8.params[j]?=some t→args[j]?=some v→Value.okWide Tryz.prog W .any base t v:=hval0
 have hW':=hW
 obtain ⟨p,q,hA0,hV,rfl,hfz,hnd⟩:=hW
 have hA:DataW.TrodAll enc Tryz.prog W 0 (fun _=>true) true Tryz.f8.params.toList args.toList ds p:=hA0
 rw [Tryz.params8] at hA hval
 obtain ⟨v0,vs0,d0,ds0,p0,q0,hargs,rfl,rfl,h0,r0⟩:=trodAll_cons hA
 obtain ⟨v1,vs1,d1,ds1,p1,q1,rfl,rfl,rfl,h1,r1⟩:=trodAll_cons r0
 obtain ⟨rfl,rfl,rfl⟩:=trodAll_nil r1
 obtain rfl:args= #[v0,v1]:=by cases args;simp_all
 obtain ⟨rfl,rfl⟩:=trodVars_none hV
 obtain ⟨a0,rfl,rfl,rfl,w0⟩:=open_int Tryz.underlying3 (hval 0 3 v0 rfl rfl) h0
 obtain ⟨a1,rfl,rfl,rfl,w1⟩:=open_int Tryz.underlying3 (hval 1 3 v1 rfl rfl) h1
 clear hA0 hval0
 refine (bundleSpends_any W w0 w1).mono fun e W' ⟨he,bel⟩=> ?_
 subst he
 exact ⟨_,rfl,_,_,_,[],_,[],hW',trodAll_mk1 (shut_bool Tryz.underlying4 _),(trodAll_cons_mk (shut_int Tryz.underlying3 w0) (trodAll_cons_mk (shut_int Tryz.underlying3 w1) trodAll_mk0)),rfl,bel.frame _,fun h=>by cases h⟩
theorem over:Rows.bundleSpendsRow.holds Tryz.pinned (OpenSpec.ofChange Rows.bundleSpendsSpec):=
 OpenClaim.holds_of_wide 8 Tryz.f8 rfl rfl rfl rfl rfl rfl rfl ⟨rfl,rfl,rfl,rfl,rfl⟩ rfl rfl rfl rfl rfl (by kernel_rfl) Tryz.func8 (by kernel_rfl)
  (of_decide_eq_true (by kernel_rfl)) (by unfold Func.isWrapper;first |(rw [if_pos (by decide +kernel)];kernel_rfl)|(rw [if_neg (by decide +kernel)];exact ⟨rfl,rfl⟩))
  (fun os started H enc _=>lifted os started H enc)
theorem proved:Rows.BundleSpendsSaid:=over
#print axioms proved
end bundleSpendsDone

end Go.Proofs.YtnlhpncaldcllaaGreat
