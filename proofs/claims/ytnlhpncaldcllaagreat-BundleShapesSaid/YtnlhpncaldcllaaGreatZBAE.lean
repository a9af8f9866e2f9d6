/- What BA rests on, part 5 of 5: my own texts, put together (merge.py). -/
import Derived.Deep.RegionHeld3
import Derived.WalkKit
import Derived.ProofKit
import Derived.Lib.Hide
import Derived.OpenShut
import Derived.Deep.MidRow
import Derived.Test.YtnlhpncaldcllaaGreatRows
import Derived.WalkSpells
import Derived.StillTactics
import Derived.Laws.Pointers
import Derived.Laws.CopyOwn
import Derived.Laws.AppendOwnNone
import Derived.RowKit3
import Derived.BigQuiet
import Derived.Deep.QuietTactic
import Derived.Deep.LoopGhost
import Derived.Deep.DeepFit
import Derived.WalkLawsBesides
import Derived.Shelf.Spec.BitsCarry
import Derived.Laws.IdiomStrings
import Derived.Maps.RangeWalk
import Derived.Great.BuildSlice
import Derived.Lib.AppendZerosOnto
import Derived.Deep.DeepCutAuto
import Derived.Lib.SliceRun
import Derived.ShutString
import Derived.ChangeOld
import Derived.Test.YtnlhpncaldcllaaGreatZBAD
set_option maxRecDepth 100000
namespace Go.Proofs.YtnlhpncaldcllaaGreat
open Go Go.RowKit
set_option maxRecDepth 10000
set_option linter.unusedVariables false
def MB:List (Nat×CF):=(107,ap mE)::(73,ap z9):: []
theorem Po:∀p∈MB,ab p.1 p.2:=ae gM<|ae mn fun p hp=>by cases hp
theorem PP:aq au (ai MB):=aA aj (aS Po)
set_option maxHeartbeats 8000000 in
theorem OR (p q r:List UInt8) (i j v:Int) (b:Bool) (hp:0≤v):vc au (ai MB) Tryz.f49.ntmps (ag Tryz.f49) ⟨al 0 [.agg [.rw 1000,.rw 1001,.rw 1002,.cv (.slice none 0 0),.ob .int i,.cv (.slice none 0 0),.ob .int j,.cv (.slice none 0 0),.cv (.slice none 0 0),.ob .bool b,.ob .int v]],aQ 1000 [.row 5 .u8 p,.row 5 .u8 q,.row 5 .u8 r],2000⟩ (bR au Tryz.f49.ntmps [.tmp 2] [.one (.sl 0 0 2 2)] [(0,.blk 26 [.rw 1,.rw 1002]),(1,.row 5 .u8 [UInt8.ofNat 1,UInt8.ofNat v.toNat])] [.row 5 .u8 p,.row 5 .u8 q,.row 5 .u8 r] []):=by
 exact ⟨hp,rfl,rfl,rfl,rfl,trivial⟩
def Fe:fB:=fun l cs=>match l,cs with
 | [.agg [.rw 1000,.rw 1001,.rw 1002,.cv (.slice none 0 0),.ob .int i,.cv (.slice none 0 0),.ob .int j,.cv (.slice none 0 0),.cv (.slice none 0 0),.ob .bool b,.ob .int v]],[.row 5 .u8 p,.row 5 .u8 q,.row 5 .u8 r]=>some ⟨[.one (.sl 0 0 2 2)],[(0,.blk 26 [.rw 1,.rw 1002]),(1,.row 5 .u8 [UInt8.ofNat 1,UInt8.ofNat v.toNat])],[],some (0≤v)⟩
 |_,_=>none
set_option maxHeartbeats 8000000 in
theorem Lj (p q r s u:List UInt8) (i j v:Int) (b:Bool) (hp:0≤v∧0≤j):vc au (ai MB) Tryz.f50.ntmps (ag Tryz.f50) ⟨al 0 [.agg [.rw 1000,.rw 1001,.rw 1002,.rw 1003,.ob .int i,.cv (.slice none 0 0),.ob .int j,.rw 1004,.cv (.slice none 0 0),.ob .bool b,.ob .int v]],aQ 1000 [.row 5 .u8 p,.row 5 .u8 q,.row 5 .u8 r,.row 5 .u8 s,.row 5 .u8 u],2000⟩ (bR au Tryz.f50.ntmps [.tmp 2] [.one (.sl 0 0 4 4)] [(0,.blk 26 [.rw 1,.sub 2 4 4,.rw 3,.rw 1004]),(1,.row 5 .u8 [UInt8.ofNat 2,UInt8.ofNat v.toNat]),(2,.row 5 .u8 (fD (UInt32.ofNat j.toNat).toUInt64)),(3,.row 5 .u8 [wW b])] [.row 5 .u8 p,.row 5 .u8 q,.row 5 .u8 r,.row 5 .u8 s,.row 5 .u8 u] []):=by
 exact ⟨hp.1,hp.2,rfl,rfl,rfl,rfl,rfl,rfl,rfl,rfl,trivial⟩
def xG:fB:=fun l cs=>match l,cs with
 | [.agg [.rw 1000,.rw 1001,.rw 1002,.rw 1003,.ob .int i,.cv (.slice none 0 0),.ob .int j,.rw 1004,.cv (.slice none 0 0),.ob .bool b,.ob .int v]],[.row 5 .u8 p,.row 5 .u8 q,.row 5 .u8 r,.row 5 .u8 s,.row 5 .u8 u]=>some ⟨[.one (.sl 0 0 4 4)],[(0,.blk 26 [.rw 1,.sub 2 4 4,.rw 3,.rw 1004]),(1,.row 5 .u8 [UInt8.ofNat 2,UInt8.ofNat v.toNat]),(2,.row 5 .u8 (fD (UInt32.ofNat j.toNat).toUInt64)),(3,.row 5 .u8 [wW b])],[],some (0≤v∧0≤j)⟩
 |_,_=>none
set_option maxHeartbeats 8000000 in
theorem Lk (p q r s t u:List UInt8) (i j v:Int) (b:Bool) (hp:0≤v∧0≤j):vc au (ai MB) Tryz.f50.ntmps (ag Tryz.f50) ⟨al 0 [.agg [.rw 1000,.rw 1001,.rw 1002,.rw 1003,.ob .int i,.rw 1004,.ob .int j,.rw 1005,.cv (.slice none 0 0),.ob .bool b,.ob .int v]],aQ 1000 [.row 5 .u8 p,.row 5 .u8 q,.row 5 .u8 r,.row 5 .u8 s,.row 5 .u8 t,.row 5 .u8 u],2000⟩ (bR au Tryz.f50.ntmps [.tmp 2] [.one (.sl 0 0 4 4)] [(0,.blk 26 [.rw 1,.sub 2 4 4,.rw 3,.rw 1005]),(1,.row 5 .u8 [UInt8.ofNat 2,UInt8.ofNat v.toNat]),(2,.row 5 .u8 (fD (UInt32.ofNat j.toNat).toUInt64)),(3,.row 5 .u8 [wW b])] [.row 5 .u8 p,.row 5 .u8 q,.row 5 .u8 r,.row 5 .u8 s,.row 5 .u8 t,.row 5 .u8 u] []):=by
 exact ⟨hp.1,hp.2,rfl,rfl,rfl,rfl,rfl,rfl,rfl,rfl,trivial⟩
def xH:fB:=fun l cs=>match l,cs with
 | [.agg [.rw 1000,.rw 1001,.rw 1002,.rw 1003,.ob .int i,.rw 1004,.ob .int j,.rw 1005,.cv (.slice none 0 0),.ob .bool b,.ob .int v]],[.row 5 .u8 p,.row 5 .u8 q,.row 5 .u8 r,.row 5 .u8 s,.row 5 .u8 t,.row 5 .u8 u]=>some ⟨[.one (.sl 0 0 4 4)],[(0,.blk 26 [.rw 1,.sub 2 4 4,.rw 3,.rw 1005]),(1,.row 5 .u8 [UInt8.ofNat 2,UInt8.ofNat v.toNat]),(2,.row 5 .u8 (fD (UInt32.ofNat j.toNat).toUInt64)),(3,.row 5 .u8 [wW b])],[],some (0≤v∧0≤j)⟩
 |_,_=>none
set_option maxHeartbeats 8000000 in
theorem za:ab 49 (iz Fe):=aW aj PP Tryz.func49 (by kernel_rfl) rfl (rs:= [.tmp 2]) Tryz.results49 fun l cs g h hp=>by
 unfold Fe at h
 split at h
 ·cases h
  exact ⟨Nat.le_of_ble_eq_true rfl,rfl,rfl,rfl,OR _ _ _ _ _ _ _ hp⟩
 ·cases h
theorem GV:sT au (ai MB) Tryz.f50.ntmps (ag Tryz.f50) [.tmp 2] xG:=fun l cs g h hp=>by
 unfold xG at h
 split at h
 ·cases h
  exact ⟨Nat.le_of_ble_eq_true rfl,rfl,rfl,rfl,Lj _ _ _ _ _ _ _ _ _ hp⟩
 ·cases h
theorem GW:sT au (ai MB) Tryz.f50.ntmps (ag Tryz.f50) [.tmp 2] xH:=fun l cs g h hp=>by
 unfold xH at h
 split at h
 ·cases h
  exact ⟨Nat.le_of_ble_eq_true rfl,rfl,rfl,rfl,Lk _ _ _ _ _ _ _ _ _ _ hp⟩
 ·cases h
def L2:fB:=Ny xG xH
theorem y_:ab 50 (iz L2):=aW aj PP Tryz.func50 (by kernel_rfl) rfl (rs:= [.tmp 2]) Tryz.results50 (sT.or GV GW)
def nX:List (Nat×CF):=(58,D_ z8)::(22,D_ mw)::(62,D_ w_)::(63,D_ EI)::(59,D_ qJ)::(60,wq [false,true] mH)::(49,D_ Fe)::(50,D_ L2)::DG
theorem MC:∀p∈nX,ab p.1 p.2:=ae lV.q<|ae nZ.q<|ae th.q<|ae wi.q<|ae p_.q<|ae oy<|ae za.q<|ae y_.q DH
theorem PQ:aq au (ai nX):=aA aj (aS MC)
def B0:Bn:=⟨[],[],[],[],0,[],0,[],[],false,0⟩
def NL (seed:List UInt8) (v:Int) (o k:List Bool) (a:Nat) (S P I M:List UInt8):Prop:=seed.length≤65536∧1≤v∧v≤2∧o.length≤1000∧k.length≤1000∧a=qA (bA seed)∧S=aM (bA seed)∧P=dV (bA seed)∧I=dI seed 1∧M=dI seed 2
def sE (o k:List Bool) (v n m:Int):Bool:=match decide (v=1) with |true=>gj o k n 0|false=>gj o k n m
theorem lJ {l:List Bool} {n:Int} (h:jf l n=false) (h0:0<n):n<l.length:=by
 rw [jf,decide_eq_true h0] at h
 by_cases e:(l.length:Int)≤n
 ·rw [decide_eq_true e] at h;exact absurd h Bool.noConfusion
 ·omega
theorem y8 {o k:List Bool} {n m:Int} (h:gj o k n m=false):jf o n=false:=by
 rw [gj] at h
 cases e:jf o n with
 |true=>rw [e] at h;exact absurd h Bool.noConfusion
 |false=>rfl
theorem GQ {o k:List Bool} {n m:Int} (h:gj o k n m=false):jf k m=false:=by
 rw [gj,y8 h] at h
 exact h
theorem F6 (seed:List UInt8) {n:Int} (h:decide (0<n)=true) (h2:n≤1000000):J7 seed n=aX 32 (dP (List.take 32 (List.drop 0 (aT seed (100+n)))) [9]).val:=by
 have:=of_decide_eq_true h
 rw [J7,h,fj seed (by omega) (by omega)]
 rfl
theorem uc {v m:Int} (b:Bool) (E:List UInt8) (h0:0≤m) (h1:m≤1000): [[UInt8.ofNat 2,UInt8.ofNat v.toNat],List.take 4 (List.drop 4 (fD (UInt32.ofNat m.toNat).toUInt64)),[wW b],E].flatten=xZ v m b E:=by
 rw [xZ,←Fu h0 h1]
 rfl
set_option maxHeartbeats 16000000 in
theorem CP (seed:List UInt8) (v:Int) (o k:List Bool) (a:Nat) (S P I M:List UInt8) (n m:Int) (h:decide (0≤n∧0≤m)=false):vc au (ai nX) Tryz.f19.ntmps (ag Tryz.f19) ⟨al 0 [.one (.ptr 1000 0),.one (.ob .int n),.one (.ob .int m)],aQ 1000 (j4 seed v o k a S P I M),2000⟩ (bR au Tryz.f19.ntmps [.cell 6 29,.tmp 7] [(B0).rv,.one (.ob .int 1)] (B0).us (j4 seed v o k a S P I M) []):=by
 have hv:=of_decide_eq_false h
 refine ⟨fun hz=>Bool.noConfusion hz,fun hz=>⟨fun h1=>⟨hz,h1,?_⟩,fun h1=>⟨hz,h1,fun h2=> ?_,fun h2=> ?_⟩⟩⟩
 ·exact ⟨rfl,rfl,rfl,rfl,rfl,rfl,rfl,rfl,rfl,rfl,rfl,rfl,trivial⟩
 ·exact ⟨rfl,rfl,rfl,rfl,rfl,rfl,rfl,rfl,rfl,rfl,rfl,rfl,trivial⟩
 ·exact absurd ⟨by have:=of_decide_eq_false h1;omega,by have:=of_decide_eq_false h2;omega⟩ hv
set_option maxHeartbeats 16000000 in
theorem Hb (seed:List UInt8) (v:Int) (o k:List Bool) (a:Nat) (S P I M:List UInt8) (n m:Int) (h0:decide (0≤n∧0≤m)=true) (h:sE o k v n m=true):vc au (ai nX) Tryz.f19.ntmps (ag Tryz.f19) ⟨al 0 [.one (.ptr 1000 0),.one (.ob .int n),.one (.ob .int m)],aQ 1000 (j4 seed v o k a S P I M),2000⟩ (bR au Tryz.f19.ntmps [.cell 6 29,.tmp 7] [(B0).rv,.one (.ob .int 13)] (B0).us (j4 seed v o k a S P I M) []):=by
 have hv:=of_decide_eq_true h0
 refine ⟨fun hz=>Bool.noConfusion hz,fun hz=>⟨fun h1=>absurd (of_decide_eq_true h1) (by omega),fun h1=>⟨hz,h1,fun h2=>absurd (of_decide_eq_true h2) (by omega),fun h2=>⟨fun h3=> ?_,fun h3=> ?_⟩⟩⟩⟩
 ·have e:gj o k n 0=true:=by rw [sE,h3] at h;exact h
  exact ⟨fun h4=>⟨rfl,rfl,rfl,rfl,rfl,rfl,rfl,rfl,rfl,rfl,rfl,rfl,trivial⟩,fun h4=>absurd (e.symm.trans h4) Bool.noConfusion⟩
 ·have e:gj o k n m=true:=by rw [sE,h3] at h;exact h
  exact ⟨fun h4=>⟨rfl,rfl,rfl,rfl,rfl,rfl,rfl,rfl,rfl,rfl,rfl,rfl,trivial⟩,fun h4=>absurd (e.symm.trans h4) Bool.noConfusion⟩
set_option maxHeartbeats 16000000 in
theorem G9 (seed:List UInt8) (v:Int) (o k:List Bool) (a:Nat) (S P I M:List UInt8) (n m:Int) (hk:NL seed v o k a S P I M) (h0:decide (0≤n∧0≤m)=true) (h5:decide (0<n)=true) (hv3:v=1) (e:gj o k n 0=false):vc au (ai nX) Tryz.f19.ntmps (ag Tryz.f19) ⟨al 0 [.one (.ptr 1000 0),.one (.ob .int n),.one (.ob .int m)],aQ 1000 (j4 seed v o k a S P I M),2000⟩ (bR au Tryz.f19.ntmps [.cell 6 29,.tmp 7] [(aE bB seed v n m).rv,.one (.ob .int 0)] (aE bB seed v n m).us (j4 seed v o k a S P I M) []):=by
 obtain ⟨hs,hv1,hv2,ho,hk,ha,hS,hP,hI,hM⟩:=hk
 have hv:=of_decide_eq_true h0
 have v0:0≤v:=by omega
 have P32:P.length=32:=by rw [hP,fp]
 have S64:S.length=64:=by rw [hS,cO]
 have PL:P.length≤16777216:=by omega
 have q1: [[UInt8.ofNat 1,UInt8.ofNat v.toNat],aX 32 (dP (List.take 32 (List.drop 0 M)) [9]).val].flatten.length≤8000000:=by
  rw [qd,List.length_append,ao];exact Nat.le_of_ble_eq_true rfl
 have e1:dV (bA seed)=P:=hP.symm
 have e2:f7 (mR seed)=aX 32 (dP (List.take 32 I) [9]).val:=by rw [hI];rfl
 have e3:f7 (mS seed)=aX 32 (dP (List.take 32 (List.drop 0 M)) [9]).val:=by rw [hM];rfl
 have e4:eP (bA seed) (BQ v (f7 (mS seed)))=H_ a S P [[UInt8.ofNat 1,UInt8.ofNat v.toNat],aX 32 (dP (List.take 32 (List.drop 0 M)) [9]).val].flatten:=by rw [ha,hS,hP,kF,e3];rfl
 have hn:=lJ (y8 e) (of_decide_eq_true h5)
 have n6:n≤1000000:=by omega
 refine ⟨fun hz=>Bool.noConfusion hz,fun hz=>⟨fun h1=>absurd (of_decide_eq_true h1) (by omega),fun h1=>⟨hz,h1,fun h2=>absurd (of_decide_eq_true h2) (by omega),fun h2=>⟨fun h3=>⟨fun h4=>absurd (e.symm.trans h4) Bool.noConfusion,fun h4=>⟨PL,v0,⟨P32,S64,q1⟩,?_⟩⟩,fun h3=>absurd hv3 (of_decide_eq_false h3)⟩⟩⟩⟩
 refine ⟨fun h6=>⟨⟨hs,hv.1,n6⟩,fun h7=>absurd (of_decide_eq_true h7) (by omega),fun h7=> ?_⟩,fun h6=>absurd (h5.symm.trans h6) Bool.noConfusion⟩
 have co:=F6 seed h5 n6
 have d2:decide (v=2)=false:=h7
 have c2: [(aE bB seed v n m).kemId]= [0]:=by show [BJ v m]=_;rw [BJ,d2]
 have c3: [(aE bB seed v n m).last]= [false]:=by show [BL v m]=_;rw [BL,d2]
 have ck:(aE bB seed v n m).kem= []:=by show xY bB seed v m=_;rw [xY,d2]
 have cs:(aE bB seed v n m).kemsig= []:=by show BK bB seed v m=_;rw [BK,d2]
 exact ⟨rfl,c2,c3,rfl,rfl,e1,e2,e3,e4,co,ck,cs,trivial⟩
set_option maxHeartbeats 16000000 in
theorem G8 (seed:List UInt8) (v:Int) (o k:List Bool) (a:Nat) (S P I M:List UInt8) (n m:Int) (hk:NL seed v o k a S P I M) (h0:decide (0≤n∧0≤m)=true) (h5:decide (0<n)=false) (hv3:v=1) (e:gj o k n 0=false):vc au (ai nX) Tryz.f19.ntmps (ag Tryz.f19) ⟨al 0 [.one (.ptr 1000 0),.one (.ob .int n),.one (.ob .int m)],aQ 1000 (j4 seed v o k a S P I M),2000⟩ (bR au Tryz.f19.ntmps [.cell 6 29,.tmp 7] [(aE bB seed v n m).rv,.one (.ob .int 0)] (aE bB seed v n m).us (j4 seed v o k a S P I M) []):=by
 obtain ⟨hs,hv1,hv2,ho,hk,ha,hS,hP,hI,hM⟩:=hk
 have hv:=of_decide_eq_true h0
 have v0:0≤v:=by omega
 have P32:P.length=32:=by rw [hP,fp]
 have S64:S.length=64:=by rw [hS,cO]
 have PL:P.length≤16777216:=by omega
 have q1: [[UInt8.ofNat 1,UInt8.ofNat v.toNat],aX 32 (dP (List.take 32 (List.drop 0 M)) [9]).val].flatten.length≤8000000:=by
  rw [qd,List.length_append,ao];exact Nat.le_of_ble_eq_true rfl
 have e1:dV (bA seed)=P:=hP.symm
 have e2:f7 (mR seed)=aX 32 (dP (List.take 32 I) [9]).val:=by rw [hI];rfl
 have e3:f7 (mS seed)=aX 32 (dP (List.take 32 (List.drop 0 M)) [9]).val:=by rw [hM];rfl
 have e4:eP (bA seed) (BQ v (f7 (mS seed)))=H_ a S P [[UInt8.ofNat 1,UInt8.ofNat v.toNat],aX 32 (dP (List.take 32 (List.drop 0 M)) [9]).val].flatten:=by rw [ha,hS,hP,kF,e3];rfl
 have hn0:=of_decide_eq_false h5
 refine ⟨fun hz=>Bool.noConfusion hz,fun hz=>⟨fun h1=>absurd (of_decide_eq_true h1) (by omega),fun h1=>⟨hz,h1,fun h2=>absurd (of_decide_eq_true h2) (by omega),fun h2=>⟨fun h3=>⟨fun h4=>absurd (e.symm.trans h4) Bool.noConfusion,fun h4=>⟨PL,v0,⟨P32,S64,q1⟩,?_⟩⟩,fun h3=>absurd hv3 (of_decide_eq_false h3)⟩⟩⟩⟩
 refine ⟨fun h6=>absurd (h5.symm.trans h6) Bool.noConfusion,fun h6=>⟨fun h7=>absurd (of_decide_eq_true h7) (by omega),fun h7=> ?_⟩⟩
 have co:J7 seed n= []:=by rw [J7,h5]
 have z0: [(aE bB seed v n m).onceId]= [0]:=by show [n]= [0];rw [show n=0 by omega]
 have d2:decide (v=2)=false:=h7
 have c2: [(aE bB seed v n m).kemId]= [0]:=by show [BJ v m]=_;rw [BJ,d2]
 have c3: [(aE bB seed v n m).last]= [false]:=by show [BL v m]=_;rw [BL,d2]
 have ck:(aE bB seed v n m).kem= []:=by show xY bB seed v m=_;rw [xY,d2]
 have cs:(aE bB seed v n m).kemsig= []:=by show BK bB seed v m=_;rw [BK,d2]
 exact ⟨z0,c2,c3,rfl,rfl,e1,e2,e3,e4,co,ck,cs,trivial⟩
set_option maxHeartbeats 16000000 in
theorem Ha (seed:List UInt8) (v:Int) (o k:List Bool) (a:Nat) (S P I M:List UInt8) (n m:Int) (hk:NL seed v o k a S P I M) (h0:decide (0≤n∧0≤m)=true) (h5:decide (0<n)=true) (hv3:v=2) (e:gj o k n m=false):vc au (ai nX) Tryz.f19.ntmps (ag Tryz.f19) ⟨al 0 [.one (.ptr 1000 0),.one (.ob .int n),.one (.ob .int m)],aQ 1000 (j4 seed v o k a S P I M),2000⟩ (bR au Tryz.f19.ntmps [.cell 6 29,.tmp 7] [(aE bB seed v n m).rv,.one (.ob .int 0)] (aE bB seed v n m).us (j4 seed v o k a S P I M) []):=by
 obtain ⟨hs,hv1,hv2,ho,hk,ha,hS,hP,hI,hM⟩:=hk
 have hv:=of_decide_eq_true h0
 have v0:0≤v:=by omega
 have P32:P.length=32:=by rw [hP,fp]
 have S64:S.length=64:=by rw [hS,cO]
 have PL:P.length≤16777216:=by omega
 have q1: [[UInt8.ofNat 1,UInt8.ofNat v.toNat],aX 32 (dP (List.take 32 (List.drop 0 M)) [9]).val].flatten.length≤8000000:=by
  rw [qd,List.length_append,ao];exact Nat.le_of_ble_eq_true rfl
 have e1:dV (bA seed)=P:=hP.symm
 have e2:f7 (mR seed)=aX 32 (dP (List.take 32 I) [9]).val:=by rw [hI];rfl
 have e3:f7 (mS seed)=aX 32 (dP (List.take 32 (List.drop 0 M)) [9]).val:=by rw [hM];rfl
 have e4:eP (bA seed) (BQ v (f7 (mS seed)))=H_ a S P [[UInt8.ofNat 1,UInt8.ofNat v.toNat],aX 32 (dP (List.take 32 (List.drop 0 M)) [9]).val].flatten:=by rw [ha,hS,hP,kF,e3];rfl
 have hn:=lJ (y8 e) (of_decide_eq_true h5)
 have n6:n≤1000000:=by omega
 refine ⟨fun hz=>Bool.noConfusion hz,fun hz=>⟨fun h1=>absurd (of_decide_eq_true h1) (by omega),fun h1=>⟨hz,h1,fun h2=>absurd (of_decide_eq_true h2) (by omega),fun h2=>⟨fun h3=>absurd (of_decide_eq_true h3) (by omega),fun h3=>⟨fun h4=>absurd (e.symm.trans h4) Bool.noConfusion,fun h4=>⟨PL,v0,⟨P32,S64,q1⟩,?_⟩⟩⟩⟩⟩⟩
 have hm1:=fun h=>lJ (GQ e) (n:=m) h
 refine ⟨fun h6=>⟨⟨hs,hv.1,n6⟩,fun h7=> ?_,fun h7=>absurd hv3 (of_decide_eq_false h7)⟩,fun h6=>absurd (h5.symm.trans h6) Bool.noConfusion⟩
 have co:=F6 seed h5 n6
 have d2:decide (v=2)=true:=h7
 have m6:m≤1000:=by
  by_cases hm:0<m
  ·have:=hm1 hm;omega
  ·omega
 have c2: [(aE bB seed v n m).kemId]= [m]:=by show [BJ v m]=_;rw [BJ,d2]
 have c3: [(aE bB seed v n m).last]= [decide (m=0)]:=by show [BL v m]=_;rw [BL,d2]
 have ck:(aE bB seed v n m).kem=bB (dz seed m).1:=by show xY bB seed v m=_;rw [xY,d2]
 have et:=uc (v:=v) (decide (m=0)) (bB (dz seed m).1) hv.2 m6
 have q2: [[UInt8.ofNat 2,UInt8.ofNat v.toNat],List.take 4 (List.drop 4 (fD (UInt32.ofNat m.toNat).toUInt64)),[wW (decide (m=0))],bB (dz seed m).1].flatten.length≤8000000:=by rw [et,ub,eN];decide
 have cs:(aE bB seed v n m).kemsig=H_ a S P [[UInt8.ofNat 2,UInt8.ofNat v.toNat],List.take 4 (List.drop 4 (fD (UInt32.ofNat m.toNat).toUInt64)),[wW (decide (m=0))],bB (dz seed m).1].flatten:=by
  show BK bB seed v m=_
  rw [BK,d2,ha,hS,hP,kF,et]
 exact ⟨⟨hs,hv.2,by show m≤1000000;omega⟩,⟨v0,hv.2⟩,⟨P32,S64,q2⟩,rfl,c2,c3,rfl,rfl,e1,e2,e3,e4,co,ck,cs,trivial⟩
set_option maxHeartbeats 16000000 in
theorem G_ (seed:List UInt8) (v:Int) (o k:List Bool) (a:Nat) (S P I M:List UInt8) (n m:Int) (hk:NL seed v o k a S P I M) (h0:decide (0≤n∧0≤m)=true) (h5:decide (0<n)=false) (hv3:v=2) (e:gj o k n m=false):vc au (ai nX) Tryz.f19.ntmps (ag Tryz.f19) ⟨al 0 [.one (.ptr 1000 0),.one (.ob .int n),.one (.ob .int m)],aQ 1000 (j4 seed v o k a S P I M),2000⟩ (bR au Tryz.f19.ntmps [.cell 6 29,.tmp 7] [(aE bB seed v n m).rv,.one (.ob .int 0)] (aE bB seed v n m).us (j4 seed v o k a S P I M) []):=by
 obtain ⟨hs,hv1,hv2,ho,hk,ha,hS,hP,hI,hM⟩:=hk
 have hv:=of_decide_eq_true h0
 have v0:0≤v:=by omega
 have P32:P.length=32:=by rw [hP,fp]
 have S64:S.length=64:=by rw [hS,cO]
 have PL:P.length≤16777216:=by omega
 have q1: [[UInt8.ofNat 1,UInt8.ofNat v.toNat],aX 32 (dP (List.take 32 (List.drop 0 M)) [9]).val].flatten.length≤8000000:=by
  rw [qd,List.length_append,ao];exact Nat.le_of_ble_eq_true rfl
 have e1:dV (bA seed)=P:=hP.symm
 have e2:f7 (mR seed)=aX 32 (dP (List.take 32 I) [9]).val:=by rw [hI];rfl
 have e3:f7 (mS seed)=aX 32 (dP (List.take 32 (List.drop 0 M)) [9]).val:=by rw [hM];rfl
 have e4:eP (bA seed) (BQ v (f7 (mS seed)))=H_ a S P [[UInt8.ofNat 1,UInt8.ofNat v.toNat],aX 32 (dP (List.take 32 (List.drop 0 M)) [9]).val].flatten:=by rw [ha,hS,hP,kF,e3];rfl
 have hn0:=of_decide_eq_false h5
 refine ⟨fun hz=>Bool.noConfusion hz,fun hz=>⟨fun h1=>absurd (of_decide_eq_true h1) (by omega),fun h1=>⟨hz,h1,fun h2=>absurd (of_decide_eq_true h2) (by omega),fun h2=>⟨fun h3=>absurd (of_decide_eq_true h3) (by omega),fun h3=>⟨fun h4=>absurd (e.symm.trans h4) Bool.noConfusion,fun h4=>⟨PL,v0,⟨P32,S64,q1⟩,?_⟩⟩⟩⟩⟩⟩
 have hm1:=fun h=>lJ (GQ e) (n:=m) h
 refine ⟨fun h6=>absurd (h5.symm.trans h6) Bool.noConfusion,fun h6=>⟨fun h7=> ?_,fun h7=>absurd hv3 (of_decide_eq_false h7)⟩⟩
 have co:J7 seed n= []:=by rw [J7,h5]
 have z0: [(aE bB seed v n m).onceId]= [0]:=by show [n]= [0];rw [show n=0 by omega]
 have d2:decide (v=2)=true:=h7
 have m6:m≤1000:=by
  by_cases hm:0<m
  ·have:=hm1 hm;omega
  ·omega
 have c2: [(aE bB seed v n m).kemId]= [m]:=by show [BJ v m]=_;rw [BJ,d2]
 have c3: [(aE bB seed v n m).last]= [decide (m=0)]:=by show [BL v m]=_;rw [BL,d2]
 have ck:(aE bB seed v n m).kem=bB (dz seed m).1:=by show xY bB seed v m=_;rw [xY,d2]
 have et:=uc (v:=v) (decide (m=0)) (bB (dz seed m).1) hv.2 m6
 have q2: [[UInt8.ofNat 2,UInt8.ofNat v.toNat],List.take 4 (List.drop 4 (fD (UInt32.ofNat m.toNat).toUInt64)),[wW (decide (m=0))],bB (dz seed m).1].flatten.length≤8000000:=by rw [et,ub,eN];decide
 have cs:(aE bB seed v n m).kemsig=H_ a S P [[UInt8.ofNat 2,UInt8.ofNat v.toNat],List.take 4 (List.drop 4 (fD (UInt32.ofNat m.toNat).toUInt64)),[wW (decide (m=0))],bB (dz seed m).1].flatten:=by
  show BK bB seed v m=_
  rw [BK,d2,ha,hS,hP,kF,et]
 exact ⟨⟨hs,hv.2,by show m≤1000000;omega⟩,⟨v0,hv.2⟩,⟨P32,S64,q2⟩,z0,c2,c3,rfl,rfl,e1,e2,e3,e4,co,ck,cs,trivial⟩
def Kr (B:Bn) (e:Int) (p:Option Prop):GD:= .ok ⟨[B.rv,.one (.ob .int e)],B.us,[],p⟩
def EK:Mr:=fun l cs=>match l,cs with
 | [.one (.cv (.pointer none)),.one (.ob .int _),.one (.ob .int _)],[]=>Kr B0 1 none
 | [.one (.ptr 1000 0),.one (.ob .int n),.one (.ob .int m)],[.blk 84 [.rw 1001,.ob .int v,.ptr 1002 0,.sub 1003 0 32,.sub 1004 0 32,.rw 1005,.rw 1006],.row 5 .u8 seed,.blk 157 [.ob (.x 2) a,.sub 1007 32 32,.rw 1008],.row 5 .u8 I,.row 5 .u8 M,.row 4 .bool o,.row 4 .bool k,.row 5 .u8 S,.row 5 .u8 P]=> .dec (decide (0≤n∧0≤m)) (.dec (sE o k v n m) (Kr B0 13 none) (Kr (aE bB seed v n m) 0 (some (NL seed v o k a S P I M)))) (Kr B0 1 none)
 |_,_=> .no
set_option maxHeartbeats 8000000 in
theorem CQ (n m:Int):vc au (ai nX) Tryz.f19.ntmps (ag Tryz.f19) ⟨al 0 [.one (.cv (.pointer none)),.one (.ob .int n),.one (.ob .int m)],aQ 1000 [],2000⟩ (bR au Tryz.f19.ntmps [.cell 6 29,.tmp 7] [(B0).rv,.one (.ob .int 1)] (B0).us [] []):=by
 exact ⟨fun h=>⟨h,rfl,rfl,rfl,rfl,rfl,rfl,rfl,rfl,rfl,rfl,rfl,rfl,trivial⟩,fun h=>Bool.noConfusion h⟩
theorem Ow (seed:List UInt8) (v:Int) (o k:List Bool) (a:Nat) (S P I M:List UInt8) (n m:Int) (hk:NL seed v o k a S P I M) (h0:decide (0≤n∧0≤m)=true) (h:sE o k v n m=false):vc au (ai nX) Tryz.f19.ntmps (ag Tryz.f19) ⟨al 0 [.one (.ptr 1000 0),.one (.ob .int n),.one (.ob .int m)],aQ 1000 (j4 seed v o k a S P I M),2000⟩ (bR au Tryz.f19.ntmps [.cell 6 29,.tmp 7] [(aE bB seed v n m).rv,.one (.ob .int 0)] (aE bB seed v n m).us (j4 seed v o k a S P I M) []):=by
 cases h5:decide (0<n) with
 |true=>
  by_cases hv:v=1
  ·exact G9 _ _ _ _ _ _ _ _ _ _ _ hk h0 h5 hv (by rw [sE,decide_eq_true hv] at h;exact h)
  ·exact Ha _ _ _ _ _ _ _ _ _ _ _ hk h0 h5 (by have:=hk.2.1;have:=hk.2.2.1;omega) (by rw [sE,decide_eq_false hv] at h;exact h)
 |false=>
  by_cases hv:v=1
  ·exact G8 _ _ _ _ _ _ _ _ _ _ _ hk h0 h5 hv (by rw [sE,decide_eq_true hv] at h;exact h)
  ·exact G_ _ _ _ _ _ _ _ _ _ _ _ hk h0 h5 (by have:=hk.2.1;have:=hk.2.2.1;omega) (by rw [sE,decide_eq_false hv] at h;exact h)
set_option maxHeartbeats 8000000 in
theorem wl:ab 19 (MR EK):=oJ aj PQ Tryz.func19 (by kernel_rfl) rfl (rs:= [.cell 6 29,.tmp 7]) Tryz.results19 fun l cs g h hp=>by
 unfold EK at h
 split at h
 ·cases h
  exact ⟨Nat.le_of_ble_eq_true rfl,rfl,rfl,rfl,CQ _ _⟩
 ·rcases h with ⟨h1,⟨h2,h3⟩|⟨h2,h3⟩⟩|⟨h1,h3⟩
  ·cases h3
   exact ⟨Nat.le_of_ble_eq_true rfl,rfl,rfl,rfl,Hb _ _ _ _ _ _ _ _ _ _ _ h1 h2⟩
  ·cases h3
   exact ⟨Nat.le_of_ble_eq_true rfl,rfl,rfl,rfl,Ow _ _ _ _ _ _ _ _ _ _ _ hp h1 h2⟩
  ·cases h3
   exact ⟨Nat.le_of_ble_eq_true rfl,rfl,rfl,rfl,CP _ _ _ _ _ _ _ _ _ _ _ h1⟩
 ·cases h
set_option maxRecDepth 10000
set_option linter.unusedVariables false
theorem Ky {k n:Int} (hn:0<n) (h:k.tmod n<0):k.tmod n+n=k%n:=by
 have h1:=Int.tmod_eq_emod (a:=k) (b:=n)
 have h2:=Int.emod_nonneg k (show n≠0 by omega)
 have h3:(n.natAbs:Int)=n:=by omega
 generalize k%n=r at*
 generalize k.tmod n=t at*
 split at h1<;>omega
theorem Kz {k n:Int} (hn:0<n) (h:¬k.tmod n<0):k.tmod n=k%n:=by
 have h1:=Int.tmod_eq_emod (a:=k) (b:=n)
 have h2:=Int.emod_lt_of_pos k hn
 have h3:(n.natAbs:Int)=n:=by omega
 generalize k%n=r at*
 generalize k.tmod n=t at*
 split at h1<;>omega
set_option maxHeartbeats 1000000 in
theorem Kx {k n:Int} {w:World} (hn:0<n) (hn2:n≤4611686018427387904):Calls Tryz.prog 21 #[.int .i64 k,.int .i64 n] w fun e w'=>e= .returned (.int .i64 (k%n))∧w=w':=by
 have hz:n≠0:=by omega
 by_cases ht:k.tmod n<0
 ·have hd:decide (k.tmod n<0)=true:=decide_eq_true ht
  have hlo: -n<k.tmod n:=Int.lt_tmod_of_pos k hn
  have HE:=Lib.hid (Ky hn ht)
  have hw:IntKind.i64.wrap (k.tmod n+n)=k.tmod n+n:=by rw [IntKind.wrap_i64];omega
  obtain ⟨t,hte⟩:∃t,k.tmod n=t:=⟨_,rfl⟩
  rw [hte] at hd hlo HE hw ht
  go_enter Tryz.func21,Tryz.ntmps21
  go_wp2
  go_ret
  rw [←HE.out]
  exact ⟨rfl,rfl⟩
 ·have hd:decide (k.tmod n<0)=false:=decide_eq_false ht
  have HE:=Lib.hid (Kz hn ht)
  obtain ⟨t,hte⟩:∃t,k.tmod n=t:=⟨_,rfl⟩
  rw [hte] at hd HE ht
  go_enter Tryz.func21,Tryz.ntmps21
  go_wp2
  go_ret
  rw [←HE.out]
  exact ⟨rfl,rfl⟩
def q6:GF:=fun l=>match l with
 | [.one (.ob .int z),.one (.ob .int n)]=>some ⟨[.one (.ob .int (z%n))],[],some (0<n∧n≤(4611686018427387904:Int))⟩
 |_=>none
theorem kW:ab 21 (ap q6):=aN Tryz.func21 (by kernel_rfl) rfl fun l g h hp=>by
 unfold q6 at h
 split at h
 ·rename_i z n
  cases h
  refine ⟨rfl,rfl,fun η w vs ⟨v1,t1,e1,h1,v2,t2,e2,h2,e3⟩=> ?_⟩
  subst e3 e2 e1
  cases List.singleton_inj.1 (show [v1]= [_] from h1)
  cases List.singleton_inj.1 (show [v2]= [_] from h2)
  exact (Kx (k:=z) (n:=n) hp.1 hp.2).mono fun e w' ⟨he,hb⟩=>⟨_,he,by subst hb;exact Below.refl _ _,fun _ _=>rfl⟩
 ·cases h
def RX:List (Nat×CF):= [(21,ap q6)]
theorem Pv:∀p∈RX,ab p.1 p.2:=ae kW fun p hp=>by cases hp
theorem Sh:aq bF (ai RX):=aA aG (aS Pv)
def Sm (t:Int) (i:Nat):UInt8:=UInt8.ofNat (((i:Int)*i+t*7+1)%251).toNat
def oI (n:Nat) (t:Int) (i:Nat):List UInt8:=(List.range n).map fun j=>if j<i then Sm t j else 0
def LV (n:Nat) (t:Int):List UInt8:=(List.range n).map (Sm t)
theorem P3 (n:Nat) (t:Int):oI n t 0=List.replicate n 0:=by
 refine List.ext_getElem (by simp [oI]) fun i h1 h2=> ?_
 simp [oI]
theorem zD (n:Nat) (t:Int) (i:Nat):(oI n t i).length=n:=by simp [oI]
theorem IJ (n:Nat) (t:Int):(LV n t).length=n:=by simp [LV]
theorem P4 (n:Nat) (t:Int):oI n t n=LV n t:=by
 refine List.ext_getElem (by simp [oI,LV]) fun i h1 h2=> ?_
 have:i<n:=by simpa [oI] using h1
 simp [oI,LV,this]
theorem IK {n:Nat} (t:Int) {i:Nat} (h:i<n):oI n t (i+1)=(oI n t i).set i (Sm t i):=by
 refine List.ext_getElem (by simp [oI]) fun j h1 h2=> ?_
 rw [List.getElem_set]
 by_cases e:i=j
 ·subst e;simp [oI]
 ·by_cases k:j<i
  ·simp [oI,e,k,show j<i+1 by omega]
  ·simp [oI,e,k,show ¬j<i+1 by omega]
theorem P5 {i:Nat} {t:Int} (h:i≤1000) (t0:0≤t) (t1:t≤1000000):jm ((i:Int)*i)∧jm (t*7)∧jm ((i:Int)*i+t*7)∧jm ((i:Int)*i+t*7+1)∧0≤((i:Int)*i+t*7+1)%251∧jm ((i:Int)+1):=by
 have h1:(i:Int)*i≤1000*1000:=Int.mul_le_mul (by omega) (by omega) (by omega) (by omega)
 have h0:0≤(i:Int)*i:=Int.mul_nonneg (by omega) (by omega)
 generalize (i:Int)*i=q at*
 exact ⟨⟨by omega,by omega⟩,⟨by omega,by omega⟩,⟨by omega,by omega⟩,⟨by omega,by omega⟩,by omega,⟨by omega,by omega⟩⟩
theorem Hd (n t:Int) (hp:0≤n∧n≤1000∧0≤t∧t≤1000000):vc bF (ai RX) Tryz.f36.ntmps (ag Tryz.f36) ⟨al 0 [.one (.ob .int n),.one (.ob .int t)],[],2000⟩ (aD bF Tryz.f36.ntmps [.tmp 4] [.one (.rw 0)] [(0,.row 5 .u8 (LV n.toNat t))]):=by
 obtain ⟨n0,n1,t0,t1⟩:=hp
 have em:max n (0:Int)=n:=Int.max_eq_left n0
 refine ⟨⟨?_,rfl,?_⟩,?_⟩
 ·show (0:Int)≤max n (0:Int)
  rw [em];exact n0
 ·show max n (0:Int)≤16777216
  rw [em];omega
 refine Or.inr ⟨{i:Nat // i≤n.toNat},fun i=>⟨[(6,.one (.ob .int (i.1:Int)))],[(2048,.row 5 .u8 (oI n.toNat t i.1))]⟩,fun i=>n.toNat-i.1,⟨0,Nat.zero_le _⟩,?_⟩
 refine ⟨rfl,?_,fun i=> ?_⟩
 ·show oI n.toNat t 0=List.replicate (max n (0:Int)).toNat 0
  rw [em,P3]
 ·obtain ⟨i,hi⟩:=i
  intro hl
  refine ⟨fun h=> ?_,fun h=> ?_⟩
  ·have hln:=zD n.toNat t i
   have h:(i:Int)<((oI n.toNat t i).length:Int):=of_decide_eq_true h
   have hi2:i<n.toNat:=by omega
   obtain ⟨p1,p2,p3,p4,p5,p6⟩:=P5 (i:=i) (t:=t) (by omega) t0 t1
   refine ⟨p1,p2,p3,p4,⟨by decide,by decide⟩,p5,⟨Int.natCast_nonneg _,h⟩,(by show ((i:Int)).toNat<(oI n.toNat t i).length;omega),p6,⟨i+1,hi2⟩,?_,rfl,?_,trivial⟩
   ·show n.toNat-(i+1)<n.toNat-i
    omega
   ·exact IK t hi2
  ·have hln:=zD n.toNat t i
   have h:¬(i:Int)<((oI n.toNat t i).length:Int):=of_decide_eq_false h
   obtain rfl:i=n.toNat:=by omega
   exact ⟨(P4 _ _).symm,trivial⟩
def qK:GF:=fun l=>match l with
 | [.one (.ob .int n),.one (.ob .int k)]=>some ⟨[.one (.rw 0)],[(0,.row 5 .u8 (LV n.toNat k))],some (0≤n∧n≤(1000:Int)∧0≤k∧k≤(1000000:Int))⟩
 |_=>none
theorem p9:ab 36 (ap qK):=af aG Sh Tryz.func36 (by kernel_rfl) rfl (rs:= [.tmp 4]) Tryz.results36 fun l g h hp=>by
 unfold qK at h
 split at h
 ·cases h;exact ⟨Nat.le_of_ble_eq_true rfl,rfl,rfl,rfl,Hd _ _ hp⟩
 ·cases h
set_option maxRecDepth 10000
set_option linter.unusedVariables false
def Il:List (Nat×CF):= [(21,ap q6),(36,ap qK)]
theorem DI:∀p∈Il,ab p.1 p.2:=ae kW<|ae p9 fun p hp=>by cases hp
theorem PR:aq au (ai Il):=aA aj (aS DI)
def bD (n:Int):List UInt8:=LV 32 (n%1000)
theorem iq (n:Int):(bD n).length=32:=IJ _ _
theorem OP (n:Int):vc au (ai Il) Tryz.f13.ntmps (ag Tryz.f13) ⟨al 0 [.one (.ob .int n)],[],2000⟩ (aD au Tryz.f13.ntmps [.tmp 2] [.one (.rw 0)] [(0,.row 5 .u8 (bD n))]):=by
 have b1:(0:Int)≤32∧(32:Int)≤1000∧0≤n%1000∧n%1000≤1000000:=by omega
 exact ⟨⟨by decide,by decide⟩,b1,rfl,trivial⟩
def Fc:GF:=fun l=>match l with
 | [.one (.ob .int n)]=>some ⟨[.one (.rw 0)],[(0,.row 5 .u8 (bD n))],none⟩
 |_=>none
theorem vl:ab 13 (ap Fc):=af aj PR Tryz.func13 (by kernel_rfl) rfl (rs:= [.tmp 2]) Tryz.results13 fun l g h hp=>by
 unfold Fc at h
 split at h
 ·cases h;exact ⟨Nat.le_of_ble_eq_true rfl,rfl,rfl,rfl,OP _⟩
 ·cases h
def Im:List (Nat×CF):=(13,ap Fc)::(18,P7 EJ)::(19,P7 EK)::(16,SR (ap Fg))::Il
theorem DJ:∀p∈Im,ab p.1 p.2:=ae vl<|ae wk.e<|ae wl.e<|ae zj.m DI
theorem PS:aq au (ai Im):=aA aj (aS DJ)
theorem Ag {seed:List UInt8} {v n:Int} (hs:seed.length=32) (h:1≤v∧v≤2∧0≤n∧n≤10):NL seed v (Pa n) (L_ v n) (qA (bA seed)) (aM (bA seed)) (dV (bA seed)) (dI seed 1) (dI seed 2):=by
 refine ⟨by omega,h.1,h.2.1,?_,?_,rfl,rfl,rfl,rfl,rfl⟩
 ·rw [Pa,List.length_replicate];omega
 ·rw [L_]
  split
  ·rw [Pa,List.length_replicate];omega
  ·decide
set_option maxHeartbeats 4000000 in
theorem KU:vc au (ai Im) Tryz.f11.ntmps (ag Tryz.f11) ⟨al 0 [],[],2000⟩ (aD au Tryz.f11.ntmps [.tmp 0] [.one (.ob .bool true)] []):=by
 have hr:(1:Int)≤2∧(2:Int)≤2∧(0:Int)≤1∧(1:Int)≤10:=by decide
 refine ⟨fun h0=> ?_,fun h0=>absurd hr (of_decide_eq_false h0)⟩
 refine ⟨h0,iq 1,fun h1=>absurd rfl (of_decide_eq_true h1),fun h1=>⟨h1,fun h2=>absurd rfl (of_decide_eq_true h2),fun h2=>⟨fun h3=>⟨fun h4=>Bool.noConfusion h4,fun h4=> ?_⟩,fun h3=>absurd ⟨by decide,by decide⟩ (of_decide_eq_false h3)⟩⟩⟩
 refine ⟨h3,h4,Ag (iq 1) hr,fun h5=>⟨fun h6=>⟨fun h7=> ?_,fun h7=> ?_⟩,fun h6=> ?_⟩,fun h5=>absurd rfl (of_decide_eq_false h5)⟩
 ·refine ⟨fun h8=> ?_,fun h8=>absurd (by show ((bB _).length:Int)=1184;rw [eN];rfl) (of_decide_eq_false h8)⟩
  refine ⟨h5,h6,h7,h8,fun _=>⟨?_,trivial⟩⟩
  show [true]= [decide (aU (aE bB (bD 1) 2 1 0) 2=0)]
  rw [C7 ST _ ⟨by decide,by decide,by decide,by decide,by decide,by decide⟩ (by decide)]
  rfl
 ·exact absurd rfl (of_decide_eq_false h7)
 ·exact Bool.noConfusion h6
def wZ:GF:=fun l=>match l with
 | []=>some ⟨[.one (.ob .bool true)],[],none⟩
 |_=>none
theorem ta:ab 11 (ap wZ):=af aj PS Tryz.func11 (by kernel_rfl) rfl (rs:= [.tmp 0]) Tryz.results11 fun l g h hp=>by
 unfold wZ at h
 split at h
 ·cases h;exact ⟨Nat.le_of_ble_eq_true rfl,rfl,rfl,rfl,KU⟩
 ·cases h
def In:List (Nat×CF):=(11,ap wZ)::Im
theorem DK:∀p∈In,ab p.1 p.2:=ae ta DJ
theorem PT:aq au (ai In):=aA aj (aS DK)
theorem pZ {B:Bn} (h:bZ B=false):B.sign.length=32∧B.ident.length=32∧B.medium.length=32∧B.medsig.length=64∧0≤B.onceId∧(B.once.length:Int)=gU B∧gQ B=true:=by
 rw [bZ] at h
 by_cases h1:(B.sign.length:Int)=32
 ·rw [decide_eq_true h1] at h
  by_cases h2:(B.ident.length:Int)=32
  ·rw [decide_eq_true h2] at h
   simp only [Bool.or_eq_false_iff,Bool.not_eq_false',decide_eq_true_eq,decide_eq_false_iff_not,Decidable.not_not] at h
   obtain ⟨⟨⟨⟨h3,h4⟩,h5⟩,h6⟩,h7⟩:=h
   exact ⟨by omega,by omega,by omega,by omega,by omega,h6,h7⟩
  ·rw [decide_eq_false h2] at h;exact absurd h Bool.noConfusion
 ·rw [decide_eq_false h1] at h;exact absurd h Bool.noConfusion
theorem cZ {B:Bn} (h:¬(B.sign.length=32∧B.ident.length=32∧B.medium.length=32∧B.medsig.length=64∧0≤B.onceId∧(B.once.length:Int)=gU B∧gQ B=true)) (least:Int):aU B least=1:=by
 cases e:bZ B with
 |true=>rw [aU,e]
 |false=>exact absurd (pZ e) h
set_option maxRecDepth 10000
set_option linter.unusedVariables false
def jp (m:Bool) (l:List UInt8):List UInt8:=match m with |true=>l++ [0]|false=>l.take (l.length-1)
theorem fI {l:List UInt8} (m:Bool) (h:0<l.length):(jp m l).length≠l.length:=by
 unfold jp
 split
 ·rw [List.length_append];simp
 ·rw [List.length_take];omega
theorem sw {B:Bn} (h:gQ B=true) (hv:B.version=2):B.kem.length=1184∧B.kemsig.length=64∧B.last=decide (B.kemId=0):=by
 rw [gQ,hv,show decide ((2:Int)=1)=false from rfl] at h
 simp only [Bool.and_eq_true,decide_eq_true_eq,beq_iff_eq] at h
 exact ⟨by omega,by omega,h.2⟩
theorem KH {B:Bn} (h:gQ B=true) (hv:B.version=2):B.kem.length=1184:=(sw h hv).1
theorem yY {B:Bn} (h:gQ B=true) (hv:B.version=2):B.kemsig.length=64:=(sw h hv).2.1
theorem GN {B:Bn} (h:gQ B=true) (hv:B.version=2):B.last=decide (B.kemId=0):=(sw h hv).2.2
theorem Rb (l:List UInt8) (m:Bool) (hl:l.length≤2000):vc au (ai In) Tryz.f20.ntmps (ag Tryz.f20) ⟨al 0 [.one (.rw 1000),.one (.ptr 1001 0)],aQ 1000 [.row 5 .u8 l,.blk 4 [.ob .bool m]],2000⟩ (bR au Tryz.f20.ntmps [.tmp 3] [.one (.rw 0)] [(0,.row 5 .u8 (jp m l))] [.row 5 .u8 l,.blk 4 [.ob .bool m]] []):=by
 refine ⟨fun h0=> ?_,fun h0=> ?_⟩
 ·have hm:m=true:=h0
  subst hm
  exact ⟨by show ([]++l).length≤16777216;simp;omega,by show ([]++l++ [UInt8.ofNat 0]).length≤16777216;simp;omega,rfl,trivial⟩
 ·have hm:m=false:=h0
  subst hm
  refine ⟨⟨by omega,by omega⟩,⟨⟨by show (0:Int)≤max ((l.length:Int)-1) 0;omega,by show max ((l.length:Int)-1) 0≤(l.length:Nat);omega⟩,trivial⟩,?_,fun _=>⟨?_,trivial⟩⟩
  ·show ([]++List.take _ _).length≤16777216
   rw [List.nil_append,List.length_take,List.length_drop];omega
  ·show jp false l= []++List.take ((max ((l.length:Int)-1) 0).toNat-0) (List.drop 0 l)
   rw [List.nil_append,List.drop_zero,jp,show (max ((l.length:Int)-1) 0).toNat-0=l.length-1 by omega]
def Nv:fB:=fun l cs=>match l,cs with
 | [.one (.rw 1000),.one (.ptr 1001 0)],[.row 5 .u8 l,.blk 4 [.ob .bool m]]=>some ⟨[.one (.rw 0)],[(0,.row 5 .u8 (jp m l))],[],some (l.length≤2000)⟩
 |_,_=>none
theorem Br:ab 20 (iz Nv):=aW aj PT Tryz.func20 (by kernel_rfl) rfl (rs:= [.tmp 3]) Tryz.results20 fun l cs g h hp=>by
 unfold Nv at h
 split at h
 ·cases h;exact ⟨Nat.le_of_ble_eq_true rfl,rfl,rfl,rfl,Rb _ _ hp⟩
 ·cases h
def MD:List (Nat×CF):=(20,D_ Nv)::In
theorem ME:∀p∈MD,ab p.1 p.2:=ae Br.q DK
theorem PU:aq au (ai MD):=aA aj (aS ME)
set_option maxHeartbeats 8000000 in
theorem Ho (n what:Int) (m:Bool):vc au (ai MD) Tryz.f5.ntmps (ag Tryz.f5) ⟨al 0 [.one (.ob .int n),.one (.ob .int what),.one (.ob .bool m)],[],2000⟩ (aD au Tryz.f5.ntmps [.tmp 6] [.one (.ob .bool true)] []):=by
 have hr:(1:Int)≤2∧(2:Int)≤2∧(0:Int)≤1∧(1:Int)≤10:=by decide
 refine ⟨fun h0=>⟨h0,iq n,fun h1=>absurd rfl (of_decide_eq_true h1),fun h1=>⟨h1,fun h2=>⟨fun h3=>Bool.noConfusion h3,fun h3=> ?_⟩,fun h2=>absurd ⟨by decide,by decide⟩ (of_decide_eq_false h2)⟩⟩,fun h0=>absurd hr (of_decide_eq_false h0)⟩
 have l1:(aE bB (bD n) 2 1 1).sign.length=32:=fp _
 have l9:(aE bB (bD n) 2 1 1).kemsig.length=64:=im _ _
 refine ⟨h2,h3,Ag (iq n) hr,fun h4=>absurd (by rw [l1];rfl) (of_decide_eq_true h4),fun h4=> ?_⟩
 refine ⟨h4,fun _ _=>⟨fun h5=>absurd (by rw [l9];rfl) (of_decide_eq_true h5),fun h5=> ?_⟩⟩
 have g:=pq ST (bD n) (v:=2) (n:=1) (m:=1) ⟨by decide,by decide,by decide,by decide,by decide,by decide⟩
 obtain ⟨-,l2,l3,l4, -,l6, -⟩:=pZ g
 have l7:(aE bB (bD n) 2 1 1).kem.length=1184:=eN _
 have l5:((aE bB (bD n) 2 1 1).once.length:Int)=gU (aE bB (bD n) 2 1 1):=l6
 have l5':(aE bB (bD n) 2 1 1).once.length=32:=by have:gU (aE bB (bD n) 2 1 1)=32:=rfl;omega
 have l8:gQ (aE bB (bD n) 2 1 1)=true:=(pZ g).2.2.2.2.2.2
 refine ⟨⟨by decide,by decide⟩,?_⟩
 refine ⟨fun w0=> ?_,fun w0=> ?_⟩
 ·have hx:∀k,aU {(aE bB (bD n) 2 1 1) with sign:=jp m (aE bB (bD n) 2 1 1).sign} k=1:=fun k=>cZ (fun hh=>fI m (by omega) (hh.1.trans l1.symm)) k
  exact ⟨by omega,fun h7=>⟨fun h8=>⟨h7,h8,rfl,trivial⟩,fun h8=>absurd (hx 5) (of_decide_eq_false h8)⟩,fun h7=>absurd (hx 1) (of_decide_eq_false h7)⟩
 refine ⟨fun w1=> ?_,fun w1=> ?_⟩
 ·have hx:∀k,aU {(aE bB (bD n) 2 1 1) with ident:=jp m (aE bB (bD n) 2 1 1).ident} k=1:=fun k=>cZ (fun hh=>fI m (by omega) (hh.2.1.trans l2.symm)) k
  exact ⟨by omega,fun h7=>⟨fun h8=>⟨h7,h8,rfl,trivial⟩,fun h8=>absurd (hx 5) (of_decide_eq_false h8)⟩,fun h7=>absurd (hx 1) (of_decide_eq_false h7)⟩
 refine ⟨fun w2=> ?_,fun w2=> ?_⟩
 ·have hx:∀k,aU {(aE bB (bD n) 2 1 1) with medium:=jp m (aE bB (bD n) 2 1 1).medium} k=1:=fun k=>cZ (fun hh=>fI m (by omega) (hh.2.2.1.trans l3.symm)) k
  exact ⟨by omega,fun h7=>⟨fun h8=>⟨h7,h8,rfl,trivial⟩,fun h8=>absurd (hx 5) (of_decide_eq_false h8)⟩,fun h7=>absurd (hx 1) (of_decide_eq_false h7)⟩
 refine ⟨fun w3=> ?_,fun w3=> ?_⟩
 ·have hx:∀k,aU {(aE bB (bD n) 2 1 1) with medsig:=jp m (aE bB (bD n) 2 1 1).medsig} k=1:=fun k=>cZ (fun hh=>fI m (by omega) (hh.2.2.2.1.trans l4.symm)) k
  exact ⟨by omega,fun h7=>⟨fun h8=>⟨h7,h8,rfl,trivial⟩,fun h8=>absurd (hx 5) (of_decide_eq_false h8)⟩,fun h7=>absurd (hx 1) (of_decide_eq_false h7)⟩
 refine ⟨fun w4=> ?_,fun w4=> ?_⟩
 ·have hx:∀k,aU {(aE bB (bD n) 2 1 1) with once:=jp m (aE bB (bD n) 2 1 1).once} k=1:=fun k=>cZ (fun hh=>fI m (by rw [l5'];decide) (by have e:((jp m (aE bB (bD n) 2 1 1).once).length:Int)=gU (aE bB (bD n) 2 1 1):=hh.2.2.2.2.2.1;omega)) k
  exact ⟨by omega,fun h7=>⟨fun h8=>⟨h7,h8,rfl,trivial⟩,fun h8=>absurd (hx 5) (of_decide_eq_false h8)⟩,fun h7=>absurd (hx 1) (of_decide_eq_false h7)⟩
 refine ⟨fun w5=> ?_,fun w5=> ?_⟩
 ·have hx:∀k,aU {(aE bB (bD n) 2 1 1) with kem:=jp m (aE bB (bD n) 2 1 1).kem} k=1:=fun k=>cZ (fun hh=>fI m (by omega) ((KH hh.2.2.2.2.2.2 rfl).trans l7.symm)) k
  exact ⟨by omega,fun h7=>⟨fun h8=>⟨h7,h8,rfl,trivial⟩,fun h8=>absurd (hx 5) (of_decide_eq_false h8)⟩,fun h7=>absurd (hx 1) (of_decide_eq_false h7)⟩
 refine ⟨fun w6=> ?_,fun w6=> ?_⟩
 ·have hx:∀k,aU {(aE bB (bD n) 2 1 1) with kemsig:=jp m (aE bB (bD n) 2 1 1).kemsig} k=1:=fun k=>cZ (fun hh=>fI m (by omega) ((yY hh.2.2.2.2.2.2 rfl).trans l9.symm)) k
  exact ⟨by omega,fun h7=>⟨fun h8=>⟨h7,h8,rfl,trivial⟩,fun h8=>absurd (hx 5) (of_decide_eq_false h8)⟩,fun h7=>absurd (hx 1) (of_decide_eq_false h7)⟩
 refine ⟨fun w7=> ?_,fun w7=> ?_⟩
 ·have hx:∀k,aU {(aE bB (bD n) 2 1 1) with onceId:= -1} k=1:=fun k=>cZ (fun hh=>absurd hh.2.2.2.2.1 (by show ¬(0:Int)≤ -1;decide)) k
  exact ⟨fun h7=>⟨fun h8=>⟨h7,h8,rfl,trivial⟩,fun h8=>absurd (hx 5) (of_decide_eq_false h8)⟩,fun h7=>absurd (hx 1) (of_decide_eq_false h7)⟩
 refine ⟨fun w8=> ?_,fun w8=> ?_⟩
 ·have hx:∀k,aU {(aE bB (bD n) 2 1 1) with last:=true} k=1:=fun k=>cZ (fun hh=>Bool.noConfusion ((GN hh.2.2.2.2.2.2 rfl).symm.trans rfl)) k
  exact ⟨fun h7=>⟨fun h8=>⟨h7,h8,rfl,trivial⟩,fun h8=>absurd (hx 5) (of_decide_eq_false h8)⟩,fun h7=>absurd (hx 1) (of_decide_eq_false h7)⟩
 have w0:=of_decide_eq_false w0
 have w1:=of_decide_eq_false w1
 have w2:=of_decide_eq_false w2
 have w3:=of_decide_eq_false w3
 have w4:=of_decide_eq_false w4
 have w5:=of_decide_eq_false w5
 have w6:=of_decide_eq_false w6
 have w7:=of_decide_eq_false w7
 have w8:=of_decide_eq_false w8
 omega
def H0:Nat→Option Ch:=fun _=>none
def E0:a8:=fun _=>none
theorem hp0 (w:World):bY H0 E0 w:=⟨fun b c h=>(by cases h),fun b b' g _ h=>absurd rfl h⟩
theorem LT (g:Nat):ay H0 E0 g:=fun b h=>absurd rfl h
theorem Te {w w':World} {H':Nat→Option Ch} {η':a8} (h:Fw H0 E0 w H' η' w'):Below w.heap.size w w'∧∀b g,H' b≠none→bg η' b=some g→w.heap.size≤g:=by
 refine ⟨⟨h.os,h.tape,h.output,h.size,fun g hg=>(h.anon g hg (LT g)).1⟩,fun b g hb hg=> ?_⟩
 rcases Nat.lt_or_ge g w.heap.size with hl|hl
 ·exact absurd hg ((h.anon g hl (LT g)).2 b hb)
 ·exact hl
theorem CJ {f:Nat} {C:CF} (h:ab f C) {l:List AV} {vs:List Value} {rd:List cz} (h1:(C 1000 l).run (fun _=> []) H0 []= .ok ⟨[.one (.ob .bool true)],[],none,none⟩ rd []) {w:World} (hv:bp E0 (ay H0 E0) w l vs):Calls Tryz.prog f vs.toArray w fun e w'=>e= .returned (.bool true)∧Below w.heap.size w w':=by
 refine (h.call 1000 l (fun _=> []) H0 [] _ _ _ h1 (fun q hq=>by cases hq) trivial E0 w vs (hp0 w) hv fun _ _ _=>rfl).mono fun e w' ⟨v',η',he,hr⟩=> ?_
 have ho: [v']= [_]:=hr.out
 cases List.singleton_inj.1 ho
 exact ⟨he,(Te hr.fw).1⟩
end Go.Proofs.YtnlhpncaldcllaaGreat
