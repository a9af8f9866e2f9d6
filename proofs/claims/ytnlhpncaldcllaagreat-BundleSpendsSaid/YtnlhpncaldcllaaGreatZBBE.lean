/- What BB rests on, part 5 of 5: my own texts, put together (merge.py). -/
import Derived.Deep.RegionHeld3
import Derived.WalkKit
import Derived.ProofKit
import Derived.Lib.Hide
import Derived.OpenShut
import Derived.Deep.MidRow
import Derived.Test.YtnlhpncaldcllaaGreatRows
import Derived.WalkSpells
import Derived.StillTactics
import Derived.Laws.Pointers
import Derived.Laws.CopyOwn
import Derived.Laws.AppendOwnNone
import Derived.RowKit3
import Derived.BigQuiet
import Derived.Deep.QuietTactic
import Derived.Deep.LoopGhost
import Derived.Deep.DeepFit
import Derived.WalkLawsBesides
import Derived.Shelf.Spec.BitsCarry
import Derived.Laws.IdiomStrings
import Derived.Maps.RangeWalk
import Derived.Great.BuildSlice
import Derived.Lib.AppendZerosOnto
import Derived.Deep.DeepCutAuto
import Derived.Lib.SliceRun
import Derived.ShutString
import Derived.ChangeOld
import Derived.Test.YtnlhpncaldcllaaGreatZBBD
set_option maxRecDepth 100000
namespace Go.Proofs.YtnlhpncaldcllaaGreat
open Go Go.RowKit
set_option maxRecDepth 10000
set_option linter.unusedVariables false
def M_:List (Nat×CF):=(107,aq mH)::(73,aq AA):: []
theorem P5:∀p∈M_,ab p.1 p.2:=ae gU<|ae mr fun p hp=>by cases hp
theorem Qt:ap am (ah M_):=az aj (aR P5)
set_option maxHeartbeats 8000000 in
theorem Pu (p q r:List UInt8) (i j v:Int) (b:Bool) (hp:0≤v):vc am (ah M_) Tryz.f49.ntmps (ag Tryz.f49) ⟨al 0 [.agg [.rw 1000,.rw 1001,.rw 1002,.cv (.slice none 0 0),.ob .int i,.cv (.slice none 0 0),.ob .int j,.cv (.slice none 0 0),.cv (.slice none 0 0),.ob .bool b,.ob .int v]],aK 1000 [.row 5 .u8 p,.row 5 .u8 q,.row 5 .u8 r],2000⟩ (br am Tryz.f49.ntmps [.tmp 2] [.one (.sl 0 0 2 2)] [(0,.blk 26 [.rw 1,.rw 1002]),(1,.row 5 .u8 [UInt8.ofNat 1,UInt8.ofNat v.toNat])] [.row 5 .u8 p,.row 5 .u8 q,.row 5 .u8 r] []):=by
 exact ⟨hp,rfl,rfl,rfl,rfl,trivial⟩
def FN:fb:=fun l cs=>match l,cs with
 | [.agg [.rw 1000,.rw 1001,.rw 1002,.cv (.slice none 0 0),.ob .int i,.cv (.slice none 0 0),.ob .int j,.cv (.slice none 0 0),.cv (.slice none 0 0),.ob .bool b,.ob .int v]],[.row 5 .u8 p,.row 5 .u8 q,.row 5 .u8 r]=>some ⟨[.one (.sl 0 0 2 2)],[(0,.blk 26 [.rw 1,.rw 1002]),(1,.row 5 .u8 [UInt8.ofNat 1,UInt8.ofNat v.toNat])],[],some (0≤v)⟩
 |_,_=>none
set_option maxHeartbeats 8000000 in
theorem LS (p q r s u:List UInt8) (i j v:Int) (b:Bool) (hp:0≤v∧0≤j):vc am (ah M_) Tryz.f50.ntmps (ag Tryz.f50) ⟨al 0 [.agg [.rw 1000,.rw 1001,.rw 1002,.rw 1003,.ob .int i,.cv (.slice none 0 0),.ob .int j,.rw 1004,.cv (.slice none 0 0),.ob .bool b,.ob .int v]],aK 1000 [.row 5 .u8 p,.row 5 .u8 q,.row 5 .u8 r,.row 5 .u8 s,.row 5 .u8 u],2000⟩ (br am Tryz.f50.ntmps [.tmp 2] [.one (.sl 0 0 4 4)] [(0,.blk 26 [.rw 1,.sub 2 4 4,.rw 3,.rw 1004]),(1,.row 5 .u8 [UInt8.ofNat 2,UInt8.ofNat v.toNat]),(2,.row 5 .u8 (fF (UInt32.ofNat j.toNat).toUInt64)),(3,.row 5 .u8 [xw b])] [.row 5 .u8 p,.row 5 .u8 q,.row 5 .u8 r,.row 5 .u8 s,.row 5 .u8 u] []):=by
 exact ⟨hp.1,hp.2,rfl,rfl,rfl,rfl,rfl,rfl,rfl,rfl,trivial⟩
def yj:fb:=fun l cs=>match l,cs with
 | [.agg [.rw 1000,.rw 1001,.rw 1002,.rw 1003,.ob .int i,.cv (.slice none 0 0),.ob .int j,.rw 1004,.cv (.slice none 0 0),.ob .bool b,.ob .int v]],[.row 5 .u8 p,.row 5 .u8 q,.row 5 .u8 r,.row 5 .u8 s,.row 5 .u8 u]=>some ⟨[.one (.sl 0 0 4 4)],[(0,.blk 26 [.rw 1,.sub 2 4 4,.rw 3,.rw 1004]),(1,.row 5 .u8 [UInt8.ofNat 2,UInt8.ofNat v.toNat]),(2,.row 5 .u8 (fF (UInt32.ofNat j.toNat).toUInt64)),(3,.row 5 .u8 [xw b])],[],some (0≤v∧0≤j)⟩
 |_,_=>none
set_option maxHeartbeats 8000000 in
theorem LT (p q r s t u:List UInt8) (i j v:Int) (b:Bool) (hp:0≤v∧0≤j):vc am (ah M_) Tryz.f50.ntmps (ag Tryz.f50) ⟨al 0 [.agg [.rw 1000,.rw 1001,.rw 1002,.rw 1003,.ob .int i,.rw 1004,.ob .int j,.rw 1005,.cv (.slice none 0 0),.ob .bool b,.ob .int v]],aK 1000 [.row 5 .u8 p,.row 5 .u8 q,.row 5 .u8 r,.row 5 .u8 s,.row 5 .u8 t,.row 5 .u8 u],2000⟩ (br am Tryz.f50.ntmps [.tmp 2] [.one (.sl 0 0 4 4)] [(0,.blk 26 [.rw 1,.sub 2 4 4,.rw 3,.rw 1005]),(1,.row 5 .u8 [UInt8.ofNat 2,UInt8.ofNat v.toNat]),(2,.row 5 .u8 (fF (UInt32.ofNat j.toNat).toUInt64)),(3,.row 5 .u8 [xw b])] [.row 5 .u8 p,.row 5 .u8 q,.row 5 .u8 r,.row 5 .u8 s,.row 5 .u8 t,.row 5 .u8 u] []):=by
 exact ⟨hp.1,hp.2,rfl,rfl,rfl,rfl,rfl,rfl,rfl,rfl,trivial⟩
def yk:fb:=fun l cs=>match l,cs with
 | [.agg [.rw 1000,.rw 1001,.rw 1002,.rw 1003,.ob .int i,.rw 1004,.ob .int j,.rw 1005,.cv (.slice none 0 0),.ob .bool b,.ob .int v]],[.row 5 .u8 p,.row 5 .u8 q,.row 5 .u8 r,.row 5 .u8 s,.row 5 .u8 t,.row 5 .u8 u]=>some ⟨[.one (.sl 0 0 4 4)],[(0,.blk 26 [.rw 1,.sub 2 4 4,.rw 3,.rw 1005]),(1,.row 5 .u8 [UInt8.ofNat 2,UInt8.ofNat v.toNat]),(2,.row 5 .u8 (fF (UInt32.ofNat j.toNat).toUInt64)),(3,.row 5 .u8 [xw b])],[],some (0≤v∧0≤j)⟩
 |_,_=>none
set_option maxHeartbeats 8000000 in
theorem zD:ab 49 (gB FN):=aQ aj Qt Tryz.func49 (by kernel_rfl) rfl (rs:= [.tmp 2]) Tryz.results49 fun l cs g h hp=>by
 unfold FN at h
 split at h
 ·cases h
  exact ⟨Nat.le_of_ble_eq_true rfl,rfl,rfl,rfl,Pu _ _ _ _ _ _ _ hp⟩
 ·cases h
theorem Hl:ta am (ah M_) Tryz.f50.ntmps (ag Tryz.f50) [.tmp 2] yj:=fun l cs g h hp=>by
 unfold yj at h
 split at h
 ·cases h
  exact ⟨Nat.le_of_ble_eq_true rfl,rfl,rfl,rfl,LS _ _ _ _ _ _ _ _ _ hp⟩
 ·cases h
theorem Hm:ta am (ah M_) Tryz.f50.ntmps (ag Tryz.f50) [.tmp 2] yk:=fun l cs g h hp=>by
 unfold yk at h
 split at h
 ·cases h
  exact ⟨Nat.le_of_ble_eq_true rfl,rfl,rfl,rfl,LT _ _ _ _ _ _ _ _ _ _ hp⟩
 ·cases h
def MC:fb:=N_ yj yk
theorem zC:ab 50 (gB MC):=aQ aj Qt Tryz.func50 (by kernel_rfl) rfl (rs:= [.tmp 2]) Tryz.results50 (ta.or Hl Hm)
def n5:List (Nat×CF):=(58,wY ui)::(22,wY mA)::(62,wY xF)::(63,wY Ff)::(59,wY lz)::(60,wX [false,true] mK)::(49,wY FN)::(50,wY MC)::Ea
theorem Na:∀p∈n5,ab p.1 p.2:=ae iV.q<|ae n8.q<|ae tz.q<|ae wR.q<|ae js.q<|ae oC<|ae zD.q<|ae zC.q Eb
theorem Qu:ap am (ah n5):=az aj (aR Na)
def B0:Bn:=⟨[],[],[],[],0,[],0,[],[],false,0⟩
def Om (seed:List UInt8) (v:Int) (o k:List Bool) (a:Nat) (S P I M:List UInt8):Prop:=seed.length≤65536∧1≤v∧v≤2∧o.length≤1000∧k.length≤1000∧a=qA (bB seed)∧S=aM (bB seed)∧P=dV (bB seed)∧I=dH seed 1∧M=dH seed 2
def lk (o k:List Bool) (v n m:Int):Bool:=match decide (v=1) with |true=>dN o k n 0|false=>dN o k n m
theorem ga {l:List Bool} {n:Int} (h:jj l n=false) (h0:0<n):n<l.length:=by
 rw [jj,decide_eq_true h0] at h
 by_cases e:(l.length:Int)≤n
 ·rw [decide_eq_true e] at h;exact absurd h Bool.noConfusion
 ·omega
theorem sN {o k:List Bool} {n m:Int} (h:dN o k n m=false):jj o n=false:=by
 rw [dN] at h
 cases e:jj o n with
 |true=>rw [e] at h;exact absurd h Bool.noConfusion
 |false=>rfl
theorem sM {o k:List Bool} {n m:Int} (h:dN o k n m=false):jj k m=false:=by
 rw [dN,sN h] at h
 exact h
theorem GA (seed:List UInt8) {n:Int} (h:decide (0<n)=true) (h2:n≤1000000):KD seed n=aV 32 (dP (List.take 32 (List.drop 0 (aT seed (100+n)))) [9]).val:=by
 have:=of_decide_eq_true h
 rw [KD,h,fm seed (by omega) (by omega)]
 rfl
theorem uz {v m:Int} (b:Bool) (E:List UInt8) (h0:0≤m) (h1:m≤1000): [[UInt8.ofNat 2,UInt8.ofNat v.toNat],List.take 4 (List.drop 4 (fF (UInt32.ofNat m.toNat).toUInt64)),[xw b],E].flatten=yC v m b E:=by
 rw [yC,←F5 h0 h1]
 rfl
set_option maxHeartbeats 16000000 in
theorem Dl (seed:List UInt8) (v:Int) (o k:List Bool) (a:Nat) (S P I M:List UInt8) (n m:Int) (h:decide (0≤n∧0≤m)=false):vc am (ah n5) Tryz.f19.ntmps (ag Tryz.f19) ⟨al 0 [.one (.ptr 1000 0),.one (.ob .int n),.one (.ob .int m)],aK 1000 (fD seed v o k a S P I M),2000⟩ (br am Tryz.f19.ntmps [.cell 6 29,.tmp 7] [(B0).rv,.one (.ob .int 1)] (B0).us (fD seed v o k a S P I M) []):=by
 have hv:=of_decide_eq_false h
 refine ⟨fun hz=>Bool.noConfusion hz,fun hz=>⟨fun h1=>⟨hz,h1,?_⟩,fun h1=>⟨hz,h1,fun h2=> ?_,fun h2=> ?_⟩⟩⟩
 ·exact ⟨rfl,rfl,rfl,rfl,rfl,rfl,rfl,rfl,rfl,rfl,rfl,rfl,trivial⟩
 ·exact ⟨rfl,rfl,rfl,rfl,rfl,rfl,rfl,rfl,rfl,rfl,rfl,rfl,trivial⟩
 ·exact absurd ⟨by have:=of_decide_eq_false h1;omega,by have:=of_decide_eq_false h2;omega⟩ hv
set_option maxHeartbeats 16000000 in
theorem HZ (seed:List UInt8) (v:Int) (o k:List Bool) (a:Nat) (S P I M:List UInt8) (n m:Int) (h0:decide (0≤n∧0≤m)=true) (h:lk o k v n m=true):vc am (ah n5) Tryz.f19.ntmps (ag Tryz.f19) ⟨al 0 [.one (.ptr 1000 0),.one (.ob .int n),.one (.ob .int m)],aK 1000 (fD seed v o k a S P I M),2000⟩ (br am Tryz.f19.ntmps [.cell 6 29,.tmp 7] [(B0).rv,.one (.ob .int 13)] (B0).us (fD seed v o k a S P I M) []):=by
 have hv:=of_decide_eq_true h0
 refine ⟨fun hz=>Bool.noConfusion hz,fun hz=>⟨fun h1=>absurd (of_decide_eq_true h1) (by omega),fun h1=>⟨hz,h1,fun h2=>absurd (of_decide_eq_true h2) (by omega),fun h2=>⟨fun h3=> ?_,fun h3=> ?_⟩⟩⟩⟩
 ·have e:dN o k n 0=true:=by rw [lk,h3] at h;exact h
  exact ⟨fun h4=>⟨rfl,rfl,rfl,rfl,rfl,rfl,rfl,rfl,rfl,rfl,rfl,rfl,trivial⟩,fun h4=>absurd (e.symm.trans h4) Bool.noConfusion⟩
 ·have e:dN o k n m=true:=by rw [lk,h3] at h;exact h
  exact ⟨fun h4=>⟨rfl,rfl,rfl,rfl,rfl,rfl,rfl,rfl,rfl,rfl,rfl,rfl,trivial⟩,fun h4=>absurd (e.symm.trans h4) Bool.noConfusion⟩
set_option maxHeartbeats 16000000 in
theorem HJ (seed:List UInt8) (v:Int) (o k:List Bool) (a:Nat) (S P I M:List UInt8) (n m:Int) (hk:Om seed v o k a S P I M) (h0:decide (0≤n∧0≤m)=true) (h5:decide (0<n)=true) (hv3:v=1) (e:dN o k n 0=false):vc am (ah n5) Tryz.f19.ntmps (ag Tryz.f19) ⟨al 0 [.one (.ptr 1000 0),.one (.ob .int n),.one (.ob .int m)],aK 1000 (fD seed v o k a S P I M),2000⟩ (br am Tryz.f19.ntmps [.cell 6 29,.tmp 7] [(bd cE seed v n m).rv,.one (.ob .int 0)] (bd cE seed v n m).us (fD seed v o k a S P I M) []):=by
 obtain ⟨hs,hv1,hv2,ho,hk,ha,hS,hP,hI,hM⟩:=hk
 have hv:=of_decide_eq_true h0
 have v0:0≤v:=by omega
 have P32:P.length=32:=by rw [hP,gV]
 have S64:S.length=64:=by rw [hS,cP]
 have PL:P.length≤16777216:=by omega
 have q1: [[UInt8.ofNat 1,UInt8.ofNat v.toNat],aV 32 (dP (List.take 32 (List.drop 0 M)) [9]).val].flatten.length≤8000000:=by
  rw [qi,List.length_append,ar];exact Nat.le_of_ble_eq_true rfl
 have e1:dV (bB seed)=P:=hP.symm
 have e2:gg (mU seed)=aV 32 (dP (List.take 32 I) [9]).val:=by rw [hI];rfl
 have e3:gg (mV seed)=aV 32 (dP (List.take 32 (List.drop 0 M)) [9]).val:=by rw [hM];rfl
 have e4:eQ (bB seed) (Cj v (gg (mV seed)))=IF a S P [[UInt8.ofNat 1,UInt8.ofNat v.toNat],aV 32 (dP (List.take 32 (List.drop 0 M)) [9]).val].flatten:=by rw [ha,hS,hP,kM,e3];rfl
 have hn:=ga (sN e) (of_decide_eq_true h5)
 have n6:n≤1000000:=by omega
 refine ⟨fun hz=>Bool.noConfusion hz,fun hz=>⟨fun h1=>absurd (of_decide_eq_true h1) (by omega),fun h1=>⟨hz,h1,fun h2=>absurd (of_decide_eq_true h2) (by omega),fun h2=>⟨fun h3=>⟨fun h4=>absurd (e.symm.trans h4) Bool.noConfusion,fun h4=>⟨PL,v0,⟨P32,S64,q1⟩,?_⟩⟩,fun h3=>absurd hv3 (of_decide_eq_false h3)⟩⟩⟩⟩
 refine ⟨fun h6=>⟨⟨hs,hv.1,n6⟩,fun h7=>absurd (of_decide_eq_true h7) (by omega),fun h7=> ?_⟩,fun h6=>absurd (h5.symm.trans h6) Bool.noConfusion⟩
 have co:=GA seed h5 n6
 have d2:decide (v=2)=false:=h7
 have c2: [(bd cE seed v n m).kemId]= [0]:=by show [Cb v m]=_;rw [Cb,d2]
 have c3: [(bd cE seed v n m).last]= [false]:=by show [Cd v m]=_;rw [Cd,d2]
 have ck:(bd cE seed v n m).kem= []:=by show yB cE seed v m=_;rw [yB,d2]
 have cs:(bd cE seed v n m).kemsig= []:=by show Cc cE seed v m=_;rw [Cc,d2]
 exact ⟨rfl,c2,c3,rfl,rfl,e1,e2,e3,e4,co,ck,cs,trivial⟩
set_option maxHeartbeats 16000000 in
theorem HH (seed:List UInt8) (v:Int) (o k:List Bool) (a:Nat) (S P I M:List UInt8) (n m:Int) (hk:Om seed v o k a S P I M) (h0:decide (0≤n∧0≤m)=true) (h5:decide (0<n)=false) (hv3:v=1) (e:dN o k n 0=false):vc am (ah n5) Tryz.f19.ntmps (ag Tryz.f19) ⟨al 0 [.one (.ptr 1000 0),.one (.ob .int n),.one (.ob .int m)],aK 1000 (fD seed v o k a S P I M),2000⟩ (br am Tryz.f19.ntmps [.cell 6 29,.tmp 7] [(bd cE seed v n m).rv,.one (.ob .int 0)] (bd cE seed v n m).us (fD seed v o k a S P I M) []):=by
 obtain ⟨hs,hv1,hv2,ho,hk,ha,hS,hP,hI,hM⟩:=hk
 have hv:=of_decide_eq_true h0
 have v0:0≤v:=by omega
 have P32:P.length=32:=by rw [hP,gV]
 have S64:S.length=64:=by rw [hS,cP]
 have PL:P.length≤16777216:=by omega
 have q1: [[UInt8.ofNat 1,UInt8.ofNat v.toNat],aV 32 (dP (List.take 32 (List.drop 0 M)) [9]).val].flatten.length≤8000000:=by
  rw [qi,List.length_append,ar];exact Nat.le_of_ble_eq_true rfl
 have e1:dV (bB seed)=P:=hP.symm
 have e2:gg (mU seed)=aV 32 (dP (List.take 32 I) [9]).val:=by rw [hI];rfl
 have e3:gg (mV seed)=aV 32 (dP (List.take 32 (List.drop 0 M)) [9]).val:=by rw [hM];rfl
 have e4:eQ (bB seed) (Cj v (gg (mV seed)))=IF a S P [[UInt8.ofNat 1,UInt8.ofNat v.toNat],aV 32 (dP (List.take 32 (List.drop 0 M)) [9]).val].flatten:=by rw [ha,hS,hP,kM,e3];rfl
 have hn0:=of_decide_eq_false h5
 refine ⟨fun hz=>Bool.noConfusion hz,fun hz=>⟨fun h1=>absurd (of_decide_eq_true h1) (by omega),fun h1=>⟨hz,h1,fun h2=>absurd (of_decide_eq_true h2) (by omega),fun h2=>⟨fun h3=>⟨fun h4=>absurd (e.symm.trans h4) Bool.noConfusion,fun h4=>⟨PL,v0,⟨P32,S64,q1⟩,?_⟩⟩,fun h3=>absurd hv3 (of_decide_eq_false h3)⟩⟩⟩⟩
 refine ⟨fun h6=>absurd (h5.symm.trans h6) Bool.noConfusion,fun h6=>⟨fun h7=>absurd (of_decide_eq_true h7) (by omega),fun h7=> ?_⟩⟩
 have co:KD seed n= []:=by rw [KD,h5]
 have z0: [(bd cE seed v n m).onceId]= [0]:=by show [n]= [0];rw [show n=0 by omega]
 have d2:decide (v=2)=false:=h7
 have c2: [(bd cE seed v n m).kemId]= [0]:=by show [Cb v m]=_;rw [Cb,d2]
 have c3: [(bd cE seed v n m).last]= [false]:=by show [Cd v m]=_;rw [Cd,d2]
 have ck:(bd cE seed v n m).kem= []:=by show yB cE seed v m=_;rw [yB,d2]
 have cs:(bd cE seed v n m).kemsig= []:=by show Cc cE seed v m=_;rw [Cc,d2]
 exact ⟨z0,c2,c3,rfl,rfl,e1,e2,e3,e4,co,ck,cs,trivial⟩
set_option maxHeartbeats 16000000 in
theorem HY (seed:List UInt8) (v:Int) (o k:List Bool) (a:Nat) (S P I M:List UInt8) (n m:Int) (hk:Om seed v o k a S P I M) (h0:decide (0≤n∧0≤m)=true) (h5:decide (0<n)=true) (hv3:v=2) (e:dN o k n m=false):vc am (ah n5) Tryz.f19.ntmps (ag Tryz.f19) ⟨al 0 [.one (.ptr 1000 0),.one (.ob .int n),.one (.ob .int m)],aK 1000 (fD seed v o k a S P I M),2000⟩ (br am Tryz.f19.ntmps [.cell 6 29,.tmp 7] [(bd cE seed v n m).rv,.one (.ob .int 0)] (bd cE seed v n m).us (fD seed v o k a S P I M) []):=by
 obtain ⟨hs,hv1,hv2,ho,hk,ha,hS,hP,hI,hM⟩:=hk
 have hv:=of_decide_eq_true h0
 have v0:0≤v:=by omega
 have P32:P.length=32:=by rw [hP,gV]
 have S64:S.length=64:=by rw [hS,cP]
 have PL:P.length≤16777216:=by omega
 have q1: [[UInt8.ofNat 1,UInt8.ofNat v.toNat],aV 32 (dP (List.take 32 (List.drop 0 M)) [9]).val].flatten.length≤8000000:=by
  rw [qi,List.length_append,ar];exact Nat.le_of_ble_eq_true rfl
 have e1:dV (bB seed)=P:=hP.symm
 have e2:gg (mU seed)=aV 32 (dP (List.take 32 I) [9]).val:=by rw [hI];rfl
 have e3:gg (mV seed)=aV 32 (dP (List.take 32 (List.drop 0 M)) [9]).val:=by rw [hM];rfl
 have e4:eQ (bB seed) (Cj v (gg (mV seed)))=IF a S P [[UInt8.ofNat 1,UInt8.ofNat v.toNat],aV 32 (dP (List.take 32 (List.drop 0 M)) [9]).val].flatten:=by rw [ha,hS,hP,kM,e3];rfl
 have hn:=ga (sN e) (of_decide_eq_true h5)
 have n6:n≤1000000:=by omega
 refine ⟨fun hz=>Bool.noConfusion hz,fun hz=>⟨fun h1=>absurd (of_decide_eq_true h1) (by omega),fun h1=>⟨hz,h1,fun h2=>absurd (of_decide_eq_true h2) (by omega),fun h2=>⟨fun h3=>absurd (of_decide_eq_true h3) (by omega),fun h3=>⟨fun h4=>absurd (e.symm.trans h4) Bool.noConfusion,fun h4=>⟨PL,v0,⟨P32,S64,q1⟩,?_⟩⟩⟩⟩⟩⟩
 have hm1:=fun h=>ga (sM e) (n:=m) h
 refine ⟨fun h6=>⟨⟨hs,hv.1,n6⟩,fun h7=> ?_,fun h7=>absurd hv3 (of_decide_eq_false h7)⟩,fun h6=>absurd (h5.symm.trans h6) Bool.noConfusion⟩
 have co:=GA seed h5 n6
 have d2:decide (v=2)=true:=h7
 have m6:m≤1000:=by
  by_cases hm:0<m
  ·have:=hm1 hm;omega
  ·omega
 have c2: [(bd cE seed v n m).kemId]= [m]:=by show [Cb v m]=_;rw [Cb,d2]
 have c3: [(bd cE seed v n m).last]= [decide (m=0)]:=by show [Cd v m]=_;rw [Cd,d2]
 have ck:(bd cE seed v n m).kem=cE (dz seed m).1:=by show yB cE seed v m=_;rw [yB,d2]
 have et:=uz (v:=v) (decide (m=0)) (cE (dz seed m).1) hv.2 m6
 have q2: [[UInt8.ofNat 2,UInt8.ofNat v.toNat],List.take 4 (List.drop 4 (fF (UInt32.ofNat m.toNat).toUInt64)),[xw (decide (m=0))],cE (dz seed m).1].flatten.length≤8000000:=by rw [et,uy,fS];decide
 have cs:(bd cE seed v n m).kemsig=IF a S P [[UInt8.ofNat 2,UInt8.ofNat v.toNat],List.take 4 (List.drop 4 (fF (UInt32.ofNat m.toNat).toUInt64)),[xw (decide (m=0))],cE (dz seed m).1].flatten:=by
  show Cc cE seed v m=_
  rw [Cc,d2,ha,hS,hP,kM,et]
 exact ⟨⟨hs,hv.2,by show m≤1000000;omega⟩,⟨v0,hv.2⟩,⟨P32,S64,q2⟩,rfl,c2,c3,rfl,rfl,e1,e2,e3,e4,co,ck,cs,trivial⟩
set_option maxHeartbeats 16000000 in
theorem HU (seed:List UInt8) (v:Int) (o k:List Bool) (a:Nat) (S P I M:List UInt8) (n m:Int) (hk:Om seed v o k a S P I M) (h0:decide (0≤n∧0≤m)=true) (h5:decide (0<n)=false) (hv3:v=2) (e:dN o k n m=false):vc am (ah n5) Tryz.f19.ntmps (ag Tryz.f19) ⟨al 0 [.one (.ptr 1000 0),.one (.ob .int n),.one (.ob .int m)],aK 1000 (fD seed v o k a S P I M),2000⟩ (br am Tryz.f19.ntmps [.cell 6 29,.tmp 7] [(bd cE seed v n m).rv,.one (.ob .int 0)] (bd cE seed v n m).us (fD seed v o k a S P I M) []):=by
 obtain ⟨hs,hv1,hv2,ho,hk,ha,hS,hP,hI,hM⟩:=hk
 have hv:=of_decide_eq_true h0
 have v0:0≤v:=by omega
 have P32:P.length=32:=by rw [hP,gV]
 have S64:S.length=64:=by rw [hS,cP]
 have PL:P.length≤16777216:=by omega
 have q1: [[UInt8.ofNat 1,UInt8.ofNat v.toNat],aV 32 (dP (List.take 32 (List.drop 0 M)) [9]).val].flatten.length≤8000000:=by
  rw [qi,List.length_append,ar];exact Nat.le_of_ble_eq_true rfl
 have e1:dV (bB seed)=P:=hP.symm
 have e2:gg (mU seed)=aV 32 (dP (List.take 32 I) [9]).val:=by rw [hI];rfl
 have e3:gg (mV seed)=aV 32 (dP (List.take 32 (List.drop 0 M)) [9]).val:=by rw [hM];rfl
 have e4:eQ (bB seed) (Cj v (gg (mV seed)))=IF a S P [[UInt8.ofNat 1,UInt8.ofNat v.toNat],aV 32 (dP (List.take 32 (List.drop 0 M)) [9]).val].flatten:=by rw [ha,hS,hP,kM,e3];rfl
 have hn0:=of_decide_eq_false h5
 refine ⟨fun hz=>Bool.noConfusion hz,fun hz=>⟨fun h1=>absurd (of_decide_eq_true h1) (by omega),fun h1=>⟨hz,h1,fun h2=>absurd (of_decide_eq_true h2) (by omega),fun h2=>⟨fun h3=>absurd (of_decide_eq_true h3) (by omega),fun h3=>⟨fun h4=>absurd (e.symm.trans h4) Bool.noConfusion,fun h4=>⟨PL,v0,⟨P32,S64,q1⟩,?_⟩⟩⟩⟩⟩⟩
 have hm1:=fun h=>ga (sM e) (n:=m) h
 refine ⟨fun h6=>absurd (h5.symm.trans h6) Bool.noConfusion,fun h6=>⟨fun h7=> ?_,fun h7=>absurd hv3 (of_decide_eq_false h7)⟩⟩
 have co:KD seed n= []:=by rw [KD,h5]
 have z0: [(bd cE seed v n m).onceId]= [0]:=by show [n]= [0];rw [show n=0 by omega]
 have d2:decide (v=2)=true:=h7
 have m6:m≤1000:=by
  by_cases hm:0<m
  ·have:=hm1 hm;omega
  ·omega
 have c2: [(bd cE seed v n m).kemId]= [m]:=by show [Cb v m]=_;rw [Cb,d2]
 have c3: [(bd cE seed v n m).last]= [decide (m=0)]:=by show [Cd v m]=_;rw [Cd,d2]
 have ck:(bd cE seed v n m).kem=cE (dz seed m).1:=by show yB cE seed v m=_;rw [yB,d2]
 have et:=uz (v:=v) (decide (m=0)) (cE (dz seed m).1) hv.2 m6
 have q2: [[UInt8.ofNat 2,UInt8.ofNat v.toNat],List.take 4 (List.drop 4 (fF (UInt32.ofNat m.toNat).toUInt64)),[xw (decide (m=0))],cE (dz seed m).1].flatten.length≤8000000:=by rw [et,uy,fS];decide
 have cs:(bd cE seed v n m).kemsig=IF a S P [[UInt8.ofNat 2,UInt8.ofNat v.toNat],List.take 4 (List.drop 4 (fF (UInt32.ofNat m.toNat).toUInt64)),[xw (decide (m=0))],cE (dz seed m).1].flatten:=by
  show Cc cE seed v m=_
  rw [Cc,d2,ha,hS,hP,kM,et]
 exact ⟨⟨hs,hv.2,by show m≤1000000;omega⟩,⟨v0,hv.2⟩,⟨P32,S64,q2⟩,z0,c2,c3,rfl,rfl,e1,e2,e3,e4,co,ck,cs,trivial⟩
def KZ (B:Bn) (e:Int) (p:Option Prop):GD:= .ok ⟨[B.rv,.one (.ob .int e)],B.us,[],p⟩
def Fh:L6:=fun l cs=>match l,cs with
 | [.one (.cv (.pointer none)),.one (.ob .int _),.one (.ob .int _)],[]=>KZ B0 1 none
 | [.one (.ptr 1000 0),.one (.ob .int n),.one (.ob .int m)],[.blk 84 [.rw 1001,.ob .int v,.ptr 1002 0,.sub 1003 0 32,.sub 1004 0 32,.rw 1005,.rw 1006],.row 5 .u8 seed,.blk 157 [.ob (.x 2) a,.sub 1007 32 32,.rw 1008],.row 5 .u8 I,.row 5 .u8 M,.row 4 .bool o,.row 4 .bool k,.row 5 .u8 S,.row 5 .u8 P]=> .dec (decide (0≤n∧0≤m)) (.dec (lk o k v n m) (KZ B0 13 none) (KZ (bd cE seed v n m) 0 (some (Om seed v o k a S P I M)))) (KZ B0 1 none)
 |_,_=> .no
set_option maxHeartbeats 8000000 in
theorem Dm (n m:Int):vc am (ah n5) Tryz.f19.ntmps (ag Tryz.f19) ⟨al 0 [.one (.cv (.pointer none)),.one (.ob .int n),.one (.ob .int m)],aK 1000 [],2000⟩ (br am Tryz.f19.ntmps [.cell 6 29,.tmp 7] [(B0).rv,.one (.ob .int 1)] (B0).us [] []):=by
 exact ⟨fun h=>⟨h,rfl,rfl,rfl,rfl,rfl,rfl,rfl,rfl,rfl,rfl,rfl,rfl,trivial⟩,fun h=>Bool.noConfusion h⟩
theorem O7 (seed:List UInt8) (v:Int) (o k:List Bool) (a:Nat) (S P I M:List UInt8) (n m:Int) (hk:Om seed v o k a S P I M) (h0:decide (0≤n∧0≤m)=true) (h:lk o k v n m=false):vc am (ah n5) Tryz.f19.ntmps (ag Tryz.f19) ⟨al 0 [.one (.ptr 1000 0),.one (.ob .int n),.one (.ob .int m)],aK 1000 (fD seed v o k a S P I M),2000⟩ (br am Tryz.f19.ntmps [.cell 6 29,.tmp 7] [(bd cE seed v n m).rv,.one (.ob .int 0)] (bd cE seed v n m).us (fD seed v o k a S P I M) []):=by
 cases h5:decide (0<n) with
 |true=>
  by_cases hv:v=1
  ·exact HJ _ _ _ _ _ _ _ _ _ _ _ hk h0 h5 hv (by rw [lk,decide_eq_true hv] at h;exact h)
  ·exact HY _ _ _ _ _ _ _ _ _ _ _ hk h0 h5 (by have:=hk.2.1;have:=hk.2.2.1;omega) (by rw [lk,decide_eq_false hv] at h;exact h)
 |false=>
  by_cases hv:v=1
  ·exact HH _ _ _ _ _ _ _ _ _ _ _ hk h0 h5 hv (by rw [lk,decide_eq_true hv] at h;exact h)
  ·exact HU _ _ _ _ _ _ _ _ _ _ _ hk h0 h5 (by have:=hk.2.1;have:=hk.2.2.1;omega) (by rw [lk,decide_eq_false hv] at h;exact h)
set_option maxHeartbeats 8000000 in
theorem wU:ab 19 (Mw Fh):=j_ aj Qu Tryz.func19 (by kernel_rfl) rfl (rs:= [.cell 6 29,.tmp 7]) Tryz.results19 fun l cs g h hp=>by
 unfold Fh at h
 split at h
 ·cases h
  exact ⟨Nat.le_of_ble_eq_true rfl,rfl,rfl,rfl,Dm _ _⟩
 ·rcases h with ⟨h1,⟨h2,h3⟩|⟨h2,h3⟩⟩|⟨h1,h3⟩
  ·cases h3
   exact ⟨Nat.le_of_ble_eq_true rfl,rfl,rfl,rfl,HZ _ _ _ _ _ _ _ _ _ _ _ h1 h2⟩
  ·cases h3
   exact ⟨Nat.le_of_ble_eq_true rfl,rfl,rfl,rfl,O7 _ _ _ _ _ _ _ _ _ _ _ hp h1 h2⟩
  ·cases h3
   exact ⟨Nat.le_of_ble_eq_true rfl,rfl,rfl,rfl,Dl _ _ _ _ _ _ _ _ _ _ _ h1⟩
 ·cases h
set_option maxRecDepth 10000
set_option linter.unusedVariables false
set_option linter.unusedVariables false
def bM (l:List Bool) (n:Int):List Bool:=match decide (0<n) with |true=>l.set n.toNat true|false=>l
def BI:List (Nat×CF):=(58,wY ui)::(59,wY lz):: []
theorem Nb:∀p∈BI,ab p.1 p.2:=ae iV.q<|ae js.q fun p hp=>by cases hp
theorem Qv:ap am (ah BI):=az aj (aR Nb)
set_option maxHeartbeats 8000000 in
theorem Do (seed:List UInt8) (v:Int) (o k:List Bool) (a:Nat) (S P I M:List UInt8) (n m:Int) (h:decide (0≤n∧0≤m)=false):vc am (ah BI) Tryz.f25.ntmps (ag Tryz.f25) ⟨al 0 [.one (.ptr 1000 0),.one (.ob .int n),.one (.ob .int m)],aK 1000 (fD seed v o k a S P I M),2000⟩ (br am Tryz.f25.ntmps [.tmp 6] [.one (.ob .int 1)] [] (fD seed v o k a S P I M) []):=by
 have hv:=of_decide_eq_false h
 refine ⟨fun hz=>Bool.noConfusion hz,fun hz=>⟨fun h1=>⟨hz,h1,rfl,trivial⟩,fun h1=>⟨hz,h1,fun h2=>⟨rfl,trivial⟩,fun h2=> ?_⟩⟩⟩
 exact absurd ⟨by have:=of_decide_eq_false h1;omega,by have:=of_decide_eq_false h2;omega⟩ hv
set_option maxHeartbeats 8000000 in
theorem H5 (seed:List UInt8) (v:Int) (o k:List Bool) (a:Nat) (S P I M:List UInt8) (n m:Int) (h0:decide (0≤n∧0≤m)=true) (h:dN o k n m=true):vc am (ah BI) Tryz.f25.ntmps (ag Tryz.f25) ⟨al 0 [.one (.ptr 1000 0),.one (.ob .int n),.one (.ob .int m)],aK 1000 (fD seed v o k a S P I M),2000⟩ (br am Tryz.f25.ntmps [.tmp 6] [.one (.ob .int 13)] [] (fD seed v o k a S P I M) []):=by
 have hv:=of_decide_eq_true h0
 refine ⟨fun hz=>Bool.noConfusion hz,fun hz=>⟨fun h1=>absurd (of_decide_eq_true h1) (by omega),fun h1=>⟨hz,h1,fun h2=>absurd (of_decide_eq_true h2) (by omega),fun h2=> ?_⟩⟩⟩
 exact ⟨fun h4=>⟨rfl,trivial⟩,fun h4=>absurd (h.symm.trans h4) Bool.noConfusion⟩
set_option maxHeartbeats 8000000 in
theorem H4 (seed:List UInt8) (v:Int) (o k:List Bool) (a:Nat) (S P I M:List UInt8) (n m:Int) (h0:decide (0≤n∧0≤m)=true) (h:dN o k n m=false):vc am (ah BI) Tryz.f25.ntmps (ag Tryz.f25) ⟨al 0 [.one (.ptr 1000 0),.one (.ob .int n),.one (.ob .int m)],aK 1000 (fD seed v o k a S P I M),2000⟩ (br am Tryz.f25.ntmps [.tmp 6] [.one (.ob .int 0)] [(1005,.row 4 .bool (bM o n)),(1006,.row 4 .bool (bM k m))] (fD seed v o k a S P I M) []):=by
 have hv:=of_decide_eq_true h0
 refine ⟨fun hz=>Bool.noConfusion hz,fun hz=>⟨fun h1=>absurd (of_decide_eq_true h1) (by omega),fun h1=>⟨hz,h1,fun h2=>absurd (of_decide_eq_true h2) (by omega),fun h2=> ?_⟩⟩⟩
 refine ⟨fun h4=>absurd (h.symm.trans h4) Bool.noConfusion,fun h4=>⟨fun h5=> ?_,fun h5=> ?_⟩⟩
 ·have hn:=ga (sN h) (of_decide_eq_true h5)
  have c1:bM o n=o.set n.toNat true:=by rw [bM,h5]
  refine ⟨⟨hv.1,hn⟩,by omega,fun h6=> ?_,fun h6=> ?_⟩
  ·have hm:=ga (sM h) (of_decide_eq_true h6)
   have c2:bM k m=k.set m.toNat true:=by rw [bM,h6]
   exact ⟨⟨hv.2,hm⟩,by omega,rfl,c1,c2,trivial⟩
  ·have c2:bM k m=k:=by rw [bM,h6]
   exact ⟨rfl,c1,c2,trivial⟩
 ·have c1:bM o n=o:=by rw [bM,h5]
  refine ⟨fun h6=> ?_,fun h6=> ?_⟩
  ·have hm:=ga (sM h) (of_decide_eq_true h6)
   have c2:bM k m=k.set m.toNat true:=by rw [bM,h6]
   exact ⟨⟨hv.2,hm⟩,by omega,rfl,c1,c2,trivial⟩
  ·have c2:bM k m=k:=by rw [bM,h6]
   exact ⟨rfl,c1,c2,trivial⟩
def qT:L6:=fun l cs=>match l,cs with
 | [.one (.cv (.pointer none)),.one (.ob .int _),.one (.ob .int _)],[]=> .ok ⟨[.one (.ob .int 1)],[],[],none⟩
 | [.one (.ptr 1000 0),.one (.ob .int n),.one (.ob .int m)],[.blk 84 [.rw 1001,.ob .int v,.ptr 1002 0,.sub 1003 0 32,.sub 1004 0 32,.rw 1005,.rw 1006],.row 5 .u8 seed,.blk 157 [.ob (.x 2) a,.sub 1007 32 32,.rw 1008],.row 5 .u8 I,.row 5 .u8 M,.row 4 .bool o,.row 4 .bool k,.row 5 .u8 S,.row 5 .u8 P]=> .dec (decide (0≤n∧0≤m)) (.dec (dN o k n m) (.ok ⟨[.one (.ob .int 13)],[],[],none⟩) (.ok ⟨[.one (.ob .int 0)],[(1005,.row 4 .bool (bM o n)),(1006,.row 4 .bool (bM k m))],[],none⟩)) (.ok ⟨[.one (.ob .int 1)],[],[],none⟩)
 |_,_=> .no
theorem Dp (n m:Int):vc am (ah BI) Tryz.f25.ntmps (ag Tryz.f25) ⟨al 0 [.one (.cv (.pointer none)),.one (.ob .int n),.one (.ob .int m)],aK 1000 [],2000⟩ (br am Tryz.f25.ntmps [.tmp 6] [.one (.ob .int 1)] [] [] []):=by
 exact ⟨fun h=>⟨h,rfl,trivial⟩,fun h=>Bool.noConfusion h⟩
set_option maxHeartbeats 8000000 in
theorem qe:ab 25 (Mw qT):=j_ aj Qv Tryz.func25 (by kernel_rfl) rfl (rs:= [.tmp 6]) Tryz.results25 fun l cs g h hp=>by
 unfold qT at h
 split at h
 ·cases h
  exact ⟨Nat.le_of_ble_eq_true rfl,rfl,rfl,rfl,Dp _ _⟩
 ·rcases h with ⟨h1,⟨h2,h3⟩|⟨h2,h3⟩⟩|⟨h1,h3⟩
  ·cases h3
   exact ⟨Nat.le_of_ble_eq_true rfl,rfl,rfl,rfl,H5 _ _ _ _ _ _ _ _ _ _ _ h1 h2⟩
  ·cases h3
   exact ⟨Nat.le_of_ble_eq_true rfl,rfl,rfl,rfl,H4 _ _ _ _ _ _ _ _ _ _ _ h1 h2⟩
  ·cases h3
   exact ⟨Nat.le_of_ble_eq_true rfl,rfl,rfl,rfl,Do _ _ _ _ _ _ _ _ _ _ _ h1⟩
 ·cases h
theorem Qz:ap am (ah []):=az aj (aR fun p hp=>by cases hp)
def eN (l:List Bool):Nat→List Int
 |0=> []
 |i+1=>match l.getD (i+1) false with |true=>eN l i|false=>eN l i++ [(i:Int)+1]
def gh (l:List Bool):List Int:=eN l (l.length-1)
theorem pj (l:List Bool):∀i,(eN l i).length≤i
 |0=>Nat.le_refl _
 |i+1=>by
  have:=pj l i
  rw [eN]
  split
  ·omega
  ·rw [List.length_append];simp;omega
theorem Pd (l:List Bool) (hl:1≤l.length∧l.length≤1000):vc am (ah []) Tryz.f67.ntmps (ag Tryz.f67) ⟨al 0 [.one (.ro .bool l)],[],2000⟩ (aD am Tryz.f67.ntmps [.tmp 2] [.one (.rw 0)] [(0,.row 3 .int (gh l))]):=by
 refine Or.inr ⟨{i:Nat // i+1≤l.length},fun i=>⟨[(3,.one (.ob .int ((i.val:Int)+1))),(2,.one (.rw 0))],[(0,.row 3 .int (eN l i.val))]⟩,fun i=>l.length-i.val,⟨0,hl.1⟩,?_⟩
 refine ⟨rfl,rfl,fun i _=>⟨fun h1=> ?_,fun h1=> ?_⟩⟩
 ·obtain ⟨i,hi⟩:=i
  have h1:(i:Int)+1<l.length:=of_decide_eq_true h1
  refine ⟨⟨by dsimp only;omega,by dsimp only;omega⟩,fun h2=> ?_,fun h2=> ?_⟩
  ·have e:l.getD (i+1) false=false:=by
    have h2:(!l.getD ((i:Int)+1).toNat false)=true:=h2
    rw [show ((i:Int)+1).toNat=i+1 by omega] at h2
    simpa using h2
   have e1:eN l (i+1)=eN l i++ [(i:Int)+1]:=by rw [eN,e]
   have hL:=pj l i
   refine ⟨?_,⟨by dsimp only;omega,by dsimp only;omega⟩,⟨i+1,by omega⟩,by show l.length-(i+1)<l.length-i;omega,rfl,e1,trivial⟩
   show (eN l i++ [(i:Int)+1]).length≤16777216
   rw [List.length_append];simp;omega
  ·have e:l.getD (i+1) false=true:=by
    have h2:(!l.getD ((i:Int)+1).toNat false)=false:=h2
    rw [show ((i:Int)+1).toNat=i+1 by omega] at h2
    simpa using h2
   have e1:eN l (i+1)=eN l i:=by rw [eN,e]
   exact ⟨⟨by dsimp only;omega,by dsimp only;omega⟩,⟨i+1,by omega⟩,by show l.length-(i+1)<l.length-i;omega,rfl,e1,trivial⟩
 ·obtain ⟨i,hi⟩:=i
  have h1:¬(i:Int)+1<l.length:=of_decide_eq_false h1
  refine ⟨?_,trivial⟩
  show gh l=eN l i
  rw [gh,show l.length-1=i by omega]
def xC:GF:=fun l=>match l with
 | [.one (.ro .bool l)]=>some ⟨[.one (.rw 0)],[(0,.row 3 .int (gh l))],some (1≤l.length∧l.length≤1000)⟩
 |_=>none
theorem tw:ab 67 (aq xC):=af aj Qz Tryz.func67 (by kernel_rfl) rfl (rs:= [.tmp 2]) Tryz.results67 fun l g h hp=>by
 unfold xC at h
 split at h
 ·cases h;exact ⟨Nat.le_of_ble_eq_true rfl,rfl,rfl,rfl,Pd _ hp⟩
 ·cases h
def Ec:List (Nat×CF):=(67,aq xC):: []
theorem Nc:∀p∈Ec,ab p.1 p.2:=ae tw fun p hp=>by cases hp
theorem Mq:ap am (ah Ec):=az aj (aR Nc)
set_option maxHeartbeats 8000000 in
theorem Hv (seed:List UInt8) (v:Int) (o k:List Bool) (a:Nat) (S P I M:List UInt8) (h:(1≤o.length∧o.length≤1000)∧(1≤k.length∧k.length≤1000)):vc am (ah Ec) Tryz.f27.ntmps (ag Tryz.f27) ⟨al 0 [.one (.ptr 1000 0)],aK 1000 (fD seed v o k a S P I M),2000⟩ (br am Tryz.f27.ntmps [.tmp 2,.tmp 3] [.one (.rw 0),.one (.rw 1)] [(0,.row 3 .int (gh o)),(1,.row 3 .int (gh k))] (fD seed v o k a S P I M) []):=by
 exact ⟨h.1,h.2,rfl,rfl,trivial⟩
def qM:fb:=fun l cs=>match l,cs with
 | [.one (.ptr 1000 0)],[.blk 84 [.rw 1001,.ob .int v,.ptr 1002 0,.sub 1003 0 32,.sub 1004 0 32,.rw 1005,.rw 1006],.row 5 .u8 seed,.blk 157 [.ob (.x 2) a,.sub 1007 32 32,.rw 1008],.row 5 .u8 I,.row 5 .u8 M,.row 4 .bool o,.row 4 .bool k,.row 5 .u8 S,.row 5 .u8 P]=>some ⟨[.one (.rw 0),.one (.rw 1)],[(0,.row 3 .int (gh o)),(1,.row 3 .int (gh k))],[],some ((1≤o.length∧o.length≤1000)∧(1≤k.length∧k.length≤1000))⟩
 |_,_=>none
set_option maxHeartbeats 8000000 in
theorem qc:ab 27 (gB qM):=aQ aj Mq Tryz.func27 (by kernel_rfl) rfl (rs:= [.tmp 2,.tmp 3]) Tryz.results27 fun l cs g h hp=>by
 unfold qM at h
 split at h
 ·cases h
  exact ⟨Nat.le_of_ble_eq_true rfl,rfl,rfl,rfl,Hv _ _ _ _ _ _ _ _ _ hp⟩
 ·cases h
set_option maxHeartbeats 8000000 in
theorem Lv (seed:List UInt8) (v:Int) (o k:List Bool) (a:Nat) (S P I M:List UInt8):vc am (ah Ec) Tryz.f30.ntmps (ag Tryz.f30) ⟨al 0 [.one (.ptr 1000 0)],aK 1000 (fD seed v o k a S P I M),2000⟩ (br am Tryz.f30.ntmps [.tmp 2] [.one (.ob .int v)] [] (fD seed v o k a S P I M) []):=by
 exact ⟨rfl,trivial⟩
theorem H7:vc am (ah Ec) Tryz.f30.ntmps (ag Tryz.f30) ⟨al 0 [.one (.cv (.pointer none))],aK 1000 [],2000⟩ (br am Tryz.f30.ntmps [.tmp 2] [.one (.ob .int 0)] [] [] []):=⟨rfl,trivial⟩
def xH:fb:=fun l cs=>match l,cs with
 | [.one (.cv (.pointer none))],[]=>some ⟨[.one (.ob .int 0)],[],[],none⟩
 | [.one (.ptr 1000 0)],[.blk 84 [.rw 1001,.ob .int v,.ptr 1002 0,.sub 1003 0 32,.sub 1004 0 32,.rw 1005,.rw 1006],.row 5 .u8 seed,.blk 157 [.ob (.x 2) a,.sub 1007 32 32,.rw 1008],.row 5 .u8 I,.row 5 .u8 M,.row 4 .bool o,.row 4 .bool k,.row 5 .u8 S,.row 5 .u8 P]=>some ⟨[.one (.ob .int v)],[],[],none⟩
 |_,_=>none
set_option maxHeartbeats 8000000 in
theorem tE:ab 30 (gB xH):=aQ aj Mq Tryz.func30 (by kernel_rfl) rfl (rs:= [.tmp 2]) Tryz.results30 fun l cs g h hp=>by
 unfold xH at h
 split at h
 ·cases h
  exact ⟨Nat.le_of_ble_eq_true rfl,rfl,rfl,rfl,H7⟩
 ·cases h
  exact ⟨Nat.le_of_ble_eq_true rfl,rfl,rfl,rfl,Lv _ _ _ _ _ _ _ _ _⟩
 ·cases h
theorem pm {l:List Bool} {cs:List Value}:aU Kd.bool.rp l cs↔cs=l.map Value.bool:=by
 induction l generalizing cs with
 |nil=>exact Iff.rfl
 |cons x l ih=>
  constructor
  ·rintro ⟨h,r,h1,rfl,h2⟩
   rw [show h= [_] from h1,ih.1 h2];rfl
  ·rintro rfl
   exact ⟨[Value.bool x],_,rfl,rfl,ih.2 rfl⟩
theorem oB (w:World) (d:Nat) (a:Option Addr) (l c:Nat):(Op.equalIn (d+1) 81 (.slice a l c) (.slice none 0 0)).run Tryz.prog w= .ok a.isNone w:=by
 cases a<;>simp [Op.equalIn,run_underlying Tryz.underlying81]
theorem vN (w:World) (a:Option Addr) (l c:Nat):(Op.equal 81 (.slice a l c) (.slice none 0 0)).run Tryz.prog w= .ok a.isNone w:=oB w 9999 a l c
theorem jV (a:Option Addr) (l c:Nat) (w:World):(binOp .eql 81 (.slice a l c) (.slice none 0 0)).run Tryz.prog w= .ok (.bool a.isNone) w:=by
 simp [binOp,vN w a l c]
theorem BK (w:World) {ops:Array Oper} {rest:List Oper} {o:Oper} {a:Act} {Q:Exit→Act→World→Prop} (hgd:o.guard=none) (s x:Operand)
  (ho:o.op= .call {callee:= .builtin .append,args:= #[s,x],argTypes:= #[81,81]}) (base:Nat) (v:Value) (hs:a.eval s=v) (hown:w.ownsRow base 4 1 v 0 [])
  (ad:Addr) (sc:Nat) (r:List Bool) (hx:a.eval x= .slice (some ad) r.length sc) (hr:∀j u,(r.map Value.bool)[j]?=some u→w.cell? (ad.add j)=some u) (hlen:r.length≤16777216) (hbase:base≤w.heap.size) (w0:World) (hb0:Below base w0 w)
  (h:∀v' w',w'.ownsRow base 4 1 v' r.length (r.map Value.bool)→Below base w0 w'→wpList Tryz.prog ops Q rest (a.put o.dst v') w'):wpList Tryz.prog ops Q (o::rest) a w:=by
 obtain ⟨i0,hi,hz0,hz1,hz2⟩:=info_parts (show (Tryz.prog.info? 4).map (fun i=>(i.zero,i.size,i.bytes))=some (some (.bool false),1,1) from by kernel_rfl)
 refine wpList_append_own w hgd s x 81 ho base 4 i0 (.bool false) 1 1 Tryz.underlying81 hi hz0 hz1 hz2 rfl (by decide) v 0 [] hs hown ad r.length sc (r.map Value.bool) hx (by simp) hr ?_ (by unfold maxLen;omega) (by omega) hbase ?_
 ·intro u hu
  simp at hu
  rcases hu with ⟨_,rfl⟩|⟨_,rfl⟩<;>rfl
 ·intro v' w' hown' hgr _
  rw [List.nil_append,Nat.zero_add] at hown'
  refine h v' w' hown' (hb0.grown hgr hbase fun q hq=> ?_)
  rcases hown.2 with ⟨h,_⟩|⟨g,cap,cur,hv,hg,_⟩
  ·rw [h] at hq;simp [Value.ownBlock] at hq
  ·rw [hv] at hq;simp [Value.ownBlock] at hq;omega
set_option maxHeartbeats 1000000 in
theorem w6 {A:Nat→Prop} {v:Value} {l:List Bool} (w:World) (h:eG A w .bool l v) (hm:l.length≤16777216):
  Calls Tryz.prog 70 #[v] w fun e w'=>∃u,e= .returned u∧w'.ownsRow w.heap.size 4 1 u l.length (l.map Value.bool)∧Below w.heap.size w w':=by
 obtain ⟨a,c,rfl,hlc,hc,hn,hr⟩:=h
 cases a with
 |none=>
  obtain rfl:=hn rfl
  obtain rfl:l= []:=List.eq_nil_of_length_eq_zero (by omega)
  have hq:=jV none 0 0
  rw [show (none:Option Addr).isNone=true from rfl] at hq
  go_enter Tryz.func70,Tryz.ntmps70
  go_wp2
  go_ret
  exact ⟨_,rfl,⟨rfl,.inl ⟨rfl,rfl⟩⟩,(by repeat (first|(with_reducible refine Below.alloc' ?_ _)|(with_reducible refine Below.drew ?_)|(with_reducible refine below_drewN ?_ _)|((with_reducible refine Below.setCell ?_ ?_ _);rotate_left;(focus (first|exact Nat.le_refl _|(simp;done)|(simp;omega))))|(with_reducible assumption)|(with_reducible exact Below.refl _ _)))⟩
 |some ad=>
  have hcell:∀j u,(l.map Value.bool)[j]?=some u→w.cell? (ad.add j)=some u:=fun j u hu=>by
   have hj:=(List.getElem?_eq_some_iff.1 hu).1
   rw [List.length_map] at hj
   obtain ⟨g,o,cs,e,_,hL,hR⟩:=hr (by omega)
   cases e
   rw [show Addr.add ⟨g,o,none⟩ j=⟨g,o+j,none⟩ from by unfold Addr.add;split<;>simp_all]
   exact hR j u (by rw [pm.1 hL];exact hu)
  have HL:=Lib.hid hcell;have HM:=Lib.hid hm
  clear hcell hm hr hn hc hlc
  generalize hlen:l.length=n at*
  have hq:=jV (some ad) n c
  rw [show (some ad).isNone=false from rfl] at hq
  go_enter Tryz.func70,Tryz.ntmps70
  go_wp2_with (at_builtin;go_must (refine BK _ rfl (.tmp 5) (.tmp 6) rfl w.heap.size _ rfl (vb w 4 w.heap.size (Nat.le_refl _)) ad c l (by rw [hlen];rfl) (fun j u hu=>by have hB:Below w.heap.size w (w.alloc (.cells #[] 4)):=(by repeat (first|(with_reducible refine Below.alloc' ?_ _)|(with_reducible refine Below.drew ?_)|(with_reducible refine below_drewN ?_ _)|((with_reducible refine Below.setCell ?_ ?_ _);rotate_left;(focus (first|exact Nat.le_refl _|(simp;done)|(simp;omega))))|(with_reducible assumption)|(with_reducible exact Below.refl _ _)));rw [hB.cell (cz (HL.out j u hu))];exact HL.out j u hu) (by rw [hlen];exact HM.out) (by simp) w (by exact (by repeat (first|(with_reducible refine Below.alloc' ?_ _)|(with_reducible refine Below.drew ?_)|(with_reducible refine below_drewN ?_ _)|((with_reducible refine Below.setCell ?_ ?_ _);rotate_left;(focus (first|exact Nat.le_refl _|(simp;done)|(simp;omega))))|(with_reducible assumption)|(with_reducible exact Below.refl _ _)))) ?_;intro v1 w1 hown hb1;rw [hlen] at hown;have HO:=Lib.hid hown;clear hown))
  go_wp2
  go_ret
  exact ⟨_,rfl,HO.out,hb1⟩
def qV:GF:=fun l=>match l with
 | [.one (.ro .bool b)]=>some ⟨[.one (.rw 0)],[(0,.row 4 .bool b)],some (b.length≤16777216)⟩
 |_=>none
theorem qk:ab 70 (aq qV):=by
 refine ⟨⟨_,_,Tryz.func70,by kernel_rfl,rfl⟩,fun nx args sl H ds res rd qs h hq hp η w vs hH hv hfree=> ?_⟩
 obtain ⟨l,rd1,h1,hl⟩:=fB hH h hv
 split at h1
 ·split at h1
  ·rename_i outs us p e3
   have:=lq h1
   subst this
   have hl:=cR hl
   generalize cK l=l' at hl e3
   unfold qV at e3
   split at e3
   ·rename_i b
    cases e3
    obtain ⟨v1,t,rfl,⟨u1,f1,h1⟩,rfl⟩:=hl
    cases List.singleton_inj.1 f1
    refine (w6 w h1 hp).mono fun e w' ⟨v,he,ho,hbl⟩=> ?_
    have hge:∀g,qL v=some g→w.heap.size≤g:=fun g hg=>by
     rcases ho.2 with ⟨rfl,_⟩|⟨g',cap,cur,rfl,h4,_⟩
     ·cases hg
     ·cases hg;exact h4
    have ho0:w'.ownsRow 0 4 1 v b.length (b.map Value.bool):=⟨ho.1,ho.2.imp_right fun ⟨g',cap,cur,h4,h5,h6⟩=>⟨g',cap,cur,h4,Nat.zero_le _,h6⟩⟩
    have h1c:v.oneCell'=true:=by rcases ho.2 with ⟨rfl,_⟩|⟨g',cap,cur,rfl,_⟩<;>rfl
    obtain ⟨η',hR⟩:=bj.many (ηc:=fun b=>if b=nx then some v else none) (Ac:=fun _=>True) (pre:=some (b.length≤16777216)) hH hfree (us:= [(0,.row 4 .bool b)]) rfl hbl
     (fun p hp=>by
      rw [List.mem_singleton] at hp
      subst hp
      exact ⟨v,_,if_pos rfl,pm.2 rfl,ho0⟩)
     (fun p hp r hr hne=>by
      rw [List.mem_singleton] at hp hr
      subst hp hr
      exact absurd rfl hne)
     (fun p hp g hg=>by
      rw [List.mem_singleton] at hp
      subst hp
      refine hge g ?_
      replace hg:(if nx+0=nx then some v else none).bind qL=some g:=hg
      rw [if_pos (Nat.add_zero nx)] at hg
      exact hg) (outs:= [.one (.rw 0)]) rfl (v:=v) ⟨v,if_pos rfl,rfl,h1c⟩
    exact ⟨v,η',he,hR⟩
   ·cases e3
  ·cases h1
 ·cases h1
def IS:List (Nat×CF):=(70,aq qV):: []
theorem Nd:∀p∈IS,ab p.1 p.2:=ae qk fun p hp=>by cases hp
theorem Qw:ap am (ah IS):=az aj (aR Nd)
set_option maxHeartbeats 8000000 in
theorem Lr (seed:List UInt8) (v:Int) (o k:List Bool) (a:Nat) (S P I M:List UInt8) (h:o.length≤16777216∧k.length≤16777216):vc am (ah IS) Tryz.f31.ntmps (ag Tryz.f31) ⟨al 0 [.one (.ptr 1000 0)],aK 1000 (fD seed v o k a S P I M),2000⟩ (br am Tryz.f31.ntmps [.tmp 2] [.one (.ptr 0 0)] [(0,.blk 84 [.rw 1001,.ob .int v,.ptr 1002 0,.sub 1003 0 32,.sub 1004 0 32,.rw 1,.rw 2]),(1,.row 4 .bool o),(2,.row 4 .bool k)] (fD seed v o k a S P I M) []):=by
 exact ⟨h.1,h.2,rfl,rfl,rfl,rfl,rfl,rfl,rfl,trivial⟩
theorem Hu:vc am (ah IS) Tryz.f31.ntmps (ag Tryz.f31) ⟨al 0 [.one (.cv (.pointer none))],aK 1000 [],2000⟩ (br am Tryz.f31.ntmps [.tmp 2] [.one (.cv (.pointer none))] [] [] []):=⟨rfl,trivial⟩
def xB:fb:=fun l cs=>match l,cs with
 | [.one (.cv (.pointer none))],[]=>some ⟨[.one (.cv (.pointer none))],[],[],none⟩
 | [.one (.ptr 1000 0)],[.blk 84 [.rw 1001,.ob .int v,.ptr 1002 0,.sub 1003 0 32,.sub 1004 0 32,.rw 1005,.rw 1006],.row 5 .u8 seed,.blk 157 [.ob (.x 2) a,.sub 1007 32 32,.rw 1008],.row 5 .u8 I,.row 5 .u8 M,.row 4 .bool o,.row 4 .bool k,.row 5 .u8 S,.row 5 .u8 P]=>some ⟨[.one (.ptr 0 0)],[(0,.blk 84 [.rw 1001,.ob .int v,.ptr 1002 0,.sub 1003 0 32,.sub 1004 0 32,.rw 1,.rw 2]),(1,.row 4 .bool o),(2,.row 4 .bool k)],[],some (o.length≤16777216∧k.length≤16777216)⟩
 |_,_=>none
set_option maxHeartbeats 8000000 in
theorem tr:ab 31 (gB xB):=aQ aj Qw Tryz.func31 (by kernel_rfl) rfl (rs:= [.tmp 2]) Tryz.results31 fun l cs g h hp=>by
 unfold xB at h
 split at h
 ·cases h
  exact ⟨Nat.le_of_ble_eq_true rfl,rfl,rfl,rfl,Hu⟩
 ·cases h
  exact ⟨Nat.le_of_ble_eq_true rfl,rfl,rfl,rfl,Lr _ _ _ _ _ _ _ _ _ hp⟩
 ·cases h
set_option maxRecDepth 10000
set_option linter.unusedVariables false
theorem K6 {k n:Int} (hn:0<n) (h:k.tmod n<0):k.tmod n+n=k%n:=by
 have h1:=Int.tmod_eq_emod (a:=k) (b:=n)
 have h2:=Int.emod_nonneg k (show n≠0 by omega)
 have h3:(n.natAbs:Int)=n:=by omega
 generalize k%n=r at*
 generalize k.tmod n=t at*
 split at h1<;>omega
theorem K7 {k n:Int} (hn:0<n) (h:¬k.tmod n<0):k.tmod n=k%n:=by
 have h1:=Int.tmod_eq_emod (a:=k) (b:=n)
 have h2:=Int.emod_lt_of_pos k hn
 have h3:(n.natAbs:Int)=n:=by omega
 generalize k%n=r at*
 generalize k.tmod n=t at*
 split at h1<;>omega
set_option maxHeartbeats 1000000 in
theorem K5 {k n:Int} {w:World} (hn:0<n) (hn2:n≤4611686018427387904):Calls Tryz.prog 21 #[.int .i64 k,.int .i64 n] w fun e w'=>e= .returned (.int .i64 (k%n))∧w=w':=by
 have hz:n≠0:=by omega
 by_cases ht:k.tmod n<0
 ·have hd:decide (k.tmod n<0)=true:=decide_eq_true ht
  have hlo: -n<k.tmod n:=Int.lt_tmod_of_pos k hn
  have HE:=Lib.hid (K6 hn ht)
  have hw:IntKind.i64.wrap (k.tmod n+n)=k.tmod n+n:=by rw [IntKind.wrap_i64];omega
  obtain ⟨t,hte⟩:∃t,k.tmod n=t:=⟨_,rfl⟩
  rw [hte] at hd hlo HE hw ht
  go_enter Tryz.func21,Tryz.ntmps21
  go_wp2
  go_ret
  rw [←HE.out]
  exact ⟨rfl,rfl⟩
 ·have hd:decide (k.tmod n<0)=false:=decide_eq_false ht
  have HE:=Lib.hid (K7 hn ht)
  obtain ⟨t,hte⟩:∃t,k.tmod n=t:=⟨_,rfl⟩
  rw [hte] at hd HE ht
  go_enter Tryz.func21,Tryz.ntmps21
  go_wp2
  go_ret
  rw [←HE.out]
  exact ⟨rfl,rfl⟩
def rh:GF:=fun l=>match l with
 | [.one (.ob .int z),.one (.ob .int n)]=>some ⟨[.one (.ob .int (z%n))],[],some (0<n∧n≤(4611686018427387904:Int))⟩
 |_=>none
theorem lb:ab 21 (aq rh):=aN Tryz.func21 (by kernel_rfl) rfl fun l g h hp=>by
 unfold rh at h
 split at h
 ·rename_i z n
  cases h
  refine ⟨rfl,rfl,fun η w vs ⟨v1,t1,e1,h1,v2,t2,e2,h2,e3⟩=> ?_⟩
  subst e3 e2 e1
  cases List.singleton_inj.1 (show [v1]= [_] from h1)
  cases List.singleton_inj.1 (show [v2]= [_] from h2)
  exact (K5 (k:=z) (n:=n) hp.1 hp.2).mono fun e w' ⟨he,hb⟩=>⟨_,he,by subst hb;exact Below.refl _ _,fun _ _=>rfl⟩
 ·cases h
def SC:List (Nat×CF):= [(21,aq rh)]
theorem Qa:∀p∈SC,ab p.1 p.2:=ae lb fun p hp=>by cases hp
theorem ST:ap bE (ah SC):=az aF (aR Qa)
def SY (t:Int) (i:Nat):UInt8:=UInt8.ofNat (((i:Int)*i+t*7+1)%251).toNat
def oM (n:Nat) (t:Int) (i:Nat):List UInt8:=(List.range n).map fun j=>if j<i then SY t j else 0
def Mu (n:Nat) (t:Int):List UInt8:=(List.range n).map (SY t)
theorem QG (n:Nat) (t:Int):oM n t 0=List.replicate n 0:=by
 refine List.ext_getElem (by simp [oM]) fun i h1 h2=> ?_
 simp [oM]
theorem Ab (n:Nat) (t:Int) (i:Nat):(oM n t i).length=n:=by simp [oM]
theorem Jf (n:Nat) (t:Int):(Mu n t).length=n:=by simp [Mu]
theorem QH (n:Nat) (t:Int):oM n t n=Mu n t:=by
 refine List.ext_getElem (by simp [oM,Mu]) fun i h1 h2=> ?_
 have:i<n:=by simpa [oM] using h1
 simp [oM,Mu,this]
theorem Jg {n:Nat} (t:Int) {i:Nat} (h:i<n):oM n t (i+1)=(oM n t i).set i (SY t i):=by
 refine List.ext_getElem (by simp [oM]) fun j h1 h2=> ?_
 rw [List.getElem_set]
 by_cases e:i=j
 ·subst e;simp [oM]
 ·by_cases k:j<i
  ·simp [oM,e,k,show j<i+1 by omega]
  ·simp [oM,e,k,show ¬j<i+1 by omega]
theorem QI {i:Nat} {t:Int} (h:i≤1000) (t0:0≤t) (t1:t≤1000000):jq ((i:Int)*i)∧jq (t*7)∧jq ((i:Int)*i+t*7)∧jq ((i:Int)*i+t*7+1)∧0≤((i:Int)*i+t*7+1)%251∧jq ((i:Int)+1):=by
 have h1:(i:Int)*i≤1000*1000:=Int.mul_le_mul (by omega) (by omega) (by omega) (by omega)
 have h0:0≤(i:Int)*i:=Int.mul_nonneg (by omega) (by omega)
 generalize (i:Int)*i=q at*
 exact ⟨⟨by omega,by omega⟩,⟨by omega,by omega⟩,⟨by omega,by omega⟩,⟨by omega,by omega⟩,by omega,⟨by omega,by omega⟩⟩
theorem H8 (n t:Int) (hp:0≤n∧n≤1000∧0≤t∧t≤1000000):vc bE (ah SC) Tryz.f36.ntmps (ag Tryz.f36) ⟨al 0 [.one (.ob .int n),.one (.ob .int t)],[],2000⟩ (aD bE Tryz.f36.ntmps [.tmp 4] [.one (.rw 0)] [(0,.row 5 .u8 (Mu n.toNat t))]):=by
 obtain ⟨n0,n1,t0,t1⟩:=hp
 have em:max n (0:Int)=n:=Int.max_eq_left n0
 refine ⟨⟨?_,rfl,?_⟩,?_⟩
 ·show (0:Int)≤max n (0:Int)
  rw [em];exact n0
 ·show max n (0:Int)≤16777216
  rw [em];omega
 refine Or.inr ⟨{i:Nat // i≤n.toNat},fun i=>⟨[(6,.one (.ob .int (i.1:Int)))],[(2048,.row 5 .u8 (oM n.toNat t i.1))]⟩,fun i=>n.toNat-i.1,⟨0,Nat.zero_le _⟩,?_⟩
 refine ⟨rfl,?_,fun i=> ?_⟩
 ·show oM n.toNat t 0=List.replicate (max n (0:Int)).toNat 0
  rw [em,QG]
 ·obtain ⟨i,hi⟩:=i
  intro hl
  refine ⟨fun h=> ?_,fun h=> ?_⟩
  ·have hln:=Ab n.toNat t i
   have h:(i:Int)<((oM n.toNat t i).length:Int):=of_decide_eq_true h
   have hi2:i<n.toNat:=by omega
   obtain ⟨p1,p2,p3,p4,p5,p6⟩:=QI (i:=i) (t:=t) (by omega) t0 t1
   refine ⟨p1,p2,p3,p4,⟨by decide,by decide⟩,p5,⟨Int.natCast_nonneg _,h⟩,(by show ((i:Int)).toNat<(oM n.toNat t i).length;omega),p6,⟨i+1,hi2⟩,?_,rfl,?_,trivial⟩
   ·show n.toNat-(i+1)<n.toNat-i
    omega
   ·exact Jg t hi2
  ·have hln:=Ab n.toNat t i
   have h:¬(i:Int)<((oM n.toNat t i).length:Int):=of_decide_eq_false h
   obtain rfl:i=n.toNat:=by omega
   exact ⟨(QH _ _).symm,trivial⟩
def qU:GF:=fun l=>match l with
 | [.one (.ob .int n),.one (.ob .int k)]=>some ⟨[.one (.rw 0)],[(0,.row 5 .u8 (Mu n.toNat k))],some (0≤n∧n≤(1000:Int)∧0≤k∧k≤(1000000:Int))⟩
 |_=>none
theorem qd:ab 36 (aq qU):=af aF ST Tryz.func36 (by kernel_rfl) rfl (rs:= [.tmp 4]) Tryz.results36 fun l g h hp=>by
 unfold qU at h
 split at h
 ·cases h;exact ⟨Nat.le_of_ble_eq_true rfl,rfl,rfl,rfl,H8 _ _ hp⟩
 ·cases h
set_option maxRecDepth 10000
set_option linter.unusedVariables false
def IT:List (Nat×CF):= [(21,aq rh),(36,aq qU)]
theorem Ed:∀p∈IT,ab p.1 p.2:=ae lb<|ae qd fun p hp=>by cases hp
theorem Qx:ap am (ah IT):=az aj (aR Ed)
def Bo (n:Int):List UInt8:=Mu 32 (n%1000)
theorem iy (n:Int):(Bo n).length=32:=Jf _ _
theorem Ps (n:Int):vc am (ah IT) Tryz.f13.ntmps (ag Tryz.f13) ⟨al 0 [.one (.ob .int n)],[],2000⟩ (aD am Tryz.f13.ntmps [.tmp 2] [.one (.rw 0)] [(0,.row 5 .u8 (Bo n))]):=by
 have b1:(0:Int)≤32∧(32:Int)≤1000∧0≤n%1000∧n%1000≤1000000:=by omega
 exact ⟨⟨by decide,by decide⟩,b1,rfl,trivial⟩
def FL:GF:=fun l=>match l with
 | [.one (.ob .int n)]=>some ⟨[.one (.rw 0)],[(0,.row 5 .u8 (Bo n))],none⟩
 |_=>none
theorem vS:ab 13 (aq FL):=af aj Qx Tryz.func13 (by kernel_rfl) rfl (rs:= [.tmp 2]) Tryz.results13 fun l g h hp=>by
 unfold FL at h
 split at h
 ·cases h;exact ⟨Nat.le_of_ble_eq_true rfl,rfl,rfl,rfl,Ps _⟩
 ·cases h
def IU:List (Nat×CF):=(13,aq FL)::(18,PO Fg)::(19,PO Fh)::(16,Tw (aq FP))::IT
theorem Ee:∀p∈IU,ab p.1 p.2:=ae vS<|ae wT.e<|ae wU.e<|ae zM.m Ed
theorem Qy:ap am (ah IU):=az aj (aR Ee)
theorem AH {seed:List UInt8} {v n:Int} (hs:seed.length=32) (h:1≤v∧v≤2∧0≤n∧n≤10):Om seed v (uK n) (rM v n) (qA (bB seed)) (aM (bB seed)) (dV (bB seed)) (dH seed 1) (dH seed 2):=by
 refine ⟨by omega,h.1,h.2.1,?_,?_,rfl,rfl,rfl,rfl,rfl⟩
 ·rw [uK,List.length_replicate];omega
 ·rw [rM]
  split
  ·rw [uK,List.length_replicate];omega
  ·decide
set_option maxHeartbeats 4000000 in
theorem Lp:vc am (ah IU) Tryz.f11.ntmps (ag Tryz.f11) ⟨al 0 [],[],2000⟩ (aD am Tryz.f11.ntmps [.tmp 0] [.one (.ob .bool true)] []):=by
 have hr:(1:Int)≤2∧(2:Int)≤2∧(0:Int)≤1∧(1:Int)≤10:=by decide
 refine ⟨fun h0=> ?_,fun h0=>absurd hr (of_decide_eq_false h0)⟩
 refine ⟨h0,iy 1,fun h1=>absurd rfl (of_decide_eq_true h1),fun h1=>⟨h1,fun h2=>absurd rfl (of_decide_eq_true h2),fun h2=>⟨fun h3=>⟨fun h4=>Bool.noConfusion h4,fun h4=> ?_⟩,fun h3=>absurd ⟨by decide,by decide⟩ (of_decide_eq_false h3)⟩⟩⟩
 refine ⟨h3,h4,AH (iy 1) hr,fun h5=>⟨fun h6=>⟨fun h7=> ?_,fun h7=> ?_⟩,fun h6=> ?_⟩,fun h5=>absurd rfl (of_decide_eq_false h5)⟩
 ·refine ⟨fun h8=> ?_,fun h8=>absurd (by show ((cE _).length:Int)=1184;rw [fS];rfl) (of_decide_eq_false h8)⟩
  refine ⟨h5,h6,h7,h8,fun _=>⟨?_,trivial⟩⟩
  show [true]= [decide (bn (bd cE (Bo 1) 2 1 0) 2=0)]
  rw [DB TR _ ⟨by decide,by decide,by decide,by decide,by decide,by decide⟩ (by decide)]
  rfl
 ·exact absurd rfl (of_decide_eq_false h7)
 ·exact Bool.noConfusion h6
def xA:GF:=fun l=>match l with
 | []=>some ⟨[.one (.ob .bool true)],[],none⟩
 |_=>none
theorem tk:ab 11 (aq xA):=af aj Qy Tryz.func11 (by kernel_rfl) rfl (rs:= [.tmp 0]) Tryz.results11 fun l g h hp=>by
 unfold xA at h
 split at h
 ·cases h;exact ⟨Nat.le_of_ble_eq_true rfl,rfl,rfl,rfl,Lp⟩
 ·cases h
def P6:List (Nat×CF):=(11,aq xA)::IU
theorem Nf:∀p∈P6,ab p.1 p.2:=ae tk Ee
set_option maxRecDepth 10000
set_option linter.unusedVariables false
def Ng:List (Nat×CF):=(25,PO qT)::(31,wY xB)::(27,wY qM)::(30,wY xH)::P6
theorem Nh:∀p∈Ng,ab p.1 p.2:=ae qe.e<|ae tr.q<|ae qc.q<|ae tE.q Nf
theorem Mr:ap am (ah Ng):=az aj (aR Nh)
set_option maxHeartbeats 64000000 in
theorem Il (n id:Int):vc am (ah Ng) Tryz.f8.ntmps (ag Tryz.f8) ⟨al 0 [.one (.ob .int n),.one (.ob .int id)],[],2000⟩ (aD am Tryz.f8.ntmps [.tmp 4] [.one (.ob .bool true)] []):=by
 refine ⟨fun a0=>⟨a0,rfl,trivial⟩,fun a0=>⟨a0,fun a1=>⟨rfl,trivial⟩,fun a1=> ?_⟩⟩
 have a0:=of_decide_eq_false a0
 have a1:=of_decide_eq_false a1
 have hid:id=1∨id=2∨id=3:=by omega
 have hr:(1:Int)≤2∧(2:Int)≤2∧(0:Int)≤3∧(3:Int)≤10:=by decide
 have hK:=AH (iy n) hr
 have n1:0≤id∧(0:Int)≤0:=by omega
 have n2:(0:Int)≤0∧0≤id:=by omega
 have f1:dN (uK 3) (rM 2 3) id id=false:=by rcases hid with rfl|rfl|rfl<;>rfl
 have f2:dN (bM (uK 3) id) (bM (rM 2 3) id) id 0=true:=by rcases hid with rfl|rfl|rfl<;>rfl
 have f3:dN (bM (uK 3) id) (bM (rM 2 3) id) 0 id=true:=by rcases hid with rfl|rfl|rfl<;>rfl
 have f4:dN (bM (uK 3) id) (bM (rM 2 3) id) 0 0=false:=by rcases hid with rfl|rfl|rfl<;>rfl
 have f5:lk (bM (bM (uK 3) id) 0) (bM (bM (rM 2 3) id) 0) 2 id 0=true:=by rcases hid with rfl|rfl|rfl<;>rfl
 have f6:lk (bM (bM (uK 3) id) 0) (bM (bM (rM 2 3) id) 0) 2 0 id=true:=by rcases hid with rfl|rfl|rfl<;>rfl
 have f7:lk (bM (bM (uK 3) id) 0) (bM (bM (rM 2 3) id) 0) 2 0 0=false:=by rcases hid with rfl|rfl|rfl<;>rfl
 have q1:(gh (uK 3)).length=3:=rfl
 have q2:(gh (rM 2 3)).length=3:=rfl
 have q3:(gh (bM (bM (uK 3) id) 0)).length=2:=by rcases hid with rfl|rfl|rfl<;>rfl
 have q4:(gh (bM (bM (rM 2 3) id) 0)).length=2:=by rcases hid with rfl|rfl|rfl<;>rfl
 have l1:(uK 3).length=4:=rfl
 have l2:(rM 2 3).length=4:=rfl
 have l3:(bM (bM (uK 3) id) 0).length=4:=by rcases hid with rfl|rfl|rfl<;>rfl
 have l4:(bM (bM (rM 2 3) id) 0).length=4:=by rcases hid with rfl|rfl|rfl<;>rfl
 refine ⟨fun h0=>⟨h0,iy n,fun h1=>absurd rfl (of_decide_eq_true h1),fun h1=> ?_⟩,fun h0=>absurd hr (of_decide_eq_false h0)⟩
 refine ⟨h1,⟨by rw [l1];decide,by rw [l2];decide⟩,?_⟩
 -- spend(id, id)
 refine ⟨fun h2=>⟨fun h3=>absurd (f1.symm.trans h3) Bool.noConfusion,fun h3=>⟨h2,h3,?_⟩⟩,fun h2=>absurd ⟨n1.1,n1.1⟩ (of_decide_eq_false h2)⟩
 -- spend(id, 0)
 refine ⟨fun h4=>⟨fun h5=>⟨h4,h5,?_⟩,fun h5=>absurd (f2.symm.trans h5) Bool.noConfusion⟩,fun h4=>absurd n1 (of_decide_eq_false h4)⟩
 -- spend(0, id)
 refine ⟨fun h6=>⟨fun h7=>⟨h6,h7,?_⟩,fun h7=>absurd (f3.symm.trans h7) Bool.noConfusion⟩,fun h6=>absurd n2 (of_decide_eq_false h6)⟩
 -- spend(0, 0)
 refine ⟨fun h8=>⟨fun h9=>absurd (f4.symm.trans h9) Bool.noConfusion,fun h9=>⟨h8,h9,?_⟩⟩,fun h8=>absurd ⟨by decide,by decide⟩ (of_decide_eq_false h8)⟩
 -- Publish
 refine ⟨fun h10=>⟨fun h11=>⟨h10,h11,?_⟩,fun h11=>absurd (f5.symm.trans h11) Bool.noConfusion⟩,fun h10=>absurd n1 (of_decide_eq_false h10)⟩
 refine ⟨fun h12=>⟨fun h13=>⟨h12,h13,?_⟩,fun h13=>absurd (f6.symm.trans h13) Bool.noConfusion⟩,fun h12=>absurd n2 (of_decide_eq_false h12)⟩
 refine ⟨fun h14=>⟨fun h15=>absurd (f7.symm.trans h15) Bool.noConfusion,fun h15=>⟨h14,h15,?_⟩⟩,fun h14=>absurd ⟨by decide,by decide⟩ (of_decide_eq_false h14)⟩
 refine ⟨⟨hK.1,hK.2.1,hK.2.2.1,by rw [l3];decide,by rw [l4];decide,hK.2.2.2.2.2⟩,⟨⟨by rw [l1];decide,by rw [l1];decide⟩,by rw [l2];decide,by rw [l2];decide⟩,⟨⟨by rw [l3];decide,by rw [l3];decide⟩,by rw [l4];decide,by rw [l4];decide⟩,?_⟩
 refine ⟨fun t1=> ?_,fun t1=>absurd rfl (of_decide_eq_false t1)⟩
 refine ⟨fun t2=> ?_,fun t2=>absurd rfl (of_decide_eq_false t2)⟩
 refine ⟨fun t3=> ?_,fun t3=>absurd rfl (of_decide_eq_false t3)⟩
 refine ⟨fun t4=> ?_,fun t4=>absurd rfl (of_decide_eq_false t4)⟩
 refine ⟨fun t5=> ?_,fun t5=>absurd rfl (of_decide_eq_false t5)⟩
 refine ⟨fun t6=> ?_,fun t6=>absurd rfl (of_decide_eq_false t6)⟩
 refine ⟨fun t7=> ?_,fun t7=>absurd rfl (of_decide_eq_false t7)⟩
 refine ⟨fun t8=> ?_,fun t8=>absurd (by rw [q1];rfl) (of_decide_eq_false t8)⟩
 refine ⟨fun t9=> ?_,fun t9=>absurd (by rw [q2];rfl) (of_decide_eq_false t9)⟩
 refine ⟨fun t10=> ?_,fun t10=>absurd (by rw [q3];rfl) (of_decide_eq_false t10)⟩
 refine ⟨fun t11=> ?_,fun t11=>absurd (by rw [q4];rfl) (of_decide_eq_false t11)⟩
 refine ⟨fun t12=> ?_,fun t12=>absurd rfl (of_decide_eq_false t12)⟩
 refine eT cA Mr 20 [] ?_
 refine ⟨fun u1=> ?_,fun u1=>absurd rfl (of_decide_eq_false u1)⟩
 refine ⟨fun u2=> ?_,fun u2=>absurd rfl (of_decide_eq_false u2)⟩
 refine ⟨fun u3=> ?_,fun u3=>absurd rfl (of_decide_eq_false u3)⟩
 refine ⟨fun u4=> ?_,fun u4=>absurd rfl (of_decide_eq_false u4)⟩
 refine ⟨fun u5=> ?_,fun u5=>absurd rfl (of_decide_eq_false u5)⟩
 refine ⟨fun u6=> ?_,fun u6=>absurd rfl (of_decide_eq_false u6)⟩
 refine ⟨fun u7=> ?_,fun u7=>absurd rfl (of_decide_eq_false u7)⟩
 refine ⟨fun u8=> ?_,fun u8=>absurd (by rw [q1];rfl) (of_decide_eq_false u8)⟩
 refine ⟨fun u9=> ?_,fun u9=>absurd (by rw [q2];rfl) (of_decide_eq_false u9)⟩
 refine ⟨fun u10=> ?_,fun u10=>absurd (by rw [q3];rfl) (of_decide_eq_false u10)⟩
 refine ⟨fun u11=> ?_,fun u11=>absurd (by rw [q4];rfl) (of_decide_eq_false u11)⟩
 refine ⟨fun u12=> ?_,fun u12=>absurd rfl (of_decide_eq_false u12)⟩
 refine ⟨fun u13=> ?_,fun u13=>absurd rfl (of_decide_eq_false u13)⟩
 refine ⟨fun u14=> ?_,fun u14=>absurd rfl (of_decide_eq_false u14)⟩
 refine ⟨t1,t2,t3,t4,t5,t6,t7,t8,t9,t10,t11,t12,u13,u14,?_⟩
 intro _ _ _ _
 exact ⟨rfl,trivial⟩
def H0:Nat→Option Ch:=fun _=>none
def E0:aY:=fun _=>none
theorem hp0 (w:World):bX H0 E0 w:=⟨fun b c h=>(by cases h),fun b b' g _ h=>absurd rfl h⟩
theorem Ms (g:Nat):ay H0 E0 g:=fun b h=>absurd rfl h
theorem TS {w w':World} {H':Nat→Option Ch} {η':aY} (h:Fw H0 E0 w H' η' w'):Below w.heap.size w w'∧∀b g,H' b≠none→bf η' b=some g→w.heap.size≤g:=by
 refine ⟨⟨h.os,h.tape,h.output,h.size,fun g hg=>(h.anon g hg (Ms g)).1⟩,fun b g hb hg=> ?_⟩
 rcases Nat.lt_or_ge g w.heap.size with hl|hl
 ·exact absurd hg ((h.anon g hl (Ms g)).2 b hb)
 ·exact hl
theorem Df {f:Nat} {C:CF} (h:ab f C) {l:List AV} {vs:List Value} {rd:List cu} (h1:(C 1000 l).run (fun _=> []) H0 []= .ok ⟨[.one (.ob .bool true)],[],none,none⟩ rd []) {w:World} (hv:bp E0 (ay H0 E0) w l vs):Calls Tryz.prog f vs.toArray w fun e w'=>e= .returned (.bool true)∧Below w.heap.size w w':=by
 refine (h.call 1000 l (fun _=> []) H0 [] _ _ _ h1 (fun q hq=>by cases hq) trivial E0 w vs (hp0 w) hv fun _ _ _=>rfl).mono fun e w' ⟨v',η',he,hr⟩=> ?_
 have ho: [v']= [_]:=hr.out
 cases List.singleton_inj.1 ho
 exact ⟨he,(TS hr.fw).1⟩
end Go.Proofs.YtnlhpncaldcllaaGreat
