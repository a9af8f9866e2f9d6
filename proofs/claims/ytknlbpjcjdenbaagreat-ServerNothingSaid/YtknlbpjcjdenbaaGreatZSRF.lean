/- What SR rests on, part 6 of 6: my own texts, put together (merge.py). -/
import Derived.Test.YtknlbpjcjdenbaaGreatRows
import Derived.WalkKit
import Derived.ProofKit
import Derived.Lib.Hide
import Derived.OpenShut
import Derived.WalkSpells
import Derived.StillTactics
import Derived.Laws.Pointers
import Derived.Laws.CopyOwn
import Derived.Laws.AppendOwnNone
import Derived.Deep.RegionHeld3
import Derived.RowKit3
import Derived.BigQuiet
import Derived.Deep.QuietTactic
import Derived.Deep.LoopGhost
import Derived.Deep.DeepFit
import Derived.WalkLawsBesides
import Derived.Shelf.Spec.BitsCarry
import Derived.Maps.RangeWalk
import Derived.Deep.MidRow
import Derived.Laws.IdiomStrings
import Derived.Great.BuildSlice
import Derived.Lib.AppendZerosOnto
import Derived.Deep.DeepCutAuto
import Derived.Lib.SliceRun
import Derived.Laws.ResultCell
import Derived.Laws.CopyRow
import Derived.Deep.Cut
import Derived.Deep.RegionLaw
import Derived.Laws.Tables
import Derived.StillTailTactics
import Derived.Shelf.SlIter.Nil
import Derived.Shelf.SlLaysM
import Derived.Shelf.SortM.Plain
import Derived.Shelf.SortM.SortNone
import Derived.ShutString
import Derived.ChangeOld
import Derived.ChangeMaps5
import Derived.Test.YtknlbpjcjdenbaaGreatZSRE
set_option maxRecDepth 100000
namespace Go.Proofs.YtknlbpjcjdenbaaGreat
open Go Go.RowKit
structure GN (n:Nat) (T:List WP) (i:Nat) (L:Nat→Bool) (u:Nat→Value) (W:World):Prop where
 soft:L n=false→(T.getD i fj).P (u i) W
 val:∀x,T.getD i fj=gn x→u i=x
section
variable {n:Nat} {w1:World} {T:List WP} {P:World→Prop} {ops:Array Oper} {wt:Nat→Nat→Bool} {Q:Exit→Act→World→Prop} {fr:(Nat→Value)→Array Value} {df:List Deferred} {i:Nat} {o:Oper}
theorem GN.keep {k:Nat} {L:Nat→Bool} {u:Nat→Value} {z:Value} {W W':World} (hki:k≠i) (hb:Below W.heap.size W W') (h:GN n T k L u W):GN n T k (dT L i) (iI u i z) W':=
 ⟨fun hl=>by rw [dA hki];exact (T.getD k fj).st _ _ _ (h.soft (lg hl)) hb,fun x e=>by rw [dA hki];exact h.val x e⟩
theorem OK:E8 wt (GN n T):=⟨fun _ _ _ _ _ _ hki _ h=>GN.keep hki (Below.refl _ _) h,fun _ _ _ _ _ hb h=>⟨fun hl=>(T.getD _ fj).st _ _ _ (h.soft hl) hb,h.val⟩⟩
theorem GN.here {L:Nat→Bool} {u:Nat→Value} {v:Value} {W:World} (h:(T.getD i fj).P v W):GN n T i L (iI u i v) W:=⟨fun _=>by rw [cq];exact h,fun x e=>by rw [cq];rw [e] at h;exact h⟩
theorem Xk (hp:gM wt n i) (hr:∀u W,Below w1.heap.size w1 W→(∀j,wt i j=true→(T.getD j fj).P (u j) W)→∀K:Act→World→Prop,Shut (∀v w',Below W.heap.size W w'→(T.getD i fj).P v w'→K ((⟨fr u,df⟩:Act).put o.dst v) w')→Oper.wp Tryz.prog o ⟨fr u,df⟩ W K Q) (hi:i≠n:=by decide) (hg:o.guard=none:=by rfl):
  cY Tryz.prog ops wt Q fr df (GN n T) (JX n w1 P) i o:=by
 intro L u W hcl hJ hG hL hdep K hK
 rw [if_pos (by simp [Region.wanted,hg])]
 have hn:=Li hcl hp hL
 refine hr u W (hJ.old hn) (fun j hw=>(hG j (hdep j hw)).soft hn) K (fun v w' hb hv=> ?_)
 refine hK.out _ w' ⟨fun h=>Below.call (hJ.old hn) hb,fun h=> ?_⟩ (fun k hk hki hwk h=>GN.keep hki hb h) (GN.here hv)
 rw [bO (Ne.symm hi)] at h;rw [hn] at h;cases h
theorem Ya (hp:gM wt n i) (hr:∀u W,Below w1.heap.size w1 W→(∀j,wt i j=true→(T.getD j fj).P (u j) W)→∃v W',(execOp (⟨fr u,df⟩:Act).eval o).run Tryz.prog W= .ok (.value v) W'∧(T.getD i fj).P v W'∧Below W.heap.size W W') (hi:i≠n:=by decide) (hg:o.guard=none:=by rfl):
  cY Tryz.prog ops wt Q fr df (GN n T) (JX n w1 P) i o:=
 Xk hp (fun u W hb hu K hK=>by
  obtain ⟨v,W',hrun,hv,hb'⟩:=hr u W hb hu
  unfold Oper.wp
  rw [hrun]
  exact hK.out v W' hb' hv) hi hg
theorem X2 {x:Value} (hp:gM wt n i) (hT:T.getD i fj=gn x) (hr:∀u W,Below w1.heap.size w1 W→(∀j,wt i j=true→(T.getD j fj).P (u j) W)→(execOp (⟨fr u,df⟩:Act).eval o).run Tryz.prog W= .ok (.value x) W) (hi:i≠n:=by decide) (hg:o.guard=none:=by rfl):
  cY Tryz.prog ops wt Q fr df (GN n T) (JX n w1 P) i o:=
 Ya hp (fun u W hb hu=>⟨x,W,hr u W hb hu,by rw [hT];rfl,Below.refl _ _⟩) hi hg
theorem YU {x:Value} (hT:T.getD n fj=gn x) (hr:∀u W,Below w1.heap.size w1 W→(∀j,wt n j=true→(T.getD j fj).P (u j) W)→∀K:Act→World→Prop,Shut (∀w',P w'→K ((⟨fr u,df⟩:Act).put o.dst x) w')→Oper.wp Tryz.prog o ⟨fr u,df⟩ W K Q) (hg:o.guard=none:=by rfl):
  cY Tryz.prog ops wt Q fr df (GN n T) (JX n w1 P) n o:=by
 intro L u W hcl hJ hG hL hdep K hK
 rw [if_pos (by simp [Region.wanted,hg])]
 refine hr u W (hJ.old hL) (fun j hw=>(hG j (hdep j hw)).soft hL) K (fun w' hP=> ?_)
 refine hK.out x w' ⟨fun h=> ?_,fun _=>hP⟩ (fun k hk hki hwk h=>⟨fun hl=> ?_,fun y e=>by rw [dA hki];exact h.val y e⟩) ⟨fun hl=> ?_,fun y e=> ?_⟩
 ·rw [cU] at h;cases h
 ·rw [cU] at hl;cases hl
 ·rw [cU] at hl;cases hl
 ·rw [hT] at e
  have e2:(gn x).P x W:=rfl
  rw [e] at e2
  rw [cq];exact e2
theorem Vr {x:Value} (hp:gM wt i n) (hT:T.getD i fj=gn x) (hr:∀u W,(∀j,wt i j=true→∀y,T.getD j fj=gn y→u j=y)→(execOp (⟨fr u,df⟩:Act).eval o).run Tryz.prog W= .ok (.value x) W) (hi:i≠n:=by decide) (hg:o.guard=none:=by rfl):
  cY Tryz.prog ops wt Q fr df (GN n T) (JX n w1 P) i o:=by
 intro L u W hcl hJ hG hL hdep K hK
 rw [if_pos (by simp [Region.wanted,hg])]
 have hn:=hp.first hcl hdep
 unfold Oper.wp
 rw [hr u W (fun j hw y e=>(hG j (hdep j hw)).val y e)]
 refine hK.out x W ⟨fun h=> ?_,fun _=>hJ.done hn⟩ (fun k hk hki hwk h=>GN.keep hki (Below.refl _ _) h) ⟨fun hl=> ?_,fun y e=> ?_⟩
 ·rw [bO (Ne.symm hi)] at h;rw [hn] at h;cases h
 ·rw [bO (Ne.symm hi)] at hl;rw [hn] at hl;cases hl
 ·rw [hT] at e
  have e2:(gn x).P x W:=rfl
  rw [e] at e2
  rw [cq];exact e2
end
section
variable {F:List Value} {fr:(Nat→Value)→Array Value} {df:List Deferred} {ops:Array Oper} {id:Nat} {Q:Exit→Act→World→Prop} {w:World}
theorem YD (N n:Nat) (p:List (Nat×Nat)) (T:List WP) (P:World→Prop)
  (hsteps:dP Tryz.prog ops (fM .any ops) Q fr df (GN n T) (JX n w P) 0 ops.toList)
  (hdone:∀u W,P W→(∀k,k<N→∀x,T.getD k fj=gn x→u k=x)→Q .normal ⟨fr u,df⟩ W) (hnN:n<N)
  (hF:∀u,(oA F p u).toArray=fr u:=by intro u;dsimp only [oA];try exact rfl)
  (hc:LP p ops=true:=by kernel_rfl) (hn:ops.size=N:=by kernel_rfl) (hm:Tryz.prog.follows .mixedOrders=true:=by kernel_rfl) (he:fh .any ops=true:=by kernel_rfl):(Code.region id ops true).wp Tryz.prog Q ⟨F.toArray,df⟩ w:=by
 obtain ⟨u0,hu⟩:=jy p F (by simp only [LP,Bool.and_eq_true] at hc;exact hc.1)
 exact fa (a:=⟨F.toArray,df⟩) fr (GN n T) (JX n w P) u0 hm he (nW hc hF) (by rw [←hF,hu]) ⟨fun _=>(Below.refl _ _).drew,fun h=>by cases h⟩ OK (fun _=>hsteps)
  (fun L u W hall hJ hG=>hdone u W (hJ.done (hall n (by omega))) (fun k hk x e=>(hG k (by omega)).val x e))
end
end Go.Proofs.YtknlbpjcjdenbaaGreat
namespace Go.Proofs.YtknlbpjcjdenbaaGreat
open Go Go.RowKit Go.Maps
set_option linter.unusedVariables false
structure Lw (w W:World) (g p:Nat) (nm:ByteArray) (n v:Int) (T:Nat→Nat) (N:Nat) (e:En):Prop where
 srv:wu W g nm T N e
 stp:aj W p (dq nm n v) 27
 np:¬a_ T 4 p
 bel:Below w.heap.size w W
 old:∀x,x<w.heap.size→¬a_ T 4 x
theorem oj {T T':Nat→Nat} {x:Nat} (h:T' x=T x):a_ T' 4 x↔a_ T 4 x:=by unfold a_;rw [h]
theorem Lw.below {w W W':World} {g p N:Nat} {nm:ByteArray} {n v:Int} {T:Nat→Nat} {e:En} (h:Lw w W g p nm n v T N e) (hb:Below W.heap.size W W'):Lw w W' g p nm n v T N e:=⟨h.srv.below hb,h.stp.below' hb,h.np,Below.call h.bel hb,h.old⟩
theorem Lw.step {w W W':World} {g p N N':Nat} {nm:ByteArray} {n v:Int} {T T':Nat→Nat} {e e':En} (h:Lw w W g p nm n v T N e) (hT:∀x,x<W.heap.size→T' x=T x) (hS:wu W' g nm T' N' e') (hf:Fr (a_ T 4) W W'):Lw w W' g p nm n v T' N' e':=
 ⟨hS,hf.blk h.stp h.np,fun k=>h.np ((oj (hT p h.stp.lt)).1 k),h.bel.trans (hf.below h.bel.size fun x hx=>by
  rcases Nat.lt_or_ge x w.heap.size with k|k
  ·exact absurd hx (h.old x k)
  ·exact k),fun x hx k=>h.old x hx ((oj (hT x (Nat.lt_of_lt_of_le hx h.bel.size))).1 k)⟩
def wB (lo:Nat) (B:Bn):WP:=⟨fun v w=>∃cs:List Value,v= .agg cs.toArray∧cJ (fun x=>lo≤x) w B (.agg cs.toArray),fun v w w' ⟨cs,h1,h2⟩ hb=>⟨cs,h1,h2.below hb⟩⟩
def wS (lo:Nat) (l:List Bn):WP:=⟨fun v w=>∃(q:Nat) (zs:List Value),v= .slice (some ⟨q,0,none⟩) l.length l.length∧lo≤q∧aj w q zs 32∧cI (fun x=>lo≤x) w zs l,fun v w w' ⟨q,zs,h1,h2,h3,h4⟩ hb=>⟨q,zs,h1,h2,h3.below' hb,h4.later fun x hx ha=>⟨hb.block x hx,ha⟩⟩⟩
theorem rW {o:Oper} {a:Act} {w:World} {b:Nat} {x:Operand} {nm:ByteArray} {n v:Int} (ho:o.op= .load 27 x) (ha:a.eval x= .pointer (some ⟨b,0,none⟩)) (hr:w.rangeAt b 0 (dq nm n v)):(execOp a.eval o).run Tryz.prog w= .ok (.value (.agg (dq nm n v).toArray)) w:=by
 unfold execOp
 simp only [ho,ha,Sem.run_bind,run_loadAt_mid w b 0 27 (dq nm n v) _ hr Tryz.underlying27 rfl qj,Result.andThen_ok,Sem.run_pure]
theorem Fj (n v:Int) (ks:List Int):∀B∈ks.map (aC n v),B.fine:=fun B hB=>by
 obtain ⟨k,_,rfl⟩:=List.mem_map.1 hB
 exact fU n v k
end Go.Proofs.YtknlbpjcjdenbaaGreat
namespace Go.Proofs.YtknlbpjcjdenbaaGreat
open Go Go.RowKit Go.Maps Go.Sort
set_option linter.unusedVariables false
def vH (w:World) (g:Nat) (T:Nat→Nat) (l:List UInt8):Prop:=∃mb m D,wI w g mb m D∧strKeys D= [l]∧Maps.size D≤1∧¬a_ T 4 g∧¬a_ T 4 mb
theorem vH.below {w w':World} {g:Nat} {T:Nat→Nat} {l:List UInt8} (h:vH w g T l) (hb:Below w.heap.size w w'):vH w' g T l:=by
 obtain ⟨mb,m,D,h1,h2,h3,h4,h5⟩:=h
 exact ⟨mb,m,D,⟨h1.top.below' hb,am h1.map (hb.block mb h1.map.lt) (Nat.le_refl _)⟩,h2,h3,h4,h5⟩
theorem vH.step {w w':World} {g:Nat} {T T':Nat→Nat} {l:List UInt8} (h:vH w g T l) (hT:∀x,x<w.heap.size→T' x=T x) (hf:Fr (a_ T 4) w w'):vH w' g T' l:=by
 obtain ⟨mb,m,D,h1,h2,h3,h4,h5⟩:=h
 exact ⟨mb,m,D,⟨hf.blk h1.top h4,am h1.map (hf.block mb h1.map.lt h5) (Nat.le_refl _)⟩,h2,h3,fun k=>h4 ((oj (hT g h1.top.lt)).1 k),fun k=>h5 ((oj (hT mb h1.map.lt)).1 k)⟩
open Classical in
theorem Ht (s:ByteArray) (hm:s.size≤1000) (hb:bl s=true) {w:World} {A:Nat→Prop} {g:Nat} {B:Bn} {cs:List Value} (hg:aj w g [.map none] 60) (hB:cJ A w B (.agg cs.toArray)) (h1:B.onceId=0) (h2:B.kemId=0) (h3:aX B 1=0) (hs:B.fine) (hAg:¬A g):
  Calls Tryz.prog 10 #[.pointer (some ⟨g,0,none⟩),.string s,.agg cs.toArray] w fun r w'=>r= .returned (.int .i64 0)∧∃T,wu w' g s T 1 ⟨B,[],fun _=>0,fun _=>0⟩∧vH w' g T s.data.toList∧(∀x,x<w.heap.size→¬a_ T 4 x)∧Fr (fun x=>x=g) w w':=by
 refine (qz s hm hb hg hB h1 h2 h3 hs.1 hAg).mono fun r w' ⟨hr,b,ds,mo,mk,mb,S,k1,k2,k3,k4,sb,s1,s2,hne,n1,n2,o1,o2,hS,hmb,hf⟩=>⟨hr,?_⟩
 obtain ⟨T,hT⟩:∃T:Nat→Nat,T=fun x=>if x=b then 4 else if x=mo then 6 else if x=mk then 7 else if S x then 0 else 3:=⟨_,rfl⟩
 have tb:T b=4:=by rw [hT];exact if_pos rfl
 have tmo:T mo=6:=by rw [hT];show (if mo=b then 4 else if mo=mo then 6 else _)=6;rw [if_neg (Ne.symm n1),if_pos rfl]
 have tmk:T mk=7:=by rw [hT];show (if mk=b then 4 else if mk=mo then 6 else if mk=mk then 7 else _)=7;rw [if_neg (Ne.symm n2),if_neg (Ne.symm hne),if_pos rfl]
 have t0:∀x,S x∧x≠mo∧x≠mk∧x≠b→T x=0:=fun x ⟨a1,a2,a3,a4⟩=>by rw [hT];show (if x=b then 4 else if x=mo then 6 else if x=mk then 7 else if S x then 0 else 3)=0;rw [if_neg a4,if_neg a2,if_neg a3,if_pos a1]
 have tn:∀x,x≠b→x≠mo→x≠mk→¬a_ T 4 x:=fun x a1 a2 a3 h=>by
  have h4:=h.1
  rw [hT] at h4
  have h4:4≤(if x=b then 4 else if x=mo then 6 else if x=mk then 7 else if S x then 0 else 3):=h4
  rw [if_neg a1,if_neg a2,if_neg a3] at h4
  split at h4<;>omega
 have hlt:∀x,x<w.heap.size→¬a_ T 4 x:=fun x hx=>tn x (fun e=>by have:=(hS b sb).1;omega) (fun e=>by have:=(hS mo s1).1;omega) (fun e=>by have:=(hS mk s2).1;omega)
 refine ⟨T,⟨mb,1,_,b,⟨k1,k2⟩,?_,⟨ds,.slice none 0 0,[],mo,mk,.map [],.map [],?_⟩,hlt g hg.lt,tn mb (fun e=>(hS b sb).2 e.symm) (fun e=>(hS mo s1).2 e.symm) (fun e=>(hS mk s2).2 e.symm),fun x hx=>tn x (fun e=>by have:=k3.lt;omega) (fun e=>by have:=o1.lt;omega) (fun e=>by have:=o2.lt;omega)⟩,⟨mb,1,_,⟨k1,k2⟩,rfl,Nat.le_refl _,hlt g hg.lt,tn mb (fun e=>(hS b sb).2 e.symm) (fun e=>(hS mo s1).2 e.symm) (fun e=>(hS mk s2).2 e.symm)⟩,hlt,hf⟩
 ·exact Maps.atKey_put_same ⟨[],rfl⟩ (by trivial) _ _
 ·exact ⟨k3,k4.later fun x _ ha=>⟨rfl,t0 x ha⟩,World.ownsRow_nil w' 0 32 11,rfl,am o1 rfl (by decide),am o2 rfl (by decide),fun _ _=>rfl,fun _ _=>rfl,tb,fun q hq=>(by cases hq),tmo,tmk,hs,fun B' h=>(by cases h)⟩
theorem rI (hso:∀m,AnyZ.SortsIn Tryz.prog bU Fence.wide m) {w:World} {g:Nat} {T:Nat→Nat} {l:List UInt8} (h:vH w g T l):Calls Tryz.prog 23 #[.pointer (some ⟨g,0,none⟩)] w fun e w'=>∃v,e= .returned v∧w'.ownsRow 0 9 1 v 1 [encStr l]∧Below w.heap.size w w':=by
 obtain ⟨mb,m,D,h1,h2,h3,h4,h5⟩:=h
 refine (ta hso h1 (by omega)).mono fun e w' ⟨v,ss,he,hp,hr,_,hb⟩=>⟨v,he,?_,hb⟩
 rw [h2] at hp
 obtain rfl:=List.perm_singleton.1 hp
 simpa using hr
def e2 (n v:Int):En:=((e0 n v).add (aC n v 1)).add (aC n v 2)
theorem N1 (n v:Int):(e0 n v).adds [aC n v 1,aC n v 2]=(e2 n v,2):=by
 have h0:(e0 n v).takes (aC n v 1)=true:=AL rfl (by decide) (by simp [e0]) rfl rfl
 have h1:((e0 n v).add (aC n v 1)).takes (aC n v 2)=true:=by
  refine AL rfl (by decide) (by simp [e0,En.add]) ?_ ?_
  ·show NO (fun _=>0) (aC n v 1).onceId (2%4)=0
   rw [IX (by decide)]
  ·show NO (fun _=>0) (aC n v 1).kemId (2%4)=0
   rw [GE (by decide) (by decide)]
 show stp (stp ((e0 n v),0) (aC n v 1)) (aC n v 2)=_
 rw [vW h0,vW h1]
 rfl
theorem F2 (n v i j:Int):dO (aC n v i) (aC n v j)=true:=by
 unfold dO
 rw [decide_eq_true (show (aC n v j).medium=(aC n v i).medium from rfl),decide_eq_true (show (aC n v j).version=(aC n v i).version from rfl)]
 rfl
theorem AC (n i j:Int):dO (aC n 1 i) (aC n 0 j)=false:=by
 unfold dO
 rw [decide_eq_false (p:=(aC n 0 j).version=(aC n 1 i).version) (by show ¬(1+(0:Int)%2)=1+1%2;omega),Bool.and_false]
theorem Ss {A:Nat→Prop} {w:World} {B0 B1:Bn} {c0 c1:List Value} (h0:cJ A w B0 (.agg c0.toArray)) (h1:cJ A w B1 (.agg c1.toArray)):cI A w (c0++c1) [B0,B1]:=
 ⟨c0,c1,rfl,h0,c1,[],by simp,h1,rfl⟩
theorem Ai {o:Oper} {a:Act} {w:World} {x0 x1:Operand} {c0 c1:List Value} (ho:o.op= .buildSlice 49 2 #[(0,x0),(1,x1)]) (h0:a.eval x0= .agg c0.toArray) (h1:a.eval x1= .agg c1.toArray) (l0:c0.length=11) (l1:c1.length=11):(execOp a.eval o).run Tryz.prog w= .ok (.value (.slice (some ⟨w.heap.size,0,none⟩) 2 2)) (w.alloc (.cells (c0++c1).toArray 32)):=by
 obtain ⟨i,z,hi,hz,hs,hzs,hby,hze⟩:=u4
 obtain ⟨a0,a1,a2,a3,a4,a5,a6,a7,a8,a9,aa,rfl⟩:=Hm l0
 obtain ⟨b0,b1,b2,b3,b4,b5,b6,b7,b8,b9,ba,rfl⟩:=Hm l1
 have h:(Instr.buildSlice 49 2 #[(0,Value.agg #[a0,a1,a2,a3,a4,a5,a6,a7,a8,a9,aa]),(1,Value.agg #[b0,b1,b2,b3,b4,b5,b6,b7,b8,b9,ba])]).run Tryz.prog w= .ok (.slice (some ⟨w.heap.size,0,none⟩) 2 2) (w.alloc (.cells #[a0,a1,a2,a3,a4,a5,a6,a7,a8,a9,aa,b0,b1,b2,b3,b4,b5,b6,b7,b8,b9,ba] 32)):=
  run_buildSlice (P:=Tryz.prog) w 49 32 2 _ _ i z Tryz.underlying49 hi hz (by rw [hs];decide) (by rw [hs];decide) (by rw [hs,hze];kernel_rfl)
 unfold execOp
 simp only [ho,List.map_toArray,List.map_cons,List.map_nil,h0,h1]
 rw [Sem.run_bind,h]
 rfl
end Go.Proofs.YtknlbpjcjdenbaaGreat
namespace Go.Proofs.YtknlbpjcjdenbaaGreat
open Go Go.RowKit Go.Maps Go.Sort Go.Shelf
theorem Jt (m:Nat):AnyZ.SortsIn Tryz.prog bU Fence.wide m:=
 ⟨fun blk off cap ss W hH hblk hsz=>callsIn_wide.2 (AnyM.slices_Sort_string QH blk off cap ss W hH hblk hsz),
  fun p cap W=>callsIn_wide.2 (AnyM.slices_Sort_string_none QH p cap W)⟩
end Go.Proofs.YtknlbpjcjdenbaaGreat
namespace Go.Proofs.YtknlbpjcjdenbaaGreat
open Go Go.RowKit Go.Maps
set_option linter.unusedVariables false
theorem J4 {v:Value} {p:Option Addr} (h:hP v=some (.held (.pointer p),[])):v= .pointer p:=by
 unfold hP at h
 split at h
 ·injection h with h;injection h with h _;injection h with h
 ·cases h
set_option maxHeartbeats 4000000 in
theorem Ic (s:ByteArray) (hm:s.size≤1000) (hb:bl s=true) {w:World} {A:Nat→Prop} {g mb m:Nat} {D:DataW Value} {B:Bn} {cs:List Value} (hE:wI w g mb m D) (hp:yK D s none) (hB:cJ A w B (.agg cs.toArray)) (h1:B.onceId=0) (h2:B.kemId=0) (h3:aX B 1=0) (hz:20≤Maps.size D) (hz1:Maps.size D≤1000000):
  Calls Tryz.prog 10 #[.pointer (some ⟨g,0,none⟩),.string s,.agg cs.toArray] w fun r w'=>r= .returned (.int .i64 9)∧Below w.heap.size w w':=by
 have hlen:=aV hB
 have HBV:=Lib.hid hB
 have HM:=Lib.hid hm
 have HNB:=Lib.hid hb
 have HE:=Lib.hid hE
 have HV:=Lib.hid h3
 have HLEN:=Lib.hid hlen
 have hlk0:∀W,Below w.heap.size w W→(Instr.lookup 58 (.map (some mb)) (.string s) false).run Tryz.prog W= .ok (.pointer none) W:=fun W hbw=>by
  obtain ⟨v,h1,h2⟩:=jX (am hE.map (hbw.block mb hE.map.lt) (Nat.le_refl _)) hm
  rw [show D.atKey (.string s.data.toList) (.held (.pointer none))= .held (.pointer none) from hp] at h2
  rw [h1,J4 h2]
 have HLK:=Lib.hid hlk0
 obtain ⟨wa,hwa⟩:∃wa,wa=w.alloc (.cells cs.toArray 32):=⟨_,rfl⟩
 have hba:Below w.heap.size w wa:=by rw [hwa];exact Below.alloc' (Below.refl _ _) _
 have hPB:aj wa w.heap.size cs 32:=by rw [hwa];exact aj.new w _ _
 obtain ⟨hc4,hc6⟩:=jG hB hPB
 rw [h1] at hc4
 rw [h2] at hc6
 have HPB:=Lib.hid hPB
 have HBA:=Lib.hid hba
 have hrg:=hPB.rng
 clear hm hb hE hp hB hlen h1 h2 h3 hba hPB hlk0
 go_enter Tryz.func10,Tryz.ntmps10
 go_upto_region 1 with fail
 rw [←hwa]
 clear hwa
 go_upto_region 4 with (first|(go_at_call 20;go_must (refine (cV s HM.out _).mono ?_;rintro r w1 ⟨rfl,rfl⟩;rw [HNB.out]))|(refine wpList_load_mid rfl 32 (.tmp 5) rfl w.heap.size 0 rfl cs _ hrg Tryz.underlying32 rfl (by rw [aN,HLEN.out]) ?_)|(go_at_call 25;go_must (refine (lq (HBV.out.below HBA.out) 1).mono ?_;rintro r w1 ⟨rfl,hb1⟩;rw [HV.out];have HB1:=Lib.hid hb1;clear hb1)))
 have hbw:Below w.heap.size w w1:=HBA.out.trans (HB1.out.mono HBA.out.size)
 have hE1:wI w1 g mb m D:=⟨HE.out.top.below' hbw,am HE.out.map (hbw.block mb HE.out.map.lt) (Nat.le_refl _)⟩
 have hcg:=hE1.top.cell 0
 have hlk:=HLK.out w1 hbw
 have hln:=fun ty=>hE1.map.len Tryz.underlying58 ty
 have hz3:(20:Int)≤(Maps.size D:Int):=by omega
 have HBW:=Lib.hid hbw
 clear hE1 hbw
 go_wp2
 go_ret
 exact ⟨rfl,HBW.out⟩
set_option maxHeartbeats 4000000 in
theorem M2 (s:ByteArray) (hm:s.size≤1000) (hb:bl s=true) {w:World} {A:Nat→Prop} {g mb m:Nat} {D:DataW Value} {B:Bn} {cs:List Value} (hE:wI w g mb m D) (hp:yK D s none) (hB:cJ A w B (.agg cs.toArray)) (h1:B.onceId=0) (h2:B.kemId=0) (h3:aX B 1=0) (hs:B.small) (hz:Maps.size D<20) (hm1:m<1000000):
  Calls Tryz.prog 10 #[.pointer (some ⟨g,0,none⟩),.string s,.agg cs.toArray] w fun r w'=>r= .returned (.int .i64 0)∧∃b,wI w' g mb (m+1) (D.put (.string s.data.toList) (.held (.pointer (some ⟨b,0,none⟩))))∧Fr (fun x=>x=mb) w w':=by
 have HS:=Lib.hid hs
 have HM1:=Lib.hid hm1
 have hlen:=aV hB
 have HBV:=Lib.hid hB
 have HM:=Lib.hid hm
 have HNB:=Lib.hid hb
 have HE:=Lib.hid hE
 have HV:=Lib.hid h3
 have HLEN:=Lib.hid hlen
 have hlk0:∀W,Below w.heap.size w W→(Instr.lookup 58 (.map (some mb)) (.string s) false).run Tryz.prog W= .ok (.pointer none) W:=fun W hbw=>by
  obtain ⟨v,h1,h2⟩:=jX (am hE.map (hbw.block mb hE.map.lt) (Nat.le_refl _)) hm
  rw [show D.atKey (.string s.data.toList) (.held (.pointer none))= .held (.pointer none) from hp] at h2
  rw [h1,J4 h2]
 have HLK:=Lib.hid hlk0
 obtain ⟨wa,hwa⟩:∃wa,wa=w.alloc (.cells cs.toArray 32):=⟨_,rfl⟩
 have hba:Below w.heap.size w wa:=by rw [hwa];exact Below.alloc' (Below.refl _ _) _
 have hPB:aj wa w.heap.size cs 32:=by rw [hwa];exact aj.new w _ _
 obtain ⟨hc4,hc6⟩:=jG hB hPB
 rw [h1] at hc4
 rw [h2] at hc6
 have HPB:=Lib.hid hPB
 have HBA:=Lib.hid hba
 have hrg:=hPB.rng
 have hgm:g≠mb:=fun e=>by have t:=hE.top;have mp:=hE.map;obtain ⟨es,clock,hbk,_⟩:=mp;rw [←e] at hbk;have t2:w.heap[g]?=_:=t;rw [hbk] at t2;cases t2
 have HGM:=Lib.hid hgm
 clear hm hb hE hp hB hlen h1 h2 h3 hba hPB hlk0 hs hm1 hgm
 go_enter Tryz.func10,Tryz.ntmps10
 go_upto_region 1 with fail
 rw [←hwa]
 clear hwa
 go_upto_region 4 with (first|(go_at_call 20;go_must (refine (cV s HM.out _).mono ?_;rintro r w1 ⟨rfl,rfl⟩;rw [HNB.out]))|(refine wpList_load_mid rfl 32 (.tmp 5) rfl w.heap.size 0 rfl cs _ hrg Tryz.underlying32 rfl (by rw [aN,HLEN.out]) ?_)|(go_at_call 25;go_must (refine (lq (HBV.out.below HBA.out) 1).mono ?_;rintro r w1 ⟨rfl,hb1⟩;rw [HV.out];have HB1:=Lib.hid hb1;clear hb1)))
 have hbw:Below w.heap.size w w1:=HBA.out.trans (HB1.out.mono HBA.out.size)
 have hE1:wI w1 g mb m D:=⟨HE.out.top.below' hbw,am HE.out.map (hbw.block mb HE.out.map.lt) (Nat.le_refl _)⟩
 have hcg:=hE1.top.cell 0
 have hlk:=HLK.out w1 hbw
 have hln:=fun ty=>hE1.map.len Tryz.underlying58 ty
 have hz3:¬(20:Int)≤(Maps.size D:Int):=by omega
 have heq:∀w,(binOp .eql 58 (.map (some mb)) (.map none)).run Tryz.prog w= .ok (.bool false) w:=fun w=>run_eql_map_nil w 58 9 64 (some mb) Tryz.underlying58
 have HG1:=Lib.hid hE1
 have HBW:=Lib.hid hbw
 clear hE1 hbw
 go_upto_region 21 with fail
 obtain ⟨w0,hw0⟩:∃w0,w0=w1:=⟨_,rfl⟩
 have hE0:wI w0 g mb m D:=by rw [hw0];exact HG1.out
 have HTOP:=Lib.hid hE0.top
 have HMAP:=Lib.hid hE0.map
 have HN:=Lib.hid (show m<maxLen by have:=HM1.out;unfold maxLen;omega)
 have HSM:=Lib.hid HM.out
 have HBV3:Hid (cJ A w0 B (.agg cs.toArray)):=Lib.hid (by rw [hw0];exact HBV.out.below HBW.out)
 have HBW0:Hid (Below w.heap.size w w0):=Lib.hid (by rw [hw0];exact HBW.out)
 obtain ⟨pb,hpb⟩:∃pb,pb=w.heap.size:=⟨_,rfl⟩
 have HPB3:Hid (aj w0 pb cs 32):=Lib.hid (by rw [hw0,hpb];exact HPB.out.below' HB1.out)
 rw [←hw0,←hpb]
 clear hE0 hw0 hpb hcg hlk hln heq hc4 hc6 hrg HPB HBV HG1 HBW HLK HE HB1 HBA
 have HPB:=HPB3
 have HBV:=HBV3
 clear HPB3 HBV3
 refine X4 11 11 (fun _=>False) [(85,0),(0,1),(0,2),(0,3),(0,4),(0,5),(0,6),(0,7),(0,8),(0,9),(0,10)] [kv (.pointer (some ⟨g,0,none⟩)),kv (.pointer (some ⟨g,0,none⟩)),kv (.pointer (some ⟨g,0,none⟩)),kv (.map (some mb)),kv (.string s),kv (.agg cs.toArray),(Xz B),(Wx),(Wx),(Vo B),(Yn B)] [none,none,none,none,none,none,some 9,some 9,some 9,some 10,none] (fun _ W=>∃b ds mo mk,∃S:Nat→Prop,W.ownsMap Tryz.prog 9 hP mb (m+1) (D.put (.string s.data.toList) (.held (.pointer (some ⟨b,0,none⟩))))∧aj W b (ds++ [Value.slice none 0 0,.map (some mo),.map (some mk)]) 68∧cJ (fun x=>S x∧x≠mo∧x≠mk∧x≠b) W B (.agg ds.toArray)∧S b∧S mo∧S mk∧mo≠mk∧b≠mo∧b≠mk∧MI W mo 0 (.map [])∧MI W mk 0 (.map [])∧(∀x,S x→w0.heap.size≤x)∧Fr (fun x=>x=mb) w0 W) ?_ (fun u6 W6 hPd hv=> ?_)
 ·refine ⟨?_,?_,?_,?_,?_,?_,?_,?_,?_,?_,?_,?_,trivial⟩
  ·refine rH (fun _ h=>h.elim) (by omega) (.one (by kernel_rfl)) (by rfl) (fun L u W gh hc=> ?_)
   have hb:=hc.before (.inr (.one (by kernel_rfl)))
   go_simp
  ·refine rH (fun _ h=>h.elim) (by omega) (.one (by kernel_rfl)) (by rfl) (fun L u W gh hc=> ?_)
   have e0:u 0= .pointer (some ⟨g,0,none⟩):=hc.val 0 (by kernel_rfl) (by omega) _ rfl
   have hb:=hc.before (.inr (.one (by kernel_rfl)))
   go_simp
  ·refine rH (fun _ h=>h.elim) (by omega) (.one (by kernel_rfl)) (by rfl) (fun L u W gh hc=> ?_)
   have e1:u 1= .pointer (some ⟨g,0,none⟩):=hc.val 1 (by kernel_rfl) (by omega) _ rfl
   have hb:=hc.before (.inr (.one (by kernel_rfl)))
   go_simp
  ·refine rH (fun _ h=>h.elim) (by omega) (.one (by kernel_rfl)) (by rfl) (fun L u W gh hc=> ?_)
   have e2:u 2= .pointer (some ⟨g,0,none⟩):=hc.val 2 (by kernel_rfl) (by omega) _ rfl
   have hb:=hc.before (.inr (.one (by kernel_rfl)))
   have hcx:W.cell? ⟨g,0,none⟩=some (.map (some mb)):=(HTOP.out.below' hb).cell 0
   go_simp
  ·refine rH (fun _ h=>h.elim) (by omega) (.one (by kernel_rfl)) (by rfl) (fun L u W gh hc=> ?_)
   have hb:=hc.before (.inr (.one (by kernel_rfl)))
   go_simp
  ·refine rH (fun _ h=>h.elim) (by omega) (.one (by kernel_rfl)) (by rfl) (fun L u W gh hc=> ?_)
   have hb:=hc.before (.inr (.one (by kernel_rfl)))
   exact mS rfl rfl ((HPB.out.below' hb).rng) HLEN.out
  ·refine Wy (fun _ h=>h.elim) (by omega) (.one (by kernel_rfl)) (fun L u W gh hc K hK=> ?_)
   have e5:u 5= .agg cs.toArray:=hc.val 5 (by kernel_rfl) (by omega) _ rfl
   have hb:=hc.before (.inr (.one (by kernel_rfl)))
   have hb:=hc.before (.inr (.one (by kernel_rfl)))
   go_simp
   go_at_call 27
   refine (gU (HBV.out.below hb) HS.out).mono ?_
   rintro r w6 ⟨v6,rfl,hb6,hv6⟩
   have hk9:=hK.out v6 w6 (fun x=>W.heap.size≤x∧x<w6.heap.size) (Fr.of_below hb6) (hv6.later fun x hx ha=>⟨rfl,ha,hx⟩) (fun x e=>(by cases e)) (fun x hx=> .inr hx.1) (fun x hx=>hx.2)
   first |exact hk9|(simp only [e5] at hk9;exact hk9)
  ·refine LN (fun _ h=>h.elim) (by omega) (.one (by kernel_rfl)) (fun L u W gh hc=> ?_)
   have hb:=hc.before (.inr (.one (by kernel_rfl)))
   exact ⟨_,_,fun x=>x=W.heap.size,by rfl,(Fr.refl _ _).alloc _,⟨W.heap.size,rfl,rfl,World.ownsMap_made W Tryz.prog 3 _⟩,fun x e=>(by cases e),fun x hx=> .inr (Nat.le_of_eq hx.symm),fun x hx=>by have hx:x=W.heap.size:=hx;subst hx;simp⟩
  ·refine LN (fun _ h=>h.elim) (by omega) (.one (by kernel_rfl)) (fun L u W gh hc=> ?_)
   have hb:=hc.before (.inr (.one (by kernel_rfl)))
   exact ⟨_,_,fun x=>x=W.heap.size,by rfl,(Fr.refl _ _).alloc _,⟨W.heap.size,rfl,rfl,World.ownsMap_made W Tryz.prog 3 _⟩,fun x e=>(by cases e),fun x hx=> .inr (Nat.le_of_eq hx.symm),fun x hx=>by have hx:x=W.heap.size:=hx;subst hx;simp⟩
  ·refine LN (fun _ h=>h.elim) (by omega) (.one (by kernel_rfl)) (fun L u W gh hc=> ?_)
   have t6:=hc.fact 6 (by kernel_rfl) (by omega) (fun t ht=>by cases ht;exact hc.free _ (.inl rfl))
   have f6:=hc.foot 6 (by kernel_rfl) (by omega) (fun t ht=>by cases ht;exact hc.free _ (.inl rfl))
   have t7:=hc.fact 7 (by kernel_rfl) (by omega) (fun t ht=>by cases ht;exact hc.free _ (.inl rfl))
   have f7:=hc.foot 7 (by kernel_rfl) (by omega) (fun t ht=>by cases ht;exact hc.free _ (.inl rfl))
   have t8:=hc.fact 8 (by kernel_rfl) (by omega) (fun t ht=>by cases ht;exact hc.free _ (.inl rfl))
   have f8:=hc.foot 8 (by kernel_rfl) (by omega) (fun t ht=>by cases ht;exact hc.free _ (.inl rfl))
   have hb:=hc.before (.inr (.one (by kernel_rfl)))
   obtain ⟨mo,e7,s7,o7⟩:=t7
   obtain ⟨mk,e8,s8,o8⟩:=t8
   obtain ⟨ds,e6⟩:∃ds:List Value,u 6= .agg ds.toArray:=by obtain ⟨ds,e6,_⟩:=t6;exact ⟨ds,e6⟩
   rw [e6] at t6
   have lv:∀j,j=6∨j=7∨j=8→eM [none,none,none,none,none,none,some 9,some 9,some 9,some 10,none] L j:=fun j hj t ht=>by rcases hj with rfl|rfl|rfl<;>(cases ht;exact hc.free _ (.inl rfl))
   have h67:∀x,gh 6 x→x≠mo:=fun x ha e=>hc.apart 6 7 x (by kernel_rfl) (by kernel_rfl) (by omega) (by omega) (by decide) (lv 6 (.inl rfl)) (lv 7 (.inr (.inl rfl))) ha (e▸s7)
   have h68:∀x,gh 6 x→x≠mk:=fun x ha e=>hc.apart 6 8 x (by kernel_rfl) (by kernel_rfl) (by omega) (by omega) (by decide) (lv 6 (.inl rfl)) (lv 8 (.inr (.inr rfl))) ha (e▸s8)
   have h78:mo≠mk:=fun e=>hc.apart 7 8 mo (by kernel_rfl) (by kernel_rfl) (by omega) (by omega) (by decide) (lv 7 (.inr (.inl rfl))) (lv 8 (.inr (.inr rfl))) s7 (e▸s8)
   refine ⟨_,W,fun x=>gh 6 x∨gh 7 x∨gh 8 x,oN rfl e6 (aV t6) e7 e8,Fr.refl _ _,⟨ds,mo,mk,rfl,t6.later fun x hx ha=>⟨rfl,.inl ha,h67 x ha,h68 x ha⟩,.inr (.inl s7),.inr (.inr s8),h78,o7,o8⟩,fun x e=>(by cases e),fun x hx=> .inl ?_,fun x hx=> ?_⟩
   ·rcases hx with h|h|h
    ·exact ⟨6,by kernel_rfl,by omega,rfl,h⟩
    ·exact ⟨7,by kernel_rfl,by omega,rfl,h⟩
    ·exact ⟨8,by kernel_rfl,by omega,rfl,h⟩
   ·rcases hx with h|h|h
    ·exact (f6 x h).2
    ·exact (f7 x h).2
    ·exact (f8 x h).2
  ·refine LN (fun _ h=>h.elim) (by omega) (.one (by kernel_rfl)) (fun L u W gh hc=> ?_)
   have t9:=hc.fact 9 (by kernel_rfl) (by omega) (fun t ht=>by cases ht;exact hc.free _ (.inl rfl))
   have f9:=hc.foot 9 (by kernel_rfl) (by omega) (fun t ht=>by cases ht;exact hc.free _ (.inl rfl))
   have hb:=hc.before (.inr (.one (by kernel_rfl)))
   obtain ⟨ds,mo,mk,e9,hb9,s1,s2,hne,o1,o2⟩:=t9
   have fm:=fun x h=>(f9 x h).2
   have al:=(Fr.refl (fun _=>False) W).alloc (.cells (ds++ [Value.slice none 0 0,.map (some mo),.map (some mk)]).toArray 68)
   refine ⟨_,_,fun x=>gh 9 x∨x=W.heap.size,zu rfl e9,(Fr.refl _ _).alloc _,⟨W.heap.size,ds,mo,mk,rfl,.inr rfl,aj.new W _ _,hb9.later fun x hx ha=>⟨al.block x hx (fun h=>h),.inl ha.1,ha.2.1,ha.2.2,by omega⟩,.inl s1,.inl s2,hne,by have:=fm mo s1;omega,by have:=fm mk s2;omega,o1.alloc _,o2.alloc _⟩,fun x e=>(by cases e),fun x hx=> ?_,fun x hx=> ?_⟩
   ·rcases hx with h|h
    ·exact .inl ⟨9,by kernel_rfl,by omega,rfl,h⟩
    ·exact .inr (Nat.le_of_eq h.symm)
   ·rcases hx with h|rfl
    ·have:=fm x h;simp;omega
    ·simp
  ·refine XH fun L u W gh hc=> ?_
   have e0:u 0= .pointer (some ⟨g,0,none⟩):=hc.val 0 (by kernel_rfl) (by omega) _ rfl
   have e1:u 1= .pointer (some ⟨g,0,none⟩):=hc.val 1 (by kernel_rfl) (by omega) _ rfl
   have e2:u 2= .pointer (some ⟨g,0,none⟩):=hc.val 2 (by kernel_rfl) (by omega) _ rfl
   have e3:u 3= .map (some mb):=hc.val 3 (by kernel_rfl) (by omega) _ rfl
   have e4:u 4= .string s:=hc.val 4 (by kernel_rfl) (by omega) _ rfl
   have e5:u 5= .agg cs.toArray:=hc.val 5 (by kernel_rfl) (by omega) _ rfl
   have t10:=hc.fact 10 (by kernel_rfl) (by omega) (fun t ht=>by cases ht)
   have f10:=hc.foot 10 (by kernel_rfl) (by omega) (fun t ht=>by cases ht)
   have hb:=hc.before (.inl rfl)
   obtain ⟨b,ds,mo,mk,e10,sb,hb10,hv10,s1,s2,hne,n1,n2,o1,o2⟩:=t10
   have hbw:=hc.old (hc.free 11 (.inl rfl))
   have hfoot:=fun x h=>(f10 x h)
   obtain ⟨w9,hr9,ho9,hg9⟩:=(am HMAP.out (hbw.block mb HMAP.out.lt) (Nat.le_refl _)).update Jw Tryz.underlying58 HN.out (H6 s HSM.out) (val:= .pointer (some ⟨b,0,none⟩)) (d:= .held (.pointer (some ⟨b,0,none⟩))) (ps:= []) rfl
   have h9:∀x,x<W.heap.size→x≠mb→w9.heap[x]?=W.heap[x]?:=fun x hx hn=>hg9.block x hx (fun e=>hn (by injection e))
   have hge:∀x,gh 10 x→w0.heap.size≤x∧x<W.heap.size:=fun x h=>⟨by rcases (f10 x h).1 with h1|⟨h1,_⟩;exact h1;exact h1.elim,(f10 x h).2⟩
   have hmb:∀x,gh 10 x→x≠mb:=fun x h e=>by have:=(hge x h).1;have:=HMAP.out.lt;omega
   refine ⟨_,_,w9,sR rfl e3 e4 e10 hr9,.inl ⟨rfl,rfl⟩,b,ds,mo,mk,gh 10,ho9,(h9 b (hge b sb).2 (hmb b sb)).trans hb10,hv10.later fun x hx ha=>⟨h9 x hx (hmb x ha.1),ha⟩,sb,s1,s2,hne,n1,n2,am o1 (h9 mo (hge mo s1).2 (hmb mo s1)) (Nat.le_refl _),am o2 (h9 mk (hge mk s2).2 (hmb mk s2)) (Nat.le_refl _),fun x hx=>(hge x hx).1,?_⟩
   exact (Fr.of_below hbw).trans (F':=fun x=>x=mb) ⟨hg9.os,hg9.tape,hg9.output,hg9.size,fun x hx hn=>h9 x hx hn⟩ (fun x hx=> .inl hx)
 obtain ⟨b,ds,mo,mk,S,k1,k2,k3,sb,s1,s2,hne,n1,n2,o1,o2,hS,hf6⟩:=hPd
 have hgm:g≠mb:=HGM.out
 have HG6:Hid (aj W6 g [.map (some mb)] 60):=Lib.hid ((hf6.block g HTOP.out.lt hgm).trans HTOP.out)
 have HF6:Hid (Fr (fun x=>x=mb) w W6):=Lib.hid ((Fr.of_below HBW0.out).trans hf6 fun x hx=> .inl hx)
 have K1:=Lib.hid k1
 clear k1 k2 k3 hf6 hS hv
 go_wp2
 go_ret
 exact ⟨rfl,⟨b,HG6.out,K1.out⟩,HF6.out⟩
end Go.Proofs.YtknlbpjcjdenbaaGreat
namespace Go.Proofs.YtknlbpjcjdenbaaGreat
open Go.RowKit
set_option maxHeartbeats 1000000 in
theorem rU (s:ByteArray) (hm:s.size≤1000) (w:World):
  Calls Tryz.prog 21 #[.string s] w fun e w'=>e= .returned (.bool (bl s))∧w=w':=by
 obtain ⟨n,hn⟩:∃n,n=s.size:=⟨_,rfl⟩
 have hs0:(s.size:Int)=n:=by omega
 have HN:=Lib.hid hn
 have hn1:(n:Int)≤1000:=by omega
 clear hn hm
 go_enter Tryz.func21,Tryz.ntmps21
 go_wp2
 go_loopw [3] (fun i wr=>∃(k:Nat),k≤n∧i= .int .i64 k∧(s.data.toList.take k).all qK=true∧w=wr) (fun i _=>n-(intOf i).toNat)
 case atStart=>exact ⟨0,by omega,rfl,by simp,rfl⟩
 case round=>
  obtain ⟨k,hk,rfl,hall,rfl⟩:=hrel
  by_cases hlt:k<n
  ·have hk2:k<s.data.toList.length:=by have:=HN.out;show k<s.size;omega
   obtain ⟨c,hc⟩:∃c,c=s.data.toList.getD k 0:=⟨_,rfl⟩
   obtain ⟨C,hC⟩:∃C:Int,C=(c.toNat:Int):=⟨_,rfl⟩
   have hi0:∀h,((s[k]'h).toNat:Int)=C:=fun h=>by
    rw [hC,hc,List.getD_eq_getElem?_getD,List.getElem?_eq_getElem hk2];rfl
   have HTK:Hid ((s.data.toList.take (k+1)).all qK=qK c):=Lib.hid (by
    rw [List.take_succ_eq_append_getElem hk2,List.all_append,hall,hc,List.getD_eq_getElem?_getD,List.getElem?_eq_getElem hk2];simp)
   have HBAD:Hid (qK c=false→bl s=false):=Lib.hid fun h=>rD hk2 (by rw [←hc];exact h)
   have HC:=Lib.hid hC
   have HLT:=Lib.hid hlt
   have hc0:0≤C:=by omega
   have hc1:C<256:=by have:=c.toNat_lt;omega
   have t1:(0:Int)≤(k:Int):=by omega
   have t2:(k:Int)<(n:Int):=by omega
   clear hC hc hall
   have hbad:(¬97≤C∨¬C≤122)→(¬48≤C∨¬C≤57)→bl s=false:=fun h1 h2=>HBAD.out (by
    have:=HC.out
    simp only [qK,Bool.or_eq_false_iff,Bool.and_eq_false_iff,decide_eq_false_iff_not]
    omega)
   have hgood:(97≤C∧C≤122)∨(48≤C∧C≤57)→(s.data.toList.take (k+1)).all qK=true:=fun h1=>by
    rw [HTK.out]
    have:=HC.out
    simp only [qK,Bool.or_eq_true,Bool.and_eq_true,decide_eq_true_eq]
    omega
   have HBD:=Lib.hid hbad
   have HGD:=Lib.hid hgood
   clear hbad hgood
   by_cases a1:C<97
   ·by_cases a3:C<48
    ·go_wp2
     go_ret
     rw [HBD.out (.inl (by omega)) (.inl (by omega))]
     exact ⟨rfl,rfl⟩
    ·by_cases a4:57<C
     ·go_wp2
      go_ret
      rw [HBD.out (.inl (by omega)) (.inr (by omega))]
      exact ⟨rfl,rfl⟩
     ·go_wp2
      refine ⟨⟨k+1,HLT.out,rfl,HGD.out (.inr (by omega)),trivial⟩,?_⟩
      simp only [intOf]
      have:=HLT.out
      omega
   ·by_cases a2:122<C
    ·by_cases a3:C<48
     ·exact absurd a3 (by omega)
     ·have a4:57<C:=by omega
      go_wp2
      go_ret
      rw [HBD.out (.inr (by omega)) (.inr (by omega))]
      exact ⟨rfl,rfl⟩
    ·go_wp2
     refine ⟨⟨k+1,HLT.out,rfl,HGD.out (.inl (by omega)),trivial⟩,?_⟩
     simp only [intOf]
     have:=HLT.out
     omega
  ·have t3:¬(k:Int)<(n:Int):=by omega
   have hkn:k=n:=by omega
   have hall2:s.data.toList.all qK=true:=by
    have e:s.data.toList.take k=s.data.toList:=List.take_of_length_le (by have:=HN.out;show s.size≤k;omega)
    rw [e] at hall;exact hall
   have HALL:=Lib.hid hall2
   clear hall hall2
   have hlen:s.size=s.data.toList.length:=rfl
   have HR:Hid (bl s=(decide (1≤n)&&decide (n≤12))):=Lib.hid (by
    rw [bl,HALL.out,HN.out,hlen]
    cases s.data.toList with
    |nil=>rfl
    |cons a l=>simp)
   clear hlen
   by_cases h1:(1:Int)≤(n:Int)
   ·by_cases h2:(n:Int)≤12
    ·go_wp2
     go_ret
     rw [HR.out,decide_eq_true (show 1≤n by omega),decide_eq_true (show n≤12 by omega)]
     exact ⟨rfl,rfl⟩
    ·go_wp2
     go_ret
     rw [HR.out,decide_eq_false (show ¬n≤12 by omega),Bool.and_false]
     exact ⟨rfl,rfl⟩
   ·go_wp2
    go_ret
    rw [HR.out,decide_eq_false (show ¬1≤n by omega),Bool.false_and]
    exact ⟨rfl,rfl⟩
end Go.Proofs.YtknlbpjcjdenbaaGreat
namespace Go.Proofs.YtknlbpjcjdenbaaGreat
open Go Go.RowKit Go.Maps Go.Sort Go.Shelf
set_option linter.unusedVariables false
def LO (s:ByteArray):Int:=if bl s then 7 else 1
def BU (w:World) (p:Option Addr):Prop:=p=none∨∃g,p=some ⟨g,0,none⟩∧aj w g [.map none] 60
theorem BU.below {w w':World} {p:Option Addr} (h:BU w p) (hb:Below w.heap.size w w'):BU w' p:=h.imp id fun ⟨g,e,k⟩=>⟨g,e,k.below' hb⟩
theorem DP (s:ByteArray) (hm:s.size≤1000) {w:World} {p:Option Addr} (h:BU w p):Calls Tryz.prog 35 #[.pointer p,.string s] w fun e w'=>e= .returned (.tuple #[.pointer none,.int .i64 (LO s)])∧w=w':=by
 unfold LO
 cases hb:bl s with
 |false=>exact KR p s hm hb w
 |true=>
  rcases h with rfl|⟨g,rfl,k⟩
  ·exact Hh s hm hb w
  ·exact Fs s hm hb k
theorem CA (s:ByteArray):LO s≠0:=by unfold LO;split<;>omega
theorem ID (s:ByteArray) (hm:s.size≤1000) {w:World} {p:Option Addr} (h:BU w p):Calls Tryz.prog 14 #[.pointer p,.string s] w fun e w'=>e= .returned (.tuple #[.agg bP,.int .i64 (LO s)])∧Below w.heap.size w w':=
 Gw p s (CA s) fun w1 hb1=>I6 p s (CA s) fun w2 hb2=>DP s hm (h.below (Below.call hb1 hb2))
theorem jT (s:ByteArray) (hm:s.size≤1000) {w:World} {p:Option Addr} (h:BU w p):Calls Tryz.prog 14 #[.pointer p,.string s] w fun e w'=>∃z:Array Value,e= .returned (.tuple #[.agg z,.int .i64 (LO s)])∧z.size=11∧z.all (·.oneCell')=true∧Below w.heap.size w w':=
 (ID s hm h).mono fun e w' ⟨he,hb⟩=>⟨bP,he,rfl,wg,hb⟩
theorem xV (s:ByteArray) (hm:s.size≤1000) {w:World} {p:Option Addr} (h:BU w p):Calls Tryz.prog 13 #[.pointer p,.string s] w fun e w'=>e= .returned (.int .i64 0)∧w=w':=Ab p s (CA s) (DP s hm h)
def LH (k:Nat):ByteArray:=⟨#[110,UInt8.ofNat (97+k)]⟩
def B8 (k:Nat):Lit:= .string (LH k).data.toList
theorem oD (k:Nat):(LH k).size≤1000:=by show 2≤1000;omega
theorem pn:∀k,k<23→bl (LH k)=true:=by decide
theorem ED {i j:Nat} (hi:i<64) (hj:j<64) (h:i≠j):B8 i≠B8 j:=fun e=>by
 have e:Lit.string [110,UInt8.ofNat (97+i)]= .string [110,UInt8.ofNat (97+j)]:=e
 injection e with e
 have e1:=List.cons.inj (List.cons.inj e).2
 have e2:=congrArg UInt8.toNat e1.1
 rw [UInt8.toNat_ofNat',UInt8.toNat_ofNat'] at e2
 omega
def nK (w:World) (g k hi:Nat):Prop:=(k=0∧aj w g [.map none] 60)∨(0<k∧∃mb m D,wI w g mb m D∧Tidy D∧Maps.size D=min k 20∧m≤min k 20∧hi≤mb∧∀i,min k 20≤i→i<64→has D (B8 i)=false)
theorem nK.below {w w':World} {g k hi:Nat} (h:nK w g k hi) (hb:Below w.heap.size w w'):nK w' g k hi:=by
 rcases h with ⟨h1,h2⟩|⟨h1,mb,m,D,h2,h3⟩
 ·exact .inl ⟨h1,h2.below' hb⟩
 ·exact .inr ⟨h1,mb,m,D,⟨h2.top.below' hb,am h2.map (hb.block mb h2.map.lt) (Nat.le_refl _)⟩,h3⟩
theorem Qe {w:World} {A:Nat→Prop} {g k hi:Nat} {B:Bn} {cs:List Value} (hk:k<23) (h:nK w g k hi) (hh:hi≤w.heap.size) (hB:cJ A w B (.agg cs.toArray)) (h1:B.onceId=0) (h2:B.kemId=0) (h3:aX B 1=0) (hs:B.small) (hAg:¬A g):
  Calls Tryz.prog 10 #[.pointer (some ⟨g,0,none⟩),.string (LH k),.agg cs.toArray] w fun r w'=>r= .returned (.int .i64 (if k<20 then 0 else 9))∧nK w' g (k+1) hi∧Fr (fun x=>x=g∨hi≤x) w w':=by
 rcases h with ⟨rfl,hG⟩|⟨hp,mb,m,D,hE,ht,hz,hm,hmb,hno⟩
 ·refine (qz (LH 0) (oD 0) (pn 0 (by omega)) hG hB h1 h2 h3 hs hAg).mono fun r w' ⟨hr,b,ds,mo,mk,mb,S,k1,k2,_,_,_,_,_,_,_,_,_,_,_,hmb,hf⟩=>⟨hr,.inr ⟨by omega,mb,1,_,⟨k1,k2⟩,tidy_empty.put (by trivial) _,rfl,by omega,Nat.le_trans hh hmb,fun i h1 h2=> ?_⟩,hf.mono fun x hx=> .inl (.inl hx)⟩
  show has (DataW.put (.map []) (B8 0) _) (B8 i)=false
  rw [has_put_other (ED h2 (by omega) (by omega))]
  rfl
 ·by_cases hlt:k<20
  ·rw [if_pos hlt]
   have hmin:min k 20=k:=by omega
   rw [hmin] at hz hno
   have hk0:=hno k (Nat.le_refl _) (by omega)
   refine (M2 (LH k) (oD k) (pn k hk) hE (atKey_of_not_has hk0 _) hB h1 h2 h3 hs (by omega) (by omega)).mono fun r w' ⟨hr,b,hE',hf⟩=>⟨hr,.inr ⟨by omega,mb,m+1,_,hE',ht.put (by trivial) _,?_,?_,hmb,fun i h1 h2=> ?_⟩,hf.mono fun x hx=> .inl (.inr (by cases hx;exact hmb))⟩
   ·rw [size_put ht,show has D (.string (LH k).data.toList)=false from hk0,if_neg (by simp),hz]
    omega
   ·omega
   ·show has (DataW.put D (B8 k) _) (B8 i)=false
    rw [has_put_other (ED h2 (by omega) (by omega))]
    exact hno i (by omega) h2
  ·rw [if_neg hlt]
   have hk0:=hno k (by omega) (by omega)
   refine (Ic (LH k) (oD k) (pn k hk) hE (atKey_of_not_has hk0 _) hB h1 h2 h3 (by omega) (by omega)).mono fun r w' ⟨hr,hb⟩=>⟨hr,.inr ⟨by omega,mb,m,D,⟨hE.top.below' hb,am hE.map (hb.block mb hE.map.lt) (Nat.le_refl _)⟩,ht,by omega,by omega,hmb,fun i h1 h2=>hno i (by omega) h2⟩,Fr.of_below hb⟩
theorem ya (hso:∀m,AnyZ.SortsIn Tryz.prog bU Fence.wide m) (w:World):Calls Tryz.prog 42 #[.func (.func 66) #[] #[.pointer (some ⟨w.heap.size,0,none⟩)]] (w.alloc (.cells #[.map none] 58)) fun e w'=>e= .returned (.slice none 0 0)∧Below (w.alloc (.cells #[.map none] 58)).heap.size (w.alloc (.cells #[.map none] 58)) w':=by
 refine (callsIn_wide (n:=5)).1 ?_
 have hseq:SeqGives Fence.wide 2 Tryz.prog 66 #[.pointer (some ⟨w.heap.size,0,none⟩)] encStr (fun ss:List (List UInt8)=>ss= []) 0 (w.alloc (.cells #[.map none] 58)):=
  AnyZ.keys_gives_nil (ρ:=nh) {IK with} Fence.wide _ trivial rfl w.heap.size _ (by simp) (by simp)
 refine (AnyZ.sorted_in Ea Fence.wide 5 trivial trivial trivial trivial rfl (by omega) (hso _) (enters_of Tryz.func65 (by kernel_rfl) rfl) 66 #[.pointer (some ⟨w.heap.size,0,none⟩)] trivial (enters_of Tryz.func66 (by kernel_rfl) rfl) _ 0 (Nat.zero_le _) (by omega) _ hseq).mono fun e w' ⟨v,ss,he,hs,_,hn,hb⟩=>⟨by rw [he,hn.2 hs],hb⟩
theorem ue (D:DataW Value):(strKeys D).length=Maps.size D:=by cases D<;>simp [strKeys,Maps.size]
theorem DE (hso:∀m,AnyZ.SortsIn Tryz.prog bU Fence.wide m) {w:World} {g k hi:Nat} (h:nK w g k hi):Calls Tryz.prog 23 #[.pointer (some ⟨g,0,none⟩)] w fun e w'=>∃a c,e= .returned (.slice a (min k 20) c)∧Below w.heap.size w w':=by
 rcases h with ⟨rfl,hG⟩|⟨hp,mb,m,D,hE,ht,hz,hm,hmb,hno⟩
 ·have HS:=Lib.hid (ya hso w)
  have hc:=hG.cell 0
  clear hso hG
  go_enter Tryz.func23,Tryz.ntmps23
  go_wp2_with (first|(go_at_call 43;go_must (refine (r9 _ _).mono ?_;rintro r w1 ⟨rfl,rfl⟩))|(go_at_call 42;go_must (refine HS.out.mono ?_;rintro r w2 ⟨rfl,hb2⟩;have H5:=Lib.hid hb2;clear hb2)))
  go_ret
  exact ⟨none,0,rfl,((Below.refl _ w).alloc (Nat.le_refl _) _).trans (H5.out.mono (by simp))⟩
 ·refine (ta hso hE (by omega)).mono fun e w' ⟨v,ss,he,hpm,hr,_,hb⟩=> ?_
  have hl:ss.length=min k 20:=by rw [hpm.length_eq,ue,hz]
  rw [hl] at hr
  rcases hr.2 with ⟨e1,e2⟩|⟨q,c,cur,e1,_⟩
  ·exact ⟨none,0,by rw [he,e1,e2],hb⟩
  ·exact ⟨_,c,by rw [he,e1],hb⟩
end Go.Proofs.YtknlbpjcjdenbaaGreat
namespace Go.Proofs.YtknlbpjcjdenbaaGreat
open Go Go.RowKit Go.Maps
set_option linter.unusedVariables false
section
variable {w1:World} {B0 B1:Bn} {x0 x2:Value} {ops:Array Oper} {wt:Nat→Nat→Bool} {Q:Exit→Act→World→Prop} {fr:(Nat→Value)→Array Value} {df:List Deferred} {i:Nat} {o:Oper}
end
section
variable {F:List Value} {fr:(Nat→Value)→Array Value} {df:List Deferred} {ops:Array Oper} {id:Nat} {Q:Exit→Act→World→Prop} {w:World}
end
end Go.Proofs.YtknlbpjcjdenbaaGreat
namespace Go.Proofs.YtknlbpjcjdenbaaGreat
open Go Go.RowKit
set_option maxRecDepth 10000
set_option linter.unusedVariables false
end Go.Proofs.YtknlbpjcjdenbaaGreat
namespace Go.Proofs.YtknlbpjcjdenbaaGreat
open Go Go.RowKit Go.Maps
set_option linter.unusedVariables false
theorem Di {o:Oper} {a:Act} {w:World} {A:Nat→Prop} {x:Operand} {v:Value} {l:List UInt8} (ho:o.op= .convert 30 9 x) (hx:a.eval x=v) (hv:dU A w .u8 l v):(execOp a.eval o).run Tryz.prog w= .ok (.value (.string (bs l))) w:=by
 obtain ⟨ad,c,e2,hR⟩:=hv.rdb
 unfold execOp
 simp only [ho,hx,e2]
 rw [Sem.run_bind,xM hR]
 rfl
end Go.Proofs.YtknlbpjcjdenbaaGreat
