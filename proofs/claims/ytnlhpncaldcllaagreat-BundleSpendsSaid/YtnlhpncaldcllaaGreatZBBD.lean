/- What BB rests on, part 4 of 5: my own texts, put together (merge.py). -/
import Derived.Deep.RegionHeld3
import Derived.WalkKit
import Derived.ProofKit
import Derived.Lib.Hide
import Derived.OpenShut
import Derived.Deep.MidRow
import Derived.Test.YtnlhpncaldcllaaGreatRows
import Derived.WalkSpells
import Derived.StillTactics
import Derived.Laws.Pointers
import Derived.Laws.CopyOwn
import Derived.Laws.AppendOwnNone
import Derived.RowKit3
import Derived.BigQuiet
import Derived.Deep.QuietTactic
import Derived.Deep.LoopGhost
import Derived.Deep.DeepFit
import Derived.WalkLawsBesides
import Derived.Shelf.Spec.BitsCarry
import Derived.Laws.IdiomStrings
import Derived.Maps.RangeWalk
import Derived.Great.BuildSlice
import Derived.Lib.AppendZerosOnto
import Derived.Deep.DeepCutAuto
import Derived.Lib.SliceRun
import Derived.ShutString
import Derived.ChangeOld
import Derived.Test.YtnlhpncaldcllaaGreatZBBC
set_option maxRecDepth 100000
namespace Go.Proofs.YtnlhpncaldcllaaGreat
open Go Go.RowKit
set_option maxRecDepth 10000
theorem Bf (b:List UInt8):b++ [UInt8.ofNat 128]++List.replicate ((2*128-128/8-((b++ [UInt8.ofNat 128]).length:Int)%128)%128).toNat 0++List.replicate ((128:Int)/8-8).toNat 0++fF (UInt64.ofNat 8*UInt64.ofNat b.length)=dG b:=by
 have e1:((2*128-128/8-((b++ [UInt8.ofNat 128]).length:Int)%128)%128).toNat=(240-(b.length+1)%128)%128:=by
  rw [List.length_append,List.length_singleton]
  omega
 have e2:UInt64.ofNat 8*UInt64.ofNat b.length=UInt64.ofNat (8*b.length):=by
  refine UInt64.toNat_inj.1 ?_
  rw [UInt64.toNat_mul,UInt64.toNat_ofNat',UInt64.toNat_ofNat',UInt64.toNat_ofNat']
  omega
 rw [e1,e2,show ((128:Int)/8-8).toNat=8 from rfl]
 simp only [dG,List.append_assoc,List.singleton_append,List.cons_append]
 rfl
theorem RQ (b:List UInt8) (hb:b.length≤8388608):vc bE (ah PM) Tryz.f189.ntmps (ag Tryz.f189) ⟨al 0 [.one (.ro .u8 b),.one (.ob .u64 (UInt64.ofNat b.length)),.one (.ob .int 128)],[],2000⟩ (aD bE Tryz.f189.ntmps [.tmp 6] [.one (.rw 0)] [(0,.row 5 .u8 (dG b))]):=by
 have hl:(b++ [UInt8.ofNat 128]).length=b.length+1:=by rw [List.length_append];rfl
 have hp:=tA b
 refine ⟨by show b.length≤16777216;omega,by show (b++ [UInt8.ofNat 128]).length≤_;omega,?_⟩
 repeat refine sd ?_
 refine fun _=> ?_
 repeat refine sd ?_
 exact ⟨Nat.le_trans (Nat.le_of_eq (congrArg List.length (Bf b))) (by omega),(Bf b).symm,trivial⟩
def Ob:GF:=fun l=>match l with
 | [.one (.ro .u8 b),.one (.ob .u64 n),.one (.ob .int k)]=>some ⟨[.one (.rw 0)],[(0,.row 5 .u8 (dG b))],some (n=UInt64.ofNat b.length∧k=(128:Int)∧b.length≤8388608)⟩
 |_=>none
theorem CC:ab 189 (aq Ob):=af aF Nn Tryz.func189 (by kernel_rfl) rfl (rs:= [.tmp 6]) Tryz.results189 fun l g h hp=>by
 unfold Ob at h
 split at h
 ·rename_i b n k
  cases h
  obtain ⟨h1,h2,h3⟩:=hp
  subst h1 h2
  exact ⟨Nat.le_of_ble_eq_true rfl,rfl,rfl,rfl,RQ _ h3⟩
 ·cases h
def Sg:List (Nat×CF):=(189,aq Ob)::(190,aq FO)::PM
theorem Mj:∀p∈Sg,ab p.1 p.2:=ae CC<|ae vv Mi
theorem SR:ap bE (ah Sg):=az aF (aR Mj)
set_option maxHeartbeats 1000000 in
theorem Pj (q:List (List UInt8)) (hq:q.flatten.length≤8388608):vc bE (ah Sg) Tryz.f116.ntmps (ag Tryz.f116) ⟨al 0 [.one (.bb q)],[],2000⟩ (aD bE Tryz.f116.ntmps [.tmp 2] [.one (.rw 0)] [(0,.row 5 .u8 (aM q.flatten))]):=by
 have hp:=tA q.flatten
 refine ⟨by show q.flatten.length≤16777216;omega,Int.natCast_nonneg _,⟨rfl,rfl,hq⟩,fun _=> ?_⟩
 generalize q.flatten=m at hq hp ⊢
 refine Or.inr ⟨{i:Nat // 128*i≤(dG m).length},fun i=>⟨[(5,.one (.ro .u8 ((dG m).drop (128*i.val))))],[(2080,.blk 178 [.vec .u64 8 (Oi (dG m) i.val)])]⟩,fun i=>8388864-i.val,⟨0,by omega⟩,?_⟩
 refine ⟨rfl,rfl,rfl,fun i hl2=>⟨fun h1=> ?_,fun h1=> ?_⟩⟩
 ·have h1:=of_decide_eq_true h1
  have hi:=i.2
  obtain ⟨i,hi0⟩:=i
  dsimp only at hi h1 ⊢
  have hd:((dG m).drop (128*i)).length=(dG m).length-128*i:=List.length_drop
  rw [hd] at h1
  have hl64:128*i+128≤(dG m).length:=by rw [hp] at h1 ⊢;omega
  refine ⟨⟨Ka _ _,by rw [hd];omega,by rw [hd];omega⟩,?_⟩
  refine ⟨⟨by decide,by show (128:Int)≤(((dG m).drop (128*i)).length:Nat);rw [hd];omega⟩,⟨i+1,by omega⟩,(by show 8388864-(i+1)<8388864-i;omega),?_,rfl,rfl,trivial⟩
  show (dG m).drop (128*(i+1))=((dG m).drop (128*i)).drop 128
  rw [List.drop_drop]
  rfl
 have h1:=of_decide_eq_false h1
 have hi:=i.2
 have hd:((dG m).drop (128*i.val)).length=(dG m).length-128*i.val:=List.length_drop
 rw [hd] at h1
 rw [show i.val=(dG m).length/128 by omega]
 refine Or.inr ⟨{t:Nat // t≤8},fun t=>⟨[(25,.one (.ob .int (t.val:Int))),(2,.one (.rw 0))],[(0,.row 5 .u8 (jb m t.val))]⟩,fun t=>8-t.val,⟨0,by omega⟩,?_⟩
 refine ⟨rfl,rfl,fun t=>⟨fun h1=> ?_,fun h1=> ?_⟩⟩
 ·have h1:=of_decide_eq_true h1
  have ht:=t.2
  repeat refine sd ?_
  have e4:jb m (t.val+1)=jb m t.val++fF ((Oi (dG m) ((dG m).length/128)).getD t.val 0):=jd _ _
  refine ⟨?_,sd<|sj ⟨t.val+1,by omega⟩<|sr ⟨e4,trivial⟩⟩
  have:=nr m (t.val+1)
  show (jb m t.val++fF ((Oi (dG m) ((dG m).length/128)).getD t.val 0)).length≤_
  rw [←e4];omega
 have h1:=of_decide_eq_false h1
 have ht:=t.2
 refine ⟨?_,trivial⟩
 show aM m=jb m t.val
 rw [show t.val=8 by omega]
 rfl
def Fz:GF:=fun l=>match l with
 | [.one (.bb q)]=>some ⟨[.one (.rw 0)],[(0,.row 5 .u8 (aM q.flatten))],some (q.flatten.length≤8388608)⟩
 |_=>none
theorem zf:ab 116 (aq Fz):=af aF SR Tryz.func116 (by kernel_rfl) rfl (rs:= [.tmp 2]) Tryz.results116 fun l g h hp=>by
 unfold Fz at h
 split at h
 ·cases h;exact ⟨Nat.le_of_ble_eq_true rfl,rfl,rfl,rfl,Pj _ hp⟩
 ·cases h
def wW:List Nat→List Nat→List Nat
 | [],m=>m
 |a::r,m=>a::wW r m
theorem gM {b:Nat}:∀ {l m:List Nat},b∈wW l m↔b∈l∨b∈m
 | [],m=>by simp [wW]
 |a::r,m=>by simp [wW,gM (l:=r),or_assoc]
def Su (a:AV) (k:List UInt8→List Nat→R aG):R aG:=match a with
 | .one (.cv (.slice none 0 0))=>k [] []
 | .one (.ro .u8 l)=>k l []
 | .one (.rv _ l)=>k l []
 | .one (.rw b)=> .hp b fun c=>match c with
  |some (.row _ .u8 l)=>k l [b]
  |_=> .fail
 | .one (.sub b lo n)=> .hp b fun c=>match c with
  |some (.row _ .u8 l)=>k ((l.drop lo).take n) [b]
  |_=> .fail
 |_=> .fail
def BA:List Cl→(List (List UInt8)→List Nat→R aG)→R aG
 | [],k=>k [] []
 |x::r,k=>Su (.one x) fun l h=>BA r fun q hs=>k (l::q) (wW h hs)
def Tp (a:AV) (k:AV→List Nat→R aG):R aG:=match a with
 | .one (.bb q)=>k (.one (.bb q)) []
 | .one (.sl b 0 n c)=> .hp b fun h=>match h with
  |some (.blk _ l)=>match l with
   | [.vec .u8 m q]=>match Nat.beq m n,Nat.ble c 16777216,Nat.ble n c with
    |true,true,true=>k (.one (.ro .u8 q)) [b]
    |_,_,_=> .fail
   |l=>match Nat.beq l.length n,Nat.ble c 16777216,Nat.ble n c with
    |true,true,true=>BA l fun q hs=>k (.one (.bb q)) (b::hs)
    |_,_,_=> .fail
  |_=> .fail
 |a=>Su a fun l h=>k (.one (.ro .u8 l)) h
def DC:List Bool→List AV→(List AV→List Nat→R aG)→R aG
 |true::m,a::r,k=>Tp a fun a h=>DC m r fun r hs=>k (a::r) (wW h hs)
 |false::m,a::r,k=>DC m r fun r hs=>k (a::r) hs
 |_,l,k=>k l []
def Aq:List Nat→List Nat→Bool
 | [],_=>true
 |a::r,m=>match bg a m with |true=>false|false=>Aq r m
theorem oT:∀ {l m:List Nat},Aq l m=true→∀b∈l,bg b m=false
 |a::r,m,h,b,hb=>by
  unfold Aq at h
  split at h
  ·cases h
  ·rename_i e
   rcases List.mem_cons.1 hb with rfl|hb
   ·exact e
   ·exact oT h b hb
def wX (mask:List Bool) (G:fb):CF:=fun nx args=>DC mask args fun args hs=>uk args [] fun l ns=>J7 (fun ns cs=>match Aq hs ns,uU (cK l) ns cs with
 |true,true=>match G (cK l) cs with
  |some ⟨outs,us,d,p⟩=>wz (cY nx ns) outs fun o=>wA (cY nx ns) us fun u=>JX (cY nx ns) d fun d=> .pure ⟨o,d++u,p,none⟩
  |none=> .fail
 |_,_=> .fail) 40 0 ns []
section
variable {ty:Nat→TE} {ct:Nat→Option CF} {H:Nat→Option Ch} {η:aY} {w:World} {nx:Nat} {sl:Nat→List AV} {ds:List Bool} {res:aG} {qs:List (Bool×Bool)}
def DI (H:Nat→Option Ch) (η:aY) (hs:List Nat) (g:Nat):Prop:=ay H η g∨∃b∈hs,H b≠none∧bf η b=some g
theorem DI.mono {hs hs':List Nat} (h:∀b∈hs,b∈hs') {g:Nat}:DI H η hs g→DI H η hs' g
 | .inl a=> .inl a
 | .inr ⟨b,hb,h1,h2⟩=> .inr ⟨b,h b hb,h1,h2⟩
theorem eG.mono {A A':Nat→Prop} {k:Kd} {l:List k.T} {v:Value} (hA:∀g,A g→A' g) (h:eG A w k l v):eG A' w k l v:=eG.later (η:=fun _=>none) (η':=fun _=>none) ⟨fun _ _ h=>h,fun g _ a=>⟨rfl,hA g a⟩⟩ h
theorem AV.H.mono {A A':Nat→Prop} {x:AV} {v:Value} (hA:∀g,A g→A' g) (h:x.H η A w v):x.H η A' w v:=AV.H.later ⟨fun _ _ h=>h,fun g _ a=>⟨rfl,hA g a⟩⟩ h
theorem Is (hH:bX H η w) {x:AV} {k:List UInt8→List Nat→R aG} {rd:List cu} (h:(Su x k).run sl H ds= .ok res rd qs) {v:Value} (hx:x.H η (ay H η) w v):∃l hs rd',(k l hs).run sl H ds= .ok res rd' qs∧eG (DI H η hs) w .u8 l v:=by
 unfold Su at h
 split at h
 ·exact ⟨_,_,_,h,by rw [ai hx.1];exact yT .u8⟩
 ·obtain ⟨u,e,hr⟩:=hx
  rw [ai e]
  exact ⟨_,_,_,h,hr.mono fun g a=> .inl a⟩
 ·obtain ⟨e,hr⟩:=hx
  rw [ai e]
  exact ⟨_,_,_,h,hr.mono fun g a=> .inl a⟩
 ·rename_i b
  obtain ⟨rd',h1⟩:=bl h
  split at h1
  ·rename_i E l hb
   obtain ⟨u,hu1,hu2,_⟩:=hx
   obtain ⟨u',e1,hr⟩:=sB (hH.chunk b _ hb) (A':=DI H η [b]) (fun g hg=> .inr ⟨b,by simp,by rw [hb];simp,hg⟩)
   rw [hu1] at e1;cases e1
   exact ⟨_,_,_,h1,by rw [ai hu2];exact hr⟩
  ·cases h1
 ·rename_i b lo n
  obtain ⟨rd',h1⟩:=bl h
  split at h1
  ·rename_i E l hb
   obtain ⟨u,e1,hr⟩:=sQ rfl (hH.chunk b _ hb) hx (A':=DI H η [b]) (fun g hg=> .inr ⟨b,by simp,by rw [hb];simp,hg⟩)
   exact ⟨_,_,_,h1,by rw [ai e1];exact hr⟩
  ·cases h1
 ·cases h
theorem wj (hH:bX H η w):∀ {l:List Cl} {k:List (List UInt8)→List Nat→R aG} {rd:List cu} {cs:List Value},(BA l k).run sl H ds= .ok res rd qs→aO η (ay H η) w l cs→∃q hs rd',(k q hs).run sl H ds= .ok res rd' qs∧cs.length=l.length∧q.length=l.length∧∀i (h:i<q.length) (h':i<cs.length),eG (DI H η hs) w .u8 q[i] cs[i]
 | [],k,rd,cs,h,hc=>by cases hc;exact ⟨[],[],rd,h,rfl,rfl,fun i h=>(by cases h)⟩
 |x::r,k,rd,cs,h,⟨c1,t,e,hx,hr⟩=>by
  unfold BA at h
  have h1:∃v,c1= [v]:=by
   cases x
   case ob q z=>cases h
   case vec q n z=>cases h
   case any=>cases h
   case un=>cases h
   case cv u=>exact ⟨_,hx.1⟩
   case ptr b o=>cases h
   case pix b o i=>cases h
   case pro q z=>cases h
   case sl b o n c=>cases h
   case rw b=>obtain ⟨v,h2,h3,_⟩:=hx;exact ⟨_,h3⟩
   case sub b lo n=>obtain ⟨v,a,c,h2,h3,_⟩:=hx;exact ⟨_,h3⟩
   case ro q z=>obtain ⟨v,h2,_⟩:=hx;exact ⟨_,h2⟩
   case bb z=>cases h
   case pbb z=>cases h
   case ln=>cases h
   case mp v f=>cases h
   case rv v l=>exact ⟨_,hx.1⟩
   case fv f l m=>cases h
  obtain ⟨v,rfl⟩:=h1
  obtain ⟨z,h0,rd1,h2,hy⟩:=Is hH h (show AV.H η (ay H η) w (.one x) v from hx)
  obtain ⟨q,hs,rd2,h3,h4,h5,h6⟩:=wj hH h2 hr
  refine ⟨z::q,wW h0 hs,rd2,h3,by rw [e];simp [h4],by simp [h5],fun i hi hi'=> ?_⟩
  subst e
  cases i with
  |zero=>exact hy.mono fun g a=>a.mono fun b hb=>gM.2 (.inl hb)
  |succ i=>exact (h6 i (by simpa using hi) (by simpa using hi')).mono fun g a=>a.mono fun b hb=>gM.2 (.inr hb)
theorem Pz (hH:bX H η w) {x:AV} {k:AV→List Nat→R aG} {rd:List cu} (h:(Tp x k).run sl H ds= .ok res rd qs) {v:Value} (hx:x.H η (ay H η) w v):∃y hs rd',(k y hs).run sl H ds= .ok res rd' qs∧y.H η (DI H η hs) w v:=by
 unfold Tp at h
 split at h
 ·exact ⟨_,_,_,h,hx.mono fun g a=> .inl a⟩
 ·rename_i b n c
  obtain ⟨rd',h1⟩:=bl h
  split at h1
  ·rename_i E l hb
   obtain ⟨hnc,g,hg,hv⟩:=hx
   obtain ⟨cs,hB,hc,h1c⟩:=dh hH hb hg
   have g3:=hB.range (q:=0) (n:=cs.length)
   rw [List.drop_zero,List.take_length] at g3
   have hof:∀hs,b∈hs→DI H η hs g:=fun hs hm=> .inr ⟨b,hm,by rw [hb];simp,by unfold bf;rw [hg];rfl⟩
   split at h1
   ·rename_i m q
    split at h1
    ·have g1:=aL ‹Nat.beq m n=true›
     have g2:=bU ‹Nat.ble c 16777216=true›
     obtain ⟨c1,t,e,⟨e1,e2⟩,e4⟩:=hc
     have e4:t= []:=e4
     subst e4
     rw [List.append_nil] at e
     subst e
     subst g1
     refine ⟨_,_,_,h1,v,rfl,some ⟨g,0,none⟩,c,by rw [ai hv,e1],by omega,by simp only [maxLen];omega,fun h=>(by cases h),fun _=>⟨g,0,cs,rfl,hof _ (by simp),e2,g3⟩⟩
    ·cases h1
   ·split at h1
    ·obtain ⟨q,hs,rd2,h2,h3,h4,h5⟩:=wj hH h1 hc
     have g1:=aL ‹Nat.beq l.length n=true›
     have g2:=bU ‹Nat.ble c 16777216=true›
     refine ⟨_,_,rd2,h2,some ⟨g,0,none⟩,c,by rw [hv,h4,g1],by omega,?_,fun h=>(by cases h),fun _=>⟨g,0,cs,rfl,hof _ (by simp),g3,by omega,fun i hi hi'=>(h5 i hi hi').mono fun g a=>a.mono fun b hb=>List.mem_cons_of_mem _ hb⟩⟩
     simp only [maxLen]
     omega
    ·cases h1
  ·cases h1
 ·obtain ⟨l,hs,rd1,h1,h2⟩:=Is hH h hx
  exact ⟨_,hs,rd1,h1,v,rfl,h2⟩
theorem sY (hH:bX H η w):∀ {m:List Bool} {args:List AV} {k:List AV→List Nat→R aG} {rd:List cu} {vs:List Value},(DC m args k).run sl H ds= .ok res rd qs→bp η (ay H η) w args vs→∃l hs rd',(k l hs).run sl H ds= .ok res rd' qs∧bp η (DI H η hs) w l vs
 | [],args,k,rd,vs,h,hv=>⟨args,[],rd,by cases args<;>exact h,bp.later ⟨fun _ _ h=>h,fun g _ a=>⟨rfl,.inl a⟩⟩ hv⟩
 |true::m,[],k,rd,vs,h,hv=>⟨[],[],rd,h,hv⟩
 |false::m,[],k,rd,vs,h,hv=>⟨[],[],rd,h,hv⟩
 |true::m,x::r,k,rd,vs,h,⟨v,t,e,hx,hr⟩=>by
  unfold DC at h
  obtain ⟨y,h0,rd1,h1,hy⟩:=Pz hH h hx
  obtain ⟨l,hs,rd2,h2,hl⟩:=sY hH h1 hr
  exact ⟨_,_,rd2,h2,v,t,e,hy.mono fun g a=>a.mono fun b hb=>gM.2 (.inl hb),bp.later ⟨fun _ _ h=>h,fun g _ a=>⟨rfl,DI.mono (fun b hb=>gM.2 (.inr hb)) a⟩⟩ hl⟩
 |false::m,x::r,k,rd,vs,h,⟨v,t,e,hx,hr⟩=>by
  unfold DC at h
  obtain ⟨l,hs,rd2,h2,hl⟩:=sY hH h hr
  exact ⟨_,_,rd2,h2,v,t,e,hx.mono fun g a=> .inl a,hl⟩
theorem iW (hT : a8 ty) (hO : ap ty ct) {f : Nat} {fn : Func} {c : Code} {rs : List ResultVar} (hf : Tryz.prog.funcs[f]? = some fn) (hn : (fn.name == "runtime.NumGoroutine") = false) (hb : fn.body = some c) (hr : fn.results = rs.toArray) {mask : List Bool} {G : fb}
  (hG:∀l cs g,G l cs=some g→aW g.pre→l.length≤fn.ntmps∧g.outs.length=rs.length∧cG cs.length g.outs=true∧gG cs.length g.us=true∧vc ty ct fn.ntmps c ⟨al 0 l,aK 1000 cs,2000⟩ (br ty fn.ntmps rs g.outs g.us cs g.d)):ab f (wX mask G):=by
 refine ⟨⟨fn,c,hf,hn,hb⟩,fun nx args sl H ds res rd qs h hq hp η w vs hH hv hfree=> ?_⟩
 obtain ⟨args',hs,rd0,h,hv⟩:=sY hH h hv
 obtain ⟨l',n1,e1,e2,e3⟩:=ib nx args' []
 rw [e1] at h
 obtain ⟨ns,cs,rd',g1,g2,g3,g4⟩:=mL nx h rfl
 split at g1
 ·rename_i hdj hok
  split at g1
  ·rename_i outs us d p e4
   have:=qj g1
   subst this
   unfold uU at hok
   split at hok
   ·rename_i k1 k2 k3 k4
    obtain ⟨q1,q2,q3,q4,q5⟩:=hG _ _ _ e4 hp
    have hns:∀j (hj:j<cs.length),H (ns.getD j 0)≠none∧bg (ns.getD j 0) ns=true:=fun j hj=>by
     refine ⟨by rw [g4 j cs[j] (Nat.zero_le _) (List.getElem?_eq_getElem hj)];simp,?_⟩
     have hlen:=aL k3
     rw [cg,List.getD_eq_getElem?_getD,List.getElem?_eq_getElem (by omega)]
     exact List.getElem_mem _
    refine qh cA hT hO hf hb hr (bU hok) k1 k2 q1 (aL k3) k4 (fun j c hc=>g4 j c (Nat.zero_le _) hc) q2 q3 q4 q5 hH hfree (A0:=DI H η hs) (fun g ha j hj=> ?_) ?_
    ·obtain ⟨n0,n1⟩:=hns j hj
     rcases ha with ha|⟨b,hb,hb1,hb2⟩
     ·exact ha _ n0
     ·exact hH.apart b _ g (fun e=>by have:=oT hdj b hb;rw [e,n1] at this;cases this) hb1 n0 hb2
    ·rw [←ij,e3 ns g2]
     exact cR hv
   ·cases hok
  ·cases g1
 ·cases g1
end
set_option maxRecDepth 10000
theorem CU (x:UInt32) (n m:Nat) (h:32-n=m):bits BinOp.or IntKind.u32 (IntKind.u32.wrap ((x.toNat:Int)*2^m)) ((x.toNat:Int)/2^n)=((jg x n).toNat:Int):=by
 subst h
 unfold jg
 rw [show vo (ll x n) (L3 x (32-n))=vo (L3 x (32-n)) (ll x n) from UInt32.or_comm _ _,←Py,←L4,←L2]
theorem Gu (n m:Nat) (h1:1≤n) (h2:n≤31) (h:32-n=m):bits BinOp.and IntKind.u64 (IntKind.u64.wrap (-(n:Int))) 31=(m:Int):=by
 have e:IntKind.u64.wrap (-(n:Int))=((18446744073709551616-n:Nat):Int):=by rw [IntKind.wrap_u64];omega
 have e2:=u64_and_nat (18446744073709551616-n) 31 (by omega) (by omega)
 rw [e]
 refine e2.trans ?_
 rw [show (31:Nat)=2^5-1 from rfl,Nat.and_two_pow_sub_one_eq_mod]
 omega
set_option maxHeartbeats 400000 in
theorem CT (x:UInt32) (n:Nat) (h1:1≤n) (h2:n≤31) (w:World):Calls Tryz.prog 275 #[.int .u32 (x.toNat:Int),.int .i64 (-(n:Int))] w fun e w'=>e= .returned (.int .u32 ((jg x n).toNat:Int))∧w=w':=by
 obtain ⟨m,hm⟩:∃m:Nat,32-n=m:=⟨_,rfl⟩
 have e1:=Gu n m h1 h2 hm
 have HE:=Lib.hid (CU x n m hm)
 have hw:IntKind.u64.wrap (32-(m:Int))=(n:Int):=by rw [IntKind.wrap_u64];omega
 have hm0:(0:Int)≤(m:Int):=by omega
 have hm1:(m:Int)≤31:=by omega
 have hn0:(0:Int)≤(n:Int):=by omega
 have hn1:(n:Int)≤31:=by omega
 clear hm h1 h2
 go_enter Tryz.func275,Tryz.ntmps275
 go_wp2
 go_ret
 exact ⟨sy (by rw [←HE.out,IntKind.wrap_u32]),rfl⟩
theorem zm (x:UInt32) (k:Int) (hp: -31≤k∧k≤ -1) (w:World):Calls Tryz.prog 275 #[.int .u32 (x.toNat:Int),.int .i64 k] w fun e w'=>e= .returned (.int .u32 ((jg x (-k).toNat).toNat:Int))∧w=w':=by
 obtain ⟨n,rfl⟩:∃n:Nat,k= -(n:Int):=⟨(-k).toNat,by omega⟩
 rw [Int.neg_neg,Int.toNat_natCast]
 exact CT x n (by omega) (by omega) w
def ye:GF:=fun l=>match l with
 | [.one (.ob .u32 x),.one (.ob .int k)]=>some ⟨[.one (.ob .u32 (jg x (-k).toNat))],[],some (DH (-31) k (-1))⟩
 |_=>none
theorem vK:ab 275 (aq ye):=aN Tryz.func275 (by kernel_rfl) rfl fun l g h hp=>by
 unfold ye at h
 split at h
 ·rename_i x k
  cases h
  refine ⟨rfl,rfl,fun η w vs ⟨v1,t,e1,h1,v2,t2,e2,h2,e3⟩=> ?_⟩
  subst e3 e2 e1
  cases List.singleton_inj.1 (show [v1]= [_] from h1)
  cases List.singleton_inj.1 (show [v2]= [_] from h2)
  exact (zm x k hp w).mono fun e w' ⟨he,hb⟩=>⟨_,he,by subst hb;exact Below.refl _ _,fun _ _=>rfl⟩
 ·cases h
def Sc:List (Nat×CF):=(275,aq ye)::Sg
theorem Mb:∀p∈Sc,ab p.1 p.2:=ae vK Mj
theorem SL:ap am (ah Sc):=az aj (aR Mb)
theorem AB (l:List UInt8) {n:Nat} (hn:n<8) (h:(gb l n).toNat<256^n):∃c,c<256∧(gb l (n+1)).toNat=(gb l n).toNat*256+c:=by
 have hp:256^(n+1)≤256^8:=Nat.pow_le_pow_right (by omega) (by omega)
 have e2:(j3 (gb l n) 8).toNat=(gb l n).toNat*256:=by
  rw [j3,UInt64.toNat_ofNat',Nat.mod_eq_of_lt (by rw [Nat.pow_succ] at hp;omega)]
 rw [gb]
 split
 ·have hb:=(l.getD n 0).toNat_lt
  refine ⟨(l.getD n 0).toNat,hb,?_⟩
  rw [UInt64.toNat_or,e2,UInt8.toNat_toUInt64,show (256:Nat)=2^8 from rfl,←Nat.shiftLeft_eq,←Nat.shiftLeft_add_eq_or_of_lt (by simpa using hb)]
 ·exact ⟨0,by omega,by rw [e2];omega⟩
theorem QX {l:List UInt8} (h:4≤l.length):(iI (gb l 8) 32).toUInt32=Nu (l.take 4):=by
 obtain ⟨h4,l4⟩:=FT l 4 (by omega) h
 have b4:(gb l 4).toNat<256^4:=by rw [h4];exact l4
 obtain ⟨c4,k4,e5⟩:=AB l (n:=4) (by omega) b4
 obtain ⟨c5,k5,e6⟩:=AB l (n:=5) (by omega) (by rw [e5];omega)
 obtain ⟨c6,k6,e7⟩:=AB l (n:=6) (by omega) (by rw [e6,e5];omega)
 obtain ⟨c7,k7,e8⟩:=AB l (n:=7) (by omega) (by rw [e7,e6,e5];omega)
 apply UInt32.toNat_inj.1
 rw [Nu,UInt32.toNat_ofNat',UInt64.toNat_toUInt32,iI,UInt64.toNat_ofNat',e8,e7,e6,e5,←h4]
 omega
theorem LA (b:List UInt8) (hb:4≤b.length):vc am (ah Sc) Tryz.f274.ntmps (ag Tryz.f274) ⟨al 0 [.one (.ro .u8 b)],[],2000⟩ (aD am Tryz.f274.ntmps [.tmp 2] [.one (.ob .u32 (Nu (b.take 4)))] []):=by
 refine ⟨?_,trivial⟩
 show [Nu (b.take 4)]= [(iI (gb b 8) 32).toUInt32]
 rw [QX hb]
def xO:GF:=fun l=>match l with
 | [.one (.ro .u8 b)]=>some ⟨[.one (.ob .u32 (Nu (b.take 4)))],[],some (4≤b.length)⟩
 |_=>none
theorem ul:ab 274 (aq xO):=af aj SL Tryz.func274 (by kernel_rfl) rfl (rs:= [.tmp 2]) Tryz.results274 fun l g h hp=>by
 unfold xO at h
 split at h
 ·cases h;exact ⟨Nat.le_of_ble_eq_true rfl,rfl,rfl,rfl,LA _ hp⟩
 ·cases h
def P7:List (Nat×CF):=(274,aq xO)::Sc
theorem Mc:∀p∈P7,ab p.1 p.2:=ae ul Mb
theorem QA:ap am (ah P7):=az aj (aR Mc)
theorem R5 {b:List UInt8} (hb:64≤b.length) {i:Nat} (hi:i<16):Nu ((b.drop (4*(i:Int)).toNat).take 4)=de (nU (cQ b) 64) i:=by
 rw [show (4*(i:Int)).toNat=4*i by omega,PC _ hi]
 unfold de cQ
 rw [aZ (by omega)]
abbrev Rm (b:List UInt8) (i:Nat):List UInt32:=bx 0 64 (de (nU (cQ b) 64)) (List.replicate 64 0) i
set_option maxHeartbeats 4000000 in
theorem LV (h:List UInt32) (b:List UInt8) (hh:h.length=8) (hb:64≤b.length) (hb2:b.length≤16777216):vc am (ah P7) Tryz.f273.ntmps (ag Tryz.f273) ⟨al 0 [.agg [.vec .u32 8 h],.one (.ro .u8 b)],[],2000⟩ (aD am Tryz.f273.ntmps [.cell 4 273] [.agg [.vec .u32 8 (pJ h (cQ b))]] []):=by
 refine Or.inr ⟨{i:Nat // i≤64},fun i=>⟨[(22,.one (.ob .int (i.val:Int)))],[(2032,.blk 274 [.vec .u32 64 (Rm b i.val)])]⟩,fun i=>64-i.val,⟨0,by omega⟩,?_⟩
 refine ⟨rfl,rfl,dl (by simp),fun i=>⟨fun h1=>⟨fun h2=> ?_,fun h2=> ?_⟩,fun h1=> ?_⟩⟩
 ·have h1:=of_decide_eq_true h1
  have h2:=of_decide_eq_true h2
  have hi:=i.2
  have hd:(b.drop (4*(i.val:Int)).toNat).length=b.length-4*i.val:=by rw [List.length_drop];omega
  repeat refine sd ?_
  refine ⟨by show 4≤(b.drop (4*(i.val:Int)).toNat).length;omega,?_⟩
  repeat refine sd ?_
  refine sj ⟨i.val+1,by omega⟩<|sr<|sr ⟨?_,trivial⟩
  exact ((congrArg (fun z=>(Rm b i.val).set i.val z) (R5 hb (by omega))).trans bq).symm
 ·have h1:=of_decide_eq_true h1
  have h2:=of_decide_eq_false h2
  have hi:=i.2
  have k:=fun m (h0:0<m) (hm:m≤16)=>show (Rm b i.val).getD (Int.toNat ((i.val:Int)-(m:Nat))) 0=de (nU (cQ b) 64) (i.val-m) by rw [show Int.toNat ((i.val:Int)-(m:Nat))=i.val-m by omega,ce (by omega),if_pos (by omega)]
  repeat refine sd ?_
  refine sj ⟨i.val+1,by omega⟩<|sr<|sr ⟨?_,trivial⟩
  refine ((congrArg (fun z=>(Rm b i.val).set i.val z) ?_).trans bq).symm
  rw [PB _ (by omega) (by omega),←k 16 (by omega) (by omega),←k 15 (by omega) (by omega),←k 7 (by omega) (by omega),←k 2 (by omega) (by omega)]
  rfl
 ·have h1:=of_decide_eq_false h1
  have hi:=i.2
  rw [show i.val=64 by omega,show Rm b 64=nU (cQ b) 64 from (b7 (by omega)).trans (je (j6 _ _))]
  refine Or.inr ⟨{t:Nat // t≤64},fun t=>⟨[(75,.one (.ob .int (t.val:Int)))],[(3144,.blk 273 [.vec .u32 8 (Ry h (nU (cQ b) 64) t.val)])]⟩,fun t=>64-t.val,⟨0,by omega⟩,?_⟩
  refine ⟨rfl,rfl,rfl,fun t=>⟨fun h1=> ?_,fun h1=> ?_⟩⟩
  ·have h1:=of_decide_eq_true h1
   have ht:=t.2
   repeat refine sd ?_
   refine sj ⟨t.val+1,by omega⟩<|sr<|sr ⟨?_,trivial⟩
   have e3:de Sm t.val=(iI (Ca.getD t.val 0) 32).toUInt32:=by
    unfold de Sm
    rw [Gh (d:=0) (by rw [List.length_take,F9];omega),Q5]
    simp [List.getD_eq_getElem?_getD,show t.val<64 by omega]
   show RA _ (de Sm t.val) _=_
   rw [e3]
   rfl
  have h1:=of_decide_eq_false h1
  have ht:=t.2
  rw [show t.val=64 by omega]
  refine Or.inr ⟨{t:Nat // t≤8},fun t=>⟨[(159,.one (.ob .int (t.val:Int)))],[(2000,.blk 273 [.vec .u32 8 (bx 0 8 (fun j=>vp (de h j) (de (Ry h (nU (cQ b) 64) 64) j)) h t.val)])]⟩,fun t=>8-t.val,⟨0,by omega⟩,?_⟩
  refine ⟨rfl,rfl,dl hh,fun t=>⟨fun h1=> ?_,fun h1=> ?_⟩⟩
  ·have h1:=of_decide_eq_true h1
   have ht:=t.2
   repeat refine sd ?_
   refine sj ⟨t.val+1,by omega⟩<|sr<|sr ⟨?_,trivial⟩
   refine (congrArg (fun z=>(bx 0 8 (fun j=>vp (de h j) (de (Ry h (nU (cQ b) 64) 64) j)) h t.val).set t.val z) ?_).trans bq |>.symm
   show vp ((bx 0 8 _ h t.val).getD t.val 0) _=_
   rw [ce (by omega),if_neg (by omega)]
   rfl
  have h1:=of_decide_eq_false h1
  have ht:=t.2
  rw [show t.val=8 by omega,b7 (by omega)]
  exact ⟨rfl,rfl,trivial⟩
def ym:GF:=fun l=>match l with
 | [.agg [.vec .u32 8 h],.one (.ro .u8 b)]=>some ⟨[.agg [.vec .u32 8 (pJ h (cQ b))]],[],some (h.length=8∧64≤b.length∧b.length≤16777216)⟩
 |_=>none
theorem v_:ab 273 (aq ym):=af aj QA Tryz.func273 (by kernel_rfl) rfl (rs:= [.cell 4 273]) Tryz.results273 fun l g h hp=>by
 unfold ym at h
 split at h
 ·cases h;exact ⟨Nat.le_of_ble_eq_true rfl,rfl,rfl,rfl,LV _ _ hp.1 hp.2.1 hp.2.2⟩
 ·cases h
set_option maxRecDepth 10000
theorem ov:ab 176 (aq jz):=dY Tryz.func176 (by kernel_rfl) rfl fun l g h hp=>by
 unfold jz at h
 split at h
 ·rename_i q
  cases h
  refine ⟨_,rfl,rfl,fun η w vs ⟨v1,t,e1,⟨a,c,f1,h1,h2,h3,h4⟩,e3⟩=> ?_⟩
  subst e3 e1
  cases List.singleton_inj.1 f1
  refine me w ⟨rfl,h1,h2,fun i hi=> ?_⟩ (Nat.le_trans hp (by decide))
  obtain ⟨g,o,us,rfl,_,hr,hl,hi'⟩:=h4 (by omega)
  have hu:=hi' i hi (by omega)
  obtain ⟨ad,c2,e,hR⟩:=hu.rdb
  refine ⟨g,o,ad,_,c2,rfl,?_,hR⟩
  rw [←e]
  exact hr i _ (List.getElem?_eq_getElem (by omega))
 ·cases h
def kB (r:List UInt8) (n:UInt64):List UInt8:=r++(128::List.replicate ((119-r.length%64)%64) 0)++fF (UInt64.ofNat 8*n)
theorem vh (r:List UInt8) (n:UInt64):(kB r n).length=r.length+1+(119-r.length%64)%64+8:=by
 unfold kB
 rw [List.length_append,List.length_append,EC,List.length_cons,List.length_replicate];omega
theorem Bg (b:List UInt8) (n:UInt64):b++ [UInt8.ofNat 128]++List.replicate ((2*64-64/8-((b++ [UInt8.ofNat 128]).length:Int)%64)%64).toNat 0++List.replicate ((64:Int)/8-8).toNat 0++fF (UInt64.ofNat 8*n)=kB b n:=by
 have e1:((2*64-64/8-((b++ [UInt8.ofNat 128]).length:Int)%64)%64).toNat=(119-b.length%64)%64:=by
  rw [List.length_append,List.length_singleton]
  omega
 rw [e1,show ((64:Int)/8-8).toNat=0 from rfl]
 simp only [kB,List.append_assoc,List.singleton_append,List.cons_append]
 rfl
theorem Pk (b:List UInt8) (n:UInt64) (hb:b.length≤8388608):vc am (ah P7) Tryz.f189.ntmps (ag Tryz.f189) ⟨al 0 [.one (.ro .u8 b),.one (.ob .u64 n),.one (.ob .int 64)],[],2000⟩ (aD am Tryz.f189.ntmps [.tmp 6] [.one (.rw 0)] [(0,.row 5 .u8 (kB b n))]):=by
 have hl:(b++ [UInt8.ofNat 128]).length=b.length+1:=by rw [List.length_append];rfl
 have hp:=vh b n
 refine ⟨by show b.length≤16777216;omega,by show (b++ [UInt8.ofNat 128]).length≤_;omega,?_⟩
 repeat refine sd ?_
 refine fun _=> ?_
 repeat refine sd ?_
 exact ⟨Nat.le_trans (Nat.le_of_eq (congrArg List.length (Bg b n))) (by omega),(Bg b n).symm,trivial⟩
def FA:GF:=fun l=>match l with
 | [.one (.ro .u8 b),.one (.ob .u64 n),.one (.ob .int k)]=>some ⟨[.one (.rw 0)],[(0,.row 5 .u8 (kB b n))],some (k=(64:Int)∧b.length≤8388608)⟩
 |_=>none
theorem y_:ab 189 (aq FA):=af aj QA Tryz.func189 (by kernel_rfl) rfl (rs:= [.tmp 6]) Tryz.results189 fun l g h hp=>by
 unfold FA at h
 split at h
 ·rename_i b n k
  cases h
  obtain ⟨h2,h3⟩:=hp
  subst h2
  exact ⟨Nat.le_of_ble_eq_true rfl,rfl,rfl,rfl,Pk _ _ h3⟩
 ·cases h
def IH:List (Nat×CF):=(189,aq FA)::(176,aq jz)::(107,aq mH)::(273,aq ym)::P7
theorem DW:∀p∈IH,ab p.1 p.2:=ae y_<|ae ov<|ae gU<|ae v_ Mc
theorem Qf:ap am (ah IH):=az aj (aR DW)
def QY (i:Nat):UInt32:=(iI (FY.getD i 0) 32).toUInt32
def wB (s:List UInt32):List UInt32:=bx 0 8 (fun i=>s.getD i 0^^^QY i) s 8
theorem Ph (s:List UInt32) (hs:s.length=8):vc am (ah IH) Tryz.f272.ntmps (ag Tryz.f272) ⟨al 0 [.agg [.vec .u32 8 s]],[],2000⟩ (aD am Tryz.f272.ntmps [.cell 2 273] [.agg [.vec .u32 8 (wB s)]] []):=by
 refine Or.inr ⟨{i:Nat // i≤8},fun i=>⟨[(6,.one (.ob .int (i.val:Int)))],[(2000,.blk 273 [.vec .u32 8 (bx 0 8 (fun i=>s.getD i 0^^^QY i) s i.val)])]⟩,fun i=>8-i.val,⟨0,by omega⟩,?_⟩
 refine ⟨rfl,rfl,dl hs,fun i=>⟨fun h1=> ?_,fun h1=> ?_⟩⟩
 ·have h1:=of_decide_eq_true h1
  have hi:=i.2
  repeat refine sd ?_
  refine sj ⟨i.val+1,by omega⟩<|sr<|sr ⟨?_,trivial⟩
  refine ((congrArg (List.set _ i.val) ?_).trans bq).symm
  show (bx 0 8 _ s i.val).getD i.val 0^^^QY i.val=_
  rw [ce (by omega),if_neg (by omega)]
 have h1:=of_decide_eq_false h1
 have hi:=i.2
 rw [show i.val=8 by omega]
 exact ⟨rfl,rfl,trivial⟩
def Fx:GF:=fun l=>match l with
 | [.agg [.vec .u32 8 s]]=>some ⟨[.agg [.vec .u32 8 (wB s)]],[],some (s.length=8)⟩
 |_=>none
theorem y8:ab 272 (aq Fx):=af aj Qf Tryz.func272 (by kernel_rfl) rfl (rs:= [.cell 2 273]) Tryz.results272 fun l g h hp=>by
 unfold Fx at h
 split at h
 ·cases h;exact ⟨Nat.le_of_ble_eq_true rfl,rfl,rfl,rfl,Ph _ hp⟩
 ·cases h
def BF:List (Nat×CF):=(272,aq Fx)::IH
theorem DX:∀p∈BF,ab p.1 p.2:=ae y8 DW
theorem En:ap am (ah BF):=az aj (aR DX)
theorem io (s:List UInt32):(wB s).length=8:=uG _
def J_ (h:List UInt32) (l:List UInt8):Nat→List UInt32
 |0=>h
 |i+1=>pJ (J_ h l i) (cQ (l.drop (64*i)))
theorem rA {h:List UInt32} (hh:h.length=8) (l:List UInt8):∀i,(J_ h l i).length=8
 |0=>hh
 |_+1=>pK _ _
def pf (s:List UInt32) (l:List UInt8):List UInt32:=wB (J_ (wB s) l (l.length/64))
def kX (l:List UInt8):List UInt8:=l.drop (64*(l.length/64))
abbrev h2 (s:List UInt32) (r:List UInt8) (n:UInt64):List Ch:= [.blk 278 [.vec .u32 8 s,.rw 1001,.ob .u64 n],.row 5 .u8 r]
theorem O_ (s:List UInt32) (r x:List UInt8) (n:UInt64) (hs:s.length=8) (hl:(r++x).length≤8388608):vc am (ah BF) Tryz.f265.ntmps (ag Tryz.f265) ⟨al 0 [.one (.ptr 1000 0),.one (.ro .u8 x)],aK 1000 (h2 s r n),2000⟩ (br am Tryz.f265.ntmps [] [] [(1000,.blk 278 [.vec .u32 8 (pf s (r++x)),.rw 0,.ob .u64 (n+UInt64.ofNat x.length)]),(0,.row 5 .u8 (kX (r++x)))] (h2 s r n) []):=by
 have hf: [r,x].flatten=r++x:=by simp
 refine ⟨by omega,fun hx=>⟨by rw [hf];omega,hs,?_⟩⟩
 rw [hf]
 generalize hD:r++x=D at hl
 refine Or.inr ⟨{k:Nat // k≤D.length/64},fun k=>⟨[(4,.one (.ro .u8 (D.drop (64*k.val))))],[(2416,.blk 273 [.vec .u32 8 (J_ (wB s) D k.val)])]⟩,fun k=>D.length/64-k.val,⟨0,by omega⟩,?_⟩
 refine ⟨rfl,rfl,rfl,fun k h0=>⟨fun h1=> ?_,fun h1=> ?_⟩⟩
 ·have h1:=of_decide_eq_true h1
  have hk:=k.2
  have hd:(D.drop (64*k.val)).length=D.length-64*k.val:=List.length_drop
  refine ⟨⟨rA (io _) _ _,by omega,by omega⟩,⟨by decide,by show (64:Int)≤((D.drop (64*k.val)).length:Nat);omega⟩,?_⟩
  refine sj ⟨k.val+1,by omega⟩ ⟨?_,rfl,rfl,trivial⟩
  show D.drop (64*(k.val+1))=(D.drop (64*k.val)).drop 64
  rw [List.drop_drop,Nat.mul_succ]
 have h1:=of_decide_eq_false h1
 have hk:=k.2
 have hd:(D.drop (64*k.val)).length=D.length-64*k.val:=List.length_drop
 have hkK:k.val=D.length/64:=by omega
 refine ⟨rA (io _) _ _,by omega,rfl,?_,rfl,?_,trivial⟩
 ·rw [hkK];rfl
 ·rw [hkK];rfl
def Fq:fb:=fun l cs=>match l,cs with
 | [.one (.ptr 1000 0),.one (.ro .u8 x)],[.blk 278 [.vec .u32 8 s,.rw 1001,.ob .u64 n],.row 5 .u8 r]=>some ⟨[],[(1000,.blk 278 [.vec .u32 8 (pf s (r++x)),.rw 0,.ob .u64 (n+UInt64.ofNat x.length)]),(0,.row 5 .u8 (kX (r++x)))],[],some (s.length=8∧(r++x).length≤8388608)⟩
 |_,_=>none
theorem yt:ab 265 (wX [false,true] Fq):=iW aj En Tryz.func265 (by kernel_rfl) rfl (rs:= []) Tryz.results265 fun l cs g h hp=>by
 unfold Fq at h
 split at h
 ·cases h;exact ⟨Nat.le_of_ble_eq_true rfl,rfl,rfl,rfl,O_ _ _ _ _ hp.1 hp.2⟩
 ·cases h
theorem LC (s:List UInt32) (r:List UInt8) (n:UInt64) (hr:r.length≤8388608):vc am (ah BF) Tryz.f266.ntmps (ag Tryz.f266) ⟨al 0 [.one (.ptr 1000 0)],aK 1000 (h2 s r n),2000⟩ (br am Tryz.f266.ntmps [.tmp 2] [.one (.ptr 0 0)] [(0,.blk 278 [.vec .u32 8 s,.rw 1,.ob .u64 n]),(1,.row 5 .u8 r)] (h2 s r n) []):=by
 exact ⟨by omega,rfl,rfl,rfl,rfl,trivial⟩
def xQ:fb:=fun l cs=>match l,cs with
 | [.one (.ptr 1000 0)],[.blk 278 [.vec .u32 8 s,.rw 1001,.ob .u64 n],.row 5 .u8 r]=>some ⟨[.one (.ptr 0 0)],[(0,.blk 278 [.vec .u32 8 s,.rw 1,.ob .u64 n]),(1,.row 5 .u8 r)],[],some (r.length≤8388608)⟩
 |_,_=>none
theorem ur:ab 266 (gB xQ):=aQ aj En Tryz.func266 (by kernel_rfl) rfl (rs:= [.tmp 2]) Tryz.results266 fun l cs g h hp=>by
 unfold xQ at h
 split at h
 ·cases h;exact ⟨Nat.le_of_ble_eq_true rfl,rfl,rfl,rfl,LC _ _ _ hp⟩
 ·cases h
def se (h:List UInt32) (n:Nat):List UInt8:=((List.range n).map fun i=>Jd (de h i)).flatten
theorem pp (h:List UInt32) (n:Nat):se h (n+1)=se h n++Jd (de h n):=by
 unfold se
 rw [List.range_succ,List.map_append,List.flatten_append,List.map_singleton,List.flatten_singleton]
theorem nt (h:List UInt32):∀n,(se h n).length=4*n
 |0=>rfl
 |n+1=>by rw [pp,List.length_append,nt h n,qa];omega
def B8 (s:List UInt32) (r:List UInt8) (n:UInt64):List UInt8:=se (J_ (wB s) (kB r n) ((kB r n).length/64)) 8
theorem wP (x:UInt32):((fF x.toUInt64).drop 4).take 4=Jd x:=by
 unfold fF Jd
 rw [UInt32.toNat_toUInt64]
 rfl
set_option maxHeartbeats 1000000 in
theorem Pa (s:List UInt32) (r:List UInt8) (n:UInt64) (hs:s.length=8) (hr:r.length≤8388608):vc am (ah BF) Tryz.f267.ntmps (ag Tryz.f267) ⟨al 0 [.one (.ptr 1000 0)],aK 1000 (h2 s r n),2000⟩ (br am Tryz.f267.ntmps [.tmp 2] [.one (.rw 0)] [(0,.row 5 .u8 (B8 s r n))] (h2 s r n) []):=by
 have hl:=vh r n
 have hl64:(kB r n).length=64*((kB r n).length/64):=by omega
 refine ⟨hs,⟨rfl,hr⟩,?_⟩
 unfold B8
 generalize kB r n=D at hl hl64
 generalize hK:D.length/64=K at hl64
 refine Or.inr ⟨{k:Nat // k≤K},fun k=>⟨[(4,.one (.ro .u8 (D.drop (64*k.val))))],[(2128,.blk 273 [.vec .u32 8 (J_ (wB s) D k.val)])]⟩,fun k=>K-k.val,⟨0,by omega⟩,?_⟩
 refine ⟨rfl,rfl,rfl,fun k h0=>⟨fun h1=> ?_,fun h1=> ?_⟩⟩
 ·have h1:=of_decide_eq_true h1
  have hk:=k.2
  have hd:(D.drop (64*k.val)).length=D.length-64*k.val:=List.length_drop
  refine ⟨⟨rA (io _) _ _,by omega,by omega⟩,⟨by decide,by show (64:Int)≤((D.drop (64*k.val)).length:Nat);omega⟩,?_⟩
  refine sj ⟨k.val+1,by omega⟩ ⟨?_,rfl,rfl,trivial⟩
  show D.drop (64*(k.val+1))=(D.drop (64*k.val)).drop 64
  rw [List.drop_drop,Nat.mul_succ]
 have h1:=of_decide_eq_false h1
 have hk:=k.2
 have hd:(D.drop (64*k.val)).length=D.length-64*k.val:=List.length_drop
 rw [show k.val=K by omega]
 generalize J_ (wB s) D K=H
 refine Or.inr ⟨{i:Nat // i≤8},fun i=>⟨[(32,.one (.ob .int (i.val:Int))),(2,.one (.rw 0))],[(0,.row 5 .u8 (se H i.val))]⟩,fun i=>8-i.val,⟨0,by omega⟩,?_⟩
 refine ⟨rfl,rfl,fun i=>⟨fun h1=> ?_,fun h1=> ?_⟩⟩
 ·have h1:=of_decide_eq_true h1
  have hi:=i.2
  have he:se H i.val++((fF (H.getD i.val 0).toUInt64).drop 4).take 4=se H (i.val+1):=by rw [wP,pp];rfl
  have hL:=nt H (i.val+1)
  refine ⟨⟨by omega,by show (i.val:Int)<8;omega⟩,?_,⟨by omega,by omega⟩,sj ⟨i.val+1,by omega⟩ ⟨rfl,?_,trivial⟩⟩
  ·show (se H i.val++((fF (H.getD i.val 0).toUInt64).drop 4).take 4).length≤_
   rw [he];omega
  ·exact he.symm
 have h1:=of_decide_eq_false h1
 have hi:=i.2
 rw [show i.val=8 by omega]
 exact ⟨rfl,trivial⟩
def Fr:fb:=fun l cs=>match l,cs with
 | [.one (.ptr 1000 0)],[.blk 278 [.vec .u32 8 s,.rw 1001,.ob .u64 n],.row 5 .u8 r]=>some ⟨[.one (.rw 0)],[(0,.row 5 .u8 (B8 s r n))],[],some (s.length=8∧r.length≤8388608)⟩
 |_,_=>none
theorem yw:ab 267 (gB Fr):=aQ aj En Tryz.func267 (by kernel_rfl) rfl (rs:= [.tmp 2]) Tryz.results267 fun l cs g h hp=>by
 unfold Fr at h
 split at h
 ·cases h;exact ⟨Nat.le_of_ble_eq_true rfl,rfl,rfl,rfl,Pa _ _ _ hp.1 hp.2⟩
 ·cases h
def II:List (Nat×CF):=(265,wX [false,true] Fq)::(266,gB xQ)::(267,gB Fr)::BF
theorem DY:∀p∈II,ab p.1 p.2:=ae yt<|ae ur<|ae yw DX
theorem Qg:ap am (ah II):=az aj (aR DY)
set_option maxRecDepth 10000
theorem GI (s:List UInt32) {i:Nat} (hi:i<8):(wB s).getD i 0=s.getD i 0^^^QY i:=by rw [wB,ce hi,if_pos hi]
theorem OJ {s:List UInt32} (hs:s.length=8):wB (wB s)=s:=by
 apply List.ext_getElem (by rw [io,hs])
 intro i h1 h2
 rw [hs] at h2
 have e:=GI (wB s) h2
 rw [GI s h2,UInt32.xor_assoc,UInt32.xor_self,UInt32.xor_zero] at e
 rw [List.getD_eq_getElem?_getD,List.getD_eq_getElem?_getD,List.getElem?_eq_getElem h1,List.getElem?_eq_getElem (by omega)] at e
 exact e
theorem wl {l l':List UInt8} (h:l.take 64=l'.take 64):cQ l=cQ l':=by
 unfold cQ
 refine List.map_congr_left fun i hi=> ?_
 have hi:=List.mem_range.1 hi
 have e:∀m:List UInt8,(m.drop (4*i)).take 4=((m.take 64).drop (4*i)).take 4:=fun m=>by
  rw [List.drop_take,List.take_take,Nat.min_eq_left (by omega)]
 rw [e l,e l',h]
theorem AE (m x:List UInt8):∀k,64*k≤m.length→DK (m++x) k=DK m k
 |0,_=>rfl
 |k+1,h=>by
  rw [DK,DK,AE m x k (by omega),wl]
  rw [List.drop_append_of_le_length (by omega),List.take_append_of_le_length (by rw [List.length_drop];omega)]
theorem rz (m x:List UInt8) (k:Nat) (h:64*k≤m.length):∀j,J_ (DK m k) (m.drop (64*k)++x) j=DK (m++x) (k+j)
 |0=>(AE m x k h).symm
 |j+1=>by
  rw [J_,rz m x k h j,←List.drop_append_of_le_length h,List.drop_drop,←Nat.mul_add]
  rfl
def DM (m:List UInt8):List UInt32:=wB (DK m (m.length/64))
def ss (m:List UInt8):List UInt8:=m.drop (64*(m.length/64))
theorem jY (m:List UInt8):(DM m).length=8:=io _
theorem lM (m:List UInt8):(ss m).length=m.length%64:=by rw [ss,List.length_drop];omega
theorem GJ (m:List UInt8):wB (DM m)=DK m (m.length/64):=OJ (Kb _ _)
theorem sP (m x:List UInt8):pf (DM m) (ss m++x)=DM (m++x):=by
 rw [pf,GJ,ss,rz _ _ _ (by omega),List.length_append,List.length_drop,DM,List.length_append,show m.length/64+(m.length-64*(m.length/64)+x.length)/64=(m.length+x.length)/64 by omega]
theorem lT (m x:List UInt8):kX (ss m++x)=ss (m++x):=by
 rw [kX,ss,←List.drop_append_of_le_length (by omega),List.drop_drop,ss,List.length_drop,List.length_append,show 64*(m.length/64)+64*((m.length+x.length-64*(m.length/64))/64)=64*((m.length+x.length)/64) by omega]
theorem Bu (m x:List UInt8):UInt64.ofNat m.length+UInt64.ofNat x.length=UInt64.ofNat (m++x).length:=by
 rw [List.length_append,UInt64.ofNat_add]
theorem Hi (m:List UInt8):B8 (DM m) (ss m) (UInt64.ofNat m.length)=f9 m:=by
 have e2:UInt64.ofNat 8*UInt64.ofNat m.length=UInt64.ofNat (8*m.length):=by rw [UInt64.ofNat_mul]
 have hp:kB (ss m) (UInt64.ofNat m.length)=m.drop (64*(m.length/64))++((128::List.replicate ((119-m.length%64)%64) 0)++fF (UInt64.ofNat (8*m.length))):=by
  rw [kB,e2,lM,Nat.mod_mod,List.append_assoc]
  rfl
 have hv:CB m=m++((128::List.replicate ((119-m.length%64)%64) 0)++fF (UInt64.ofNat (8*m.length))):=by
  rw [CB,List.append_assoc]
 rw [B8,GJ,hp,rz _ _ _ (by omega),f9,hv]
 generalize (128::List.replicate ((119-m.length%64)%64) (0:UInt8))++fF (UInt64.ofNat (8*m.length))=T
 rw [List.length_append,List.length_drop,List.length_append,show m.length/64+(m.length-64*(m.length/64)+T.length)/64=(m.length+T.length)/64 by omega]
 rfl
theorem sC:DM []=List.replicate 8 0:=by decide +kernel
abbrev hB (m:List UInt8) (r:Nat):Ch:= .blk 278 [.vec .u32 8 (DM m),.rw r,.ob .u64 (UInt64.ofNat m.length)]
abbrev hR (m:List UInt8):Ch:= .row 5 .u8 (ss m)
theorem Ds (q:List (List UInt8)) (hq:q.flatten.length≤8000000):vc am (ah II) Tryz.f264.ntmps (ag Tryz.f264) ⟨al 0 [.one (.bb q)],[],2000⟩ (aD am Tryz.f264.ntmps [.tmp 2] [.one (.rw 0)] [(0,.row 5 .u8 (f9 q.flatten))]):=by
 refine fun hq0=> ?_
 have hq1:q.length≤9223372036854775807:=Nat.le_trans hq0 (by unfold maxLen;decide)
 refine Or.inr ⟨{i:Nat // i≤q.length},fun i=>⟨[(10,.one (.ob .int (i.val:Int)))],[(2032,hB (q.take i.val).flatten 0),(0,hR (q.take i.val).flatten)]⟩,fun i=>q.length-i.val,⟨0,Nat.zero_le _⟩,?_⟩
 have hf:∀i,(q.take i).flatten.length≤8000000:=fun i=>by
  have h:=congrArg List.flatten (List.take_append_drop i q)
  rw [List.flatten_append] at h
  have h2:=congrArg List.length h
  rw [List.length_append] at h2
  omega
 have e0:(q.take 0).flatten= []:=by rw [List.take_zero];rfl
 refine ⟨rfl,rfl,?_,?_,?_,fun i=>⟨fun h1=> ?_,fun h1=> ?_⟩⟩
 ·show DM (q.take 0).flatten=List.replicate 8 0
  rw [e0,sC]
 ·show [UInt64.ofNat (q.take 0).flatten.length]= [(0:UInt64)]
  rw [e0];rfl
 ·show ss (q.take 0).flatten= []
  rw [e0];rfl
 ·have h1:=of_decide_eq_true h1
  have hi:=i.2
  have hl:i.val<q.length:=by omega
  have he:(q.take (i.val+1)).flatten=(q.take i.val).flatten++q.getD i.val []:=by
   rw [List.take_add_one,List.flatten_append,List.getElem?_eq_getElem hl,List.getD_eq_getElem?_getD,List.getElem?_eq_getElem hl]
   simp
  have hT:=hf (i.val+1)
  rw [he] at hT
  refine ⟨⟨by omega,by omega⟩,⟨jY _,?_⟩,⟨by omega,by omega⟩,sj ⟨i.val+1,by omega⟩ ⟨rfl,rfl,?_,?_,?_,trivial⟩⟩
  ·show (ss (q.take i.val).flatten++q.getD i.val []).length≤_
   rw [List.length_append,lM]
   rw [List.length_append] at hT
   have:=Nat.mod_le (q.take i.val).flatten.length 64
   omega
  ·show DM (q.take (i.val+1)).flatten=pf (DM (q.take i.val).flatten) (ss (q.take i.val).flatten++q.getD i.val [])
   rw [he,sP]
  ·show [UInt64.ofNat (q.take (i.val+1)).flatten.length]= [UInt64.ofNat (q.take i.val).flatten.length+UInt64.ofNat (q.getD i.val []).length]
   rw [he,Bu]
  ·show ss (q.take (i.val+1)).flatten=kX (ss (q.take i.val).flatten++q.getD i.val [])
   rw [he,lT]
 have h1:=of_decide_eq_false h1
 have hi:=i.2
 rw [show i.val=q.length by omega,List.take_length]
 refine ⟨⟨jY _,?_⟩,(Hi _).symm,trivial⟩
 rw [lM]
 omega
def xR:GF:=fun l=>match l with
 | [.one (.bb q)]=>some ⟨[.one (.rw 0)],[(0,.row 5 .u8 (f9 q.flatten))],some (q.flatten.length≤8000000)⟩
 |_=>none
theorem ut:ab 264 (aq xR):=af aj Qg Tryz.func264 (by kernel_rfl) rfl (rs:= [.tmp 2]) Tryz.results264 fun l g h hp=>by
 unfold xR at h
 split at h
 ·cases h;exact ⟨Nat.le_of_ble_eq_true rfl,rfl,rfl,rfl,Ds _ hp⟩
 ·cases h
def IJ:List (Nat×CF):=(264,aq xR)::II
theorem DZ:∀p∈IJ,ab p.1 p.2:=ae ut DY
theorem Qh:ap am (ah IJ):=az aj (aR DZ)
set_option maxRecDepth 10000
def mS (k:List UInt8):List UInt8:=(fT 64 k).map (· ^^^0x36)
def nj (k:List UInt8):List UInt8:=(fT 64 k).map (· ^^^0x5c)
theorem AU {P o:List UInt8} {x:UInt8} (hP:P.length=64):bx 0 64 (fun j=>P.getD j 0^^^x) o 64=P.map (· ^^^x):=by
 rw [b7 (Nat.le_refl _)]
 have h:(List.range 64).map (fun j=>P.getD j 0)=P:=je hP
 calc _=((List.range 64).map (fun j=>P.getD j 0)).map (· ^^^x):=by rw [List.map_map];rfl
  _=_:=by rw [h]
theorem Id (k:List UInt8) (hk:k.length≤64):vc am (ah IJ) Tryz.f253.ntmps (ag Tryz.f253) ⟨al 0 [.one (.ro .u8 k)],[],2000⟩ (aD am Tryz.f253.ntmps [.tmp 2] [.one (.ptr 0 0)] [(0,.blk 280 [.ptr 1 0,.ptr 2 0]),(1,hB (mS k) 3),(2,hB (nj k) 4),(3,hR (mS k)),(4,hR (nj k))]):=by
 refine fun hq0=>⟨fun h1=> ?_,fun h1=> ?_⟩
 ·have h1:=of_decide_eq_true h1;omega
 have hP:=GN (l:=k) hk
 refine Or.inr ⟨{i:Nat // i≤64},fun i=>⟨[(22,.one (.ob .int (i.val:Int)))],[(2176,.blk 281 [.vec .u8 64 (bx 0 64 (fun j=>(fT 64 k).getD j 0^^^0x36) (fT 64 k) i.val)]),(2192,.blk 281 [.vec .u8 64 (bx 0 64 (fun j=>(fT 64 k).getD j 0^^^0x5c) (List.replicate 64 0) i.val)]),(2080,hB [] 0),(2112,hB [] 1),(0,hR []),(1,hR [])]⟩,fun i=>64-i.val,⟨0,by omega⟩,?_⟩
 refine ⟨rfl,rfl,?_,rfl,dl (by simp),rfl,sC,rfl,rfl,sC,rfl,rfl,rfl,fun i=>⟨fun h2=> ?_,fun h2=> ?_⟩⟩
 ·show bx 0 64 (fun j=>(fT 64 k).getD j 0^^^54) (fT 64 k) 0=List.take 0 (List.replicate 64 0)++List.take 64 k++List.drop (0+min 64 k.length) (List.replicate 64 0)
  rw [dl hP,List.take_zero,List.nil_append,List.take_of_length_le hk,Nat.min_eq_right hk,Nat.zero_add,List.drop_replicate]
  rfl
 ·have h2:=of_decide_eq_true h2
  have hi:=i.2
  repeat refine sd ?_
  have hg:(bx 0 64 (fun j=>(fT 64 k).getD j 0^^^54) (fT 64 k) i.val).getD i.val 0=(fT 64 k).getD i.val 0:=by rw [ce (by omega),if_neg (by omega)]
  refine sj ⟨i.val+1,by omega⟩ ⟨rfl,rfl,?_,rfl,?_,rfl,rfl,rfl,rfl,rfl,rfl,rfl,rfl,trivial⟩
  ·refine ((congrArg (List.set _ i.val) ?_).trans bq).symm
   show (bx 0 64 _ (fT 64 k) i.val).getD i.val 0^^^54=_
   rw [hg]
  ·refine ((congrArg (List.set _ i.val) ?_).trans bq).symm
   show (bx 0 64 _ (fT 64 k) i.val).getD i.val 0^^^92=_
   rw [hg]
 have h2:=of_decide_eq_false h2
 have hi:=i.2
 have e1:bx 0 64 (fun j=>(fT 64 k).getD j 0^^^54) (fT 64 k) 64=mS k:=AU hP
 have e2:bx 0 64 (fun j=>(fT 64 k).getD j 0^^^92) (List.replicate 64 0) 64=nj k:=AU hP
 rw [show i.val=64 by omega,e1,e2]
 have l1:(mS k).length=64:=by rw [mS,List.length_map,hP]
 have l2:(nj k).length=64:=by rw [nj,List.length_map,hP]
 have r0:ss []= []:=rfl
 have n0:∀l:List UInt8,UInt64.ofNat ([]:List UInt8).length+UInt64.ofNat l.length=UInt64.ofNat l.length:=fun l=>UInt64.zero_add _
 refine ⟨⟨jY _,by rw [r0,List.nil_append];omega⟩,⟨jY _,by rw [r0,List.nil_append];omega⟩,rfl,(sP [] _).symm,?_,rfl,(sP [] _).symm,?_,(lT [] _).symm,(lT [] _).symm,trivial⟩
 ·exact congrArg (fun z=> [z]) (n0 _).symm
 ·exact congrArg (fun z=> [z]) (n0 _).symm
def q9:GF:=fun l=>match l with
 | [.one (.ro .u8 k)]=>some ⟨[.one (.ptr 0 0)],[(0,.blk 280 [.ptr 1 0,.ptr 2 0]),(1,hB (mS k) 3),(2,hB (nj k) 4),(3,hR (mS k)),(4,hR (nj k))],some (k.length≤64)⟩
 |_=>none
theorem rR:ab 253 (aq q9):=af aj Qh Tryz.func253 (by kernel_rfl) rfl (rs:= [.tmp 2]) Tryz.results253 fun l g h hp=>by
 unfold q9 at h
 split at h
 ·cases h;exact ⟨Nat.le_of_ble_eq_true rfl,rfl,rfl,rfl,Id _ hp⟩
 ·cases h
abbrev H3:=List UInt32×List UInt8×UInt64
def mN (h:H3) (x:List UInt8):H3:=(pf h.1 (h.2.1++x),kX (h.2.1++x),h.2.2+UInt64.ofNat x.length)
def dK (h:H3):List (List UInt8)→H3
 | []=>h
 |x::q=>dK (mN h x) q
def uq (h:H3):List UInt8:=B8 h.1 h.2.1 h.2.2
def uE (hi ho:H3) (q:List (List UInt8)):List UInt8:=uq (mN ho (uq (dK hi q)))
def wC (m:List UInt8):H3:=(DM m,ss m,UInt64.ofNat m.length)
theorem MV (m x:List UInt8):mN (wC m) x=wC (m++x):=by
 rw [mN,wC,wC,sP,lT,Bu]
theorem MW (m:List UInt8):∀q,dK (wC m) q=wC (m++q.flatten)
 | []=>by rw [dK,List.flatten_nil,List.append_nil]
 |x::q=>by rw [dK,MV,MW (m++x) q,List.flatten_cons,List.append_assoc]
theorem pd (h:H3):∀q x,dK h (q++ [x])=mN (dK h q) x
 | [],x=>rfl
 |y::q,x=>by rw [List.cons_append,dK,pd _ q x];rfl
theorem pn (k:List UInt8) (q:List (List UInt8)) (hk:k.length≤64):uE (wC (mS k)) (wC (nj k)) q=lh k q.flatten:=by
 have hf:∀m,uq (wC m)=f9 m:=Hi
 rw [uE,MW,hf,MV,hf,lh,F4,if_neg (by omega)]
 rfl
def MD (h:H3):Prop:=h.1.length=8∧h.2.1.length≤64
theorem FW (h:H3) (x:List UInt8):MD (mN h x):=⟨io _,by show (kX _).length≤64;rw [kX,List.length_drop];omega⟩
theorem FX:∀q (h:H3),MD h→MD (dK h q)
 | [],_,h=>h
 |x::q,h,_=>FX q _ (FW h x)
theorem sO (m:List UInt8):MD (wC m):=⟨jY _,by show (ss m).length≤64;rw [lM];omega⟩
theorem FV (h:H3):(uq h).length=32:=nt _ _
abbrev hC (h:H3) (r:Nat):Ch:= .blk 278 [.vec .u32 8 h.1,.rw r,.ob .u64 h.2.2]
abbrev hD (h:H3):Ch:= .row 5 .u8 h.2.1
def IK:List (Nat×CF):=(253,aq q9)::IJ
theorem D0:∀p∈IK,ab p.1 p.2:=ae rR DZ
theorem Qi:ap am (ah IK):=az aj (aR D0)
abbrev TC (hi ho:H3):List Ch:= [.blk 280 [.ptr 1001 0,.ptr 1002 0],hC hi 1003,hC ho 1004,hD hi,hD ho]
theorem H9 (hi ho:H3) (q:List (List UInt8)) (h1:MD hi) (h2:MD ho) (hq:q.flatten.length≤8000000):vc am (ah IK) Tryz.f254.ntmps (ag Tryz.f254) ⟨al 0 [.one (.ptr 1000 0),.one (.bb q)],aK 1000 (TC hi ho),2000⟩ (br am Tryz.f254.ntmps [.tmp 4] [.one (.rw 0)] [(0,.row 5 .u8 (uE hi ho q))] (TC hi ho) []):=by
 have g1:=h1.2
 have g2:=h2.2
 have hf:∀i,(q.take i).flatten.length≤8000000:=fun i=>by
  have h:=congrArg List.flatten (List.take_append_drop i q)
  rw [List.flatten_append] at h
  have h2:=congrArg List.length h
  rw [List.length_append] at h2
  omega
 refine ⟨by omega,by omega,fun hq0=> ?_⟩
 have hq1:q.length≤9223372036854775807:=Nat.le_trans hq0 (by unfold maxLen;decide)
 refine Or.inr ⟨{i:Nat // i≤q.length},fun i=>⟨[(30,.one (.ob .int (i.val:Int)))],[(2192,hC (dK hi (q.take i.val)) 0),(0,hD (dK hi (q.take i.val)))]⟩,fun i=>q.length-i.val,⟨0,Nat.zero_le _⟩,?_⟩
 have e0:q.take 0= []:=List.take_zero
 refine ⟨rfl,rfl,?_,?_,?_,fun i=>⟨fun k1=> ?_,fun k1=> ?_⟩⟩
 ·show (dK hi (q.take 0)).1=hi.1
  rw [e0];rfl
 ·show [(dK hi (q.take 0)).2.2]= [hi.2.2]
  rw [e0];rfl
 ·show (dK hi (q.take 0)).2.1=hi.2.1
  rw [e0];rfl
 ·have k1:=of_decide_eq_true k1
  have hi':=i.2
  have hl:i.val<q.length:=by omega
  have ho1:=FX (q.take i.val) hi h1
  have g3:=ho1.2
  have he:q.take (i.val+1)=q.take i.val++ [q.getD i.val []]:=by
   rw [List.take_add_one,List.getElem?_eq_getElem hl,List.getD_eq_getElem?_getD,List.getElem?_eq_getElem hl]
   rfl
  have hA:dK hi (q.take (i.val+1))=mN (dK hi (q.take i.val)) (q.getD i.val []):=by rw [he,pd]
  have hT:=hf (i.val+1)
  rw [he,List.flatten_append,List.flatten_singleton,List.length_append] at hT
  refine ⟨⟨by omega,by omega⟩,⟨ho1.1,?_⟩,⟨by omega,by omega⟩,sj ⟨i.val+1,by omega⟩ ⟨rfl,rfl,?_,?_,?_,trivial⟩⟩
  ·show ((dK hi (q.take i.val)).2.1++q.getD i.val []).length≤_
   rw [List.length_append]
   omega
  ·show (dK hi (q.take (i.val+1))).1=(mN (dK hi (q.take i.val)) (q.getD i.val [])).1
   rw [hA]
  ·show [(dK hi (q.take (i.val+1))).2.2]= [(mN (dK hi (q.take i.val)) (q.getD i.val [])).2.2]
   rw [hA]
  ·show (dK hi (q.take (i.val+1))).2.1=(mN (dK hi (q.take i.val)) (q.getD i.val [])).2.1
   rw [hA]
 have k1:=of_decide_eq_false k1
 have hi':=i.2
 rw [show i.val=q.length by omega,List.take_length]
 have ho1:=FX q hi h1
 have hF:=FV (dK hi q)
 unfold uE
 generalize dK hi q=S at ho1 hF
 have g3:=ho1.2
 have g4:=(FW ho (uq S)).2
 refine ⟨⟨ho1.1,by omega⟩,⟨h2.1,?_⟩,⟨(FW ho (uq S)).1,?_⟩,rfl,trivial⟩
 ·show (ho.2.1++uq S).length≤_
  rw [List.length_append];omega
 ·show (mN ho (uq S)).2.1.length≤_
  omega
def qZ:fb:=fun l cs=>match l,cs with
 | [.one (.ptr 1000 0),.one (.bb q)],[.blk 280 [.ptr 1001 0,.ptr 1002 0],.blk 278 [.vec .u32 8 s,.rw 1003,.ob .u64 n],.blk 278 [.vec .u32 8 s',.rw 1004,.ob .u64 n'],.row 5 .u8 r,.row 5 .u8 r']=>some ⟨[.one (.rw 0)],[(0,.row 5 .u8 (uE (s,r,n) (s',r',n') q))],[],some (MD (s,r,n)∧MD (s',r',n')∧q.flatten.length≤8000000)⟩
 |_,_=>none
theorem rD:ab 254 (wX [false,true] qZ):=iW aj Qi Tryz.func254 (by kernel_rfl) rfl (rs:= [.tmp 4]) Tryz.results254 fun l cs g h hp=>by
 unfold qZ at h
 split at h
 ·rename_i q s n s' n' r r'
  cases h
  exact ⟨Nat.le_of_ble_eq_true rfl,rfl,rfl,rfl,H9 (s,r,n) (s',r',n') q hp.1 hp.2.1 hp.2.2⟩
 ·cases h
def IL:List (Nat×CF):=(254,wX [false,true] qZ)::IK
theorem D1:∀p∈IL,ab p.1 p.2:=ae rD D0
theorem Qj:ap am (ah IL):=az aj (aR D1)
theorem Pe (k:List UInt8) (q:List (List UInt8)) (hk:k.length≤64) (hq:q.flatten.length≤8000000):vc am (ah IL) Tryz.f255.ntmps (ag Tryz.f255) ⟨al 0 [.one (.ro .u8 k),.one (.bb q)],[],2000⟩ (aD am Tryz.f255.ntmps [.tmp 4] [.one (.rw 0)] [(0,.row 5 .u8 (lh k q.flatten))]):=by
 exact ⟨hk,⟨sO _,sO _,hq⟩,(pn k q hk).symm,trivial⟩
def Ft:GF:=fun l=>match l with
 | [.one (.ro .u8 k),.one (.bb q)]=>some ⟨[.one (.rw 0)],[(0,.row 5 .u8 (lh k q.flatten))],some (k.length≤64∧q.flatten.length≤8000000)⟩
 |_=>none
theorem yM:ab 255 (aq Ft):=af aj Qj Tryz.func255 (by kernel_rfl) rfl (rs:= [.tmp 4]) Tryz.results255 fun l g h hp=>by
 unfold Ft at h
 split at h
 ·cases h;exact ⟨Nat.le_of_ble_eq_true rfl,rfl,rfl,rfl,Pe _ _ hp.1 hp.2⟩
 ·cases h
def IM:List (Nat×CF):=(255,aq Ft)::IL
theorem D2:∀p∈IM,ab p.1 p.2:=ae yM D1
theorem Qk:ap am (ah IM):=az aj (aR D2)
theorem Dr (k m:List UInt8) (hk:k.length≤64) (hm:m.length≤8000000):vc am (ah IM) Tryz.f238.ntmps (ag Tryz.f238) ⟨al 0 [.one (.ro .u8 k),.one (.ro .u8 m)],[],2000⟩ (aD am Tryz.f238.ntmps [.tmp 4] [.one (.rw 0)] [(0,.row 5 .u8 (lh k m))]):=by
 have e: [m].flatten=m:=by simp
 refine ⟨⟨hk,by rw [e];omega⟩,?_,trivial⟩
 show lh k m=lh k [m].flatten
 rw [e]
def mC:GF:=fun l=>match l with
 | [.one (.ro .u8 k),.one (.ro .u8 m)]=>some ⟨[.one (.rw 0)],[(0,.row 5 .u8 (lh k m))],some (k.length≤64∧m.length≤8000000)⟩
 |_=>none
theorem nc:ab 238 (aq mC):=af aj Qk Tryz.func238 (by kernel_rfl) rfl (rs:= [.tmp 4]) Tryz.results238 fun l g h hp=>by
 unfold mC at h
 split at h
 ·cases h;exact ⟨Nat.le_of_ble_eq_true rfl,rfl,rfl,rfl,Dr _ _ hp.1 hp.2⟩
 ·cases h
def IN:List (Nat×CF):=(238,aq mC)::IM
theorem D3:∀p∈IN,ab p.1 p.2:=ae nc D2
theorem Ql:ap am (ah IN):=az aj (aR D3)
theorem Dw (k m:List UInt8) (n:Nat) (hk:k.length≤64) (hm:m.length≤1000000) (hn:1≤n∧n≤8160):vc am (ah IN) Tryz.f237.ntmps (ag Tryz.f237) ⟨al 0 [.one (.ro .u8 k),.one (.ro .u8 m),.one (.ob .int (n:Int))],[],2000⟩ (aD am Tryz.f237.ntmps [.tmp 6] [.one (.rw 0)] [(0,.row 5 .u8 (AF k m ((n+31)/32) |>.take n))]):=by
 refine ⟨fun h1=> ?_,fun h1=>⟨h1,fun h2=> ?_,fun h2=>⟨hk,?_⟩⟩⟩
 ·have h1:=of_decide_eq_true h1;omega
 ·have h2:=of_decide_eq_true h2;omega
 refine Or.inr ⟨{i:Nat // i≤(n+31)/32},fun i=>⟨[(8,.one (.rw 0)),(9,.one (.ro .u8 (F2 k m i.val))),(10,.one (.ob .u8 (UInt8.ofNat (i.val+1))))],[(0,.row 5 .u8 (AF k m i.val))]⟩,fun i=>(n+31)/32-i.val,⟨0,Nat.zero_le _⟩,?_⟩
 refine ⟨rfl,rfl,rfl,fun i=> ?_⟩
 have hO:=jC k m i.val
 have hi:=i.2
 refine fun _=>⟨fun h3=> ?_,fun h3=> ?_⟩
 ·have h3:=of_decide_eq_true h3
  have e3: [F2 k m i.val,m,[UInt8.ofNat (i.val+1)]].flatten=F2 k m i.val++m++ [UInt8.ofNat (i.val+1)]:=by simp
  have hX:uE (wC (mS k)) (wC (nj k)) [F2 k m i.val,m,[UInt8.ofNat (i.val+1)]]=F2 k m (i.val+1):=by rw [pn k _ hk,e3];rfl
  have hT:=Ke k m i.val
  have hO2:=jC k m (i.val+1)
  have h4:i.val<(n+31)/32:=by omega
  refine ⟨⟨sO _,sO _,by rw [e3,List.length_append,List.length_append,List.length_singleton];omega⟩,?_,sj ⟨i.val+1,by omega⟩ ⟨hX.symm,?_,?_,trivial⟩⟩
  ·show (AF k m i.val++uE (wC (mS k)) (wC (nj k)) [F2 k m i.val,m,[UInt8.ofNat (i.val+1)]]).length≤_
   rw [hX]
   show (AF k m (i.val+1)).length≤_
   omega
  ·refine congrArg (fun z=> [z]) ?_
   show UInt8.ofNat (i.val+1+1)=UInt8.ofNat (i.val+1)+UInt8.ofNat 1
   rw [UInt8.ofNat_add]
  ·show AF k m (i.val+1)=AF k m i.val++uE (wC (mS k)) (wC (nj k)) [F2 k m i.val,m,[UInt8.ofNat (i.val+1)]]
   rw [hX];rfl
 have h3:=of_decide_eq_false h3
 have hE:i.val=(n+31)/32:=by omega
 rw [hE] at hO ⊢
 have hl:(0:Int)≤(n:Int)∧(n:Int)≤((AF k m ((n+31)/32)).length:Int):=⟨by omega,by omega⟩
 refine ⟨⟨hl,trivial⟩,?_,rfl,trivial⟩
 show ((AF k m ((n+31)/32)).take n).length≤_
 rw [List.length_take];omega
def mG:GF:=fun l=>match l with
 | [.one (.ro .u8 k),.one (.ro .u8 m),.one (.ob .int n)]=>some ⟨[.one (.rw 0)],[(0,.row 5 .u8 ((AF k m ((n.toNat+31)/32)).take n.toNat))],some (k.length≤64∧m.length≤1000000∧DH 1 n 8160)⟩
 |_=>none
theorem om:ab 237 (aq mG):=af aj Ql Tryz.func237 (by kernel_rfl) rfl (rs:= [.tmp 6]) Tryz.results237 fun l g h hp=>by
 unfold mG at h
 split at h
 ·rename_i k m n
  cases h
  obtain ⟨h1,h2,h3,h4⟩:=hp
  obtain ⟨n,rfl⟩:=Int.eq_ofNat_of_zero_le (show (0:Int)≤n by omega)
  exact ⟨Nat.le_of_ble_eq_true rfl,rfl,rfl,rfl,Dw _ _ _ h1 h2 ⟨by omega,by omega⟩⟩
 ·cases h
def IP:List (Nat×CF):=(237,aq mG)::IN
theorem D4:∀p∈IP,ab p.1 p.2:=ae om D3
theorem Qm:ap am (ah IP):=az aj (aR D4)
theorem Dv (k s m:List UInt8) (n:Nat) (hk:k.length≤64) (hs:s.length≤8000000) (hm:m.length≤1000000) (hn:1≤n∧n≤8160):vc am (ah IP) Tryz.f195.ntmps (ag Tryz.f195) ⟨al 0 [.one (.ro .u8 k),.one (.ro .u8 s),.one (.ro .u8 m),.one (.ob .int (n:Int))],[],2000⟩ (aD am Tryz.f195.ntmps [.tmp 8] [.one (.rw 0)] [(0,.row 5 .u8 (F3 k s m n))]):=by
 have hl:=mP k s
 exact ⟨⟨hk,hs⟩,⟨by omega,hm,by omega,by omega⟩,rfl,trivial⟩
def mF:GF:=fun l=>match l with
 | [.one (.ro .u8 k),.one (.ro .u8 s),.one (.ro .u8 m),.one (.ob .int n)]=>some ⟨[.one (.rw 0)],[(0,.row 5 .u8 (F3 k s m n.toNat))],some (k.length≤64∧s.length≤8000000∧m.length≤1000000∧DH 1 n 8160)⟩
 |_=>none
theorem ol:ab 195 (aq mF):=af aj Qm Tryz.func195 (by kernel_rfl) rfl (rs:= [.tmp 8]) Tryz.results195 fun l g h hp=>by
 unfold mF at h
 split at h
 ·rename_i k s m n
  cases h
  obtain ⟨h0,h1,h2,h3,h4⟩:=hp
  obtain ⟨n,rfl⟩:=Int.eq_ofNat_of_zero_le (show (0:Int)≤n by omega)
  exact ⟨Nat.le_of_ble_eq_true rfl,rfl,rfl,rfl,Dv _ _ _ _ h0 h1 h2 ⟨by omega,by omega⟩⟩
 ·cases h
set_option maxRecDepth 10000
theorem Qn:ap am (ah IB):=az aj (aR zT)
theorem Lz (b:List UInt8) (n:Int) (hn:0≤n∧n≤16777216):vc am (ah IB) Tryz.f191.ntmps (ag Tryz.f191) ⟨al 0 [.one (.ro .u8 b),.one (.ob .int n)],[],2000⟩ (aD am Tryz.f191.ntmps [.tmp 4] [.one (.rw 0)] [(0,.row 5 .u8 (bO b n.toNat))]):=by
 refine ⟨⟨hn.1,rfl,hn.2⟩,?_,trivial⟩
 show bO b n.toNat=b.take (List.replicate n.toNat (0:UInt8)).length++(List.replicate n.toNat (0:UInt8)).drop b.length
 simp [bO]
def qY:GF:=fun l=>match l with
 | [.one (.ro .u8 b),.one (.ob .int n)]=>some ⟨[.one (.rw 0)],[(0,.row 5 .u8 (bO b n.toNat))],some (DH 0 n 16777216)⟩
 |_=>none
theorem qK:ab 191 (aq qY):=af aj Qn Tryz.func191 (by kernel_rfl) rfl (rs:= [.tmp 4]) Tryz.results191 fun l g h hp=>by
 unfold qY at h
 split at h
 ·cases h;exact ⟨Nat.le_of_ble_eq_true rfl,rfl,rfl,rfl,Lz _ _ hp⟩
 ·cases h
def BG:List (Nat×CF):=(191,aq qY)::IB
theorem D5:∀p∈BG,ab p.1 p.2:=ae qK zT
theorem Eo:ap am (ah BG):=az aj (aR D5)
theorem Ip (b:List UInt8):vc am (ah BG) Tryz.f118.ntmps (ag Tryz.f118) ⟨al 0 [.one (.ro .u8 b)],[],2000⟩ (aD am Tryz.f118.ntmps [.tmp 2] [.one (.rw 0)] [(0,.row 5 .u8 (aB b))]):=by
 have hl:(bO b 32).length=32:=ki b 32
 have hl1:(bO b (32:Int).toNat).length=32:=hl
 refine ⟨⟨by decide,by decide⟩,?_⟩
 have h0:0<(bO b (32:Int).toNat).length:=by omega
 have h1:∀x,31<((bO b (32:Int).toNat).set 0 x).length:=fun x=>by rw [List.length_set];omega
 exact ⟨h0,h0,h0,h0,h1 _,h1 _,h1 _,h1 _,rfl,trivial⟩
def lA:GF:=fun l=>match l with
 | [.one (.ro .u8 b)]=>some ⟨[.one (.rw 0)],[(0,.row 5 .u8 (aB b))],none⟩
 |_=>none
theorem j8:ab 118 (aq lA):=af aj Eo Tryz.func118 (by kernel_rfl) rfl (rs:= [.tmp 2]) Tryz.results118 fun l g h hp=>by
 unfold lA at h
 split at h
 ·cases h;exact ⟨Nat.le_of_ble_eq_true rfl,rfl,rfl,rfl,Ip _⟩
 ·cases h
@[reducible] def DR (x z:F):AV:= .agg [.ob (.x 4) x,.ob (.x 4) z]
theorem Px (s:Bool) (x2 z2 x3 z3:F):vc am (ah BG) Tryz.f202.ntmps (ag Tryz.f202) ⟨al 0 [.one (.ob .bool s),DR x2 z2,DR x3 z3],[],2000⟩ (aD am Tryz.f202.ntmps [.cell 6 216,.cell 7 216] [DR (if s then x3 else x2) (if s then z3 else z2),DR (if s then x2 else x3) (if s then z2 else z3)] []):=by
 refine ⟨fun h=> ?_,fun h=> ?_⟩
 ·subst h
  exact ⟨⟨rfl,rfl⟩,⟨rfl,rfl⟩,⟨rfl,rfl⟩,⟨rfl,rfl⟩,trivial⟩
 ·subst h
  exact ⟨⟨rfl,rfl⟩,⟨rfl,rfl⟩,⟨rfl,rfl⟩,⟨rfl,rfl⟩,trivial⟩
def FQ:GF:=fun l=>match l with
 | [.one (.ob .bool s),.agg [.ob (.x 4) x2,.ob (.x 4) z2],.agg [.ob (.x 4) x3,.ob (.x 4) z3]]=>some ⟨[DR (if s then x3 else x2) (if s then z3 else z2),DR (if s then x2 else x3) (if s then z2 else z3)],[],none⟩
 |_=>none
theorem zR:ab 202 (aq FQ):=af aj Eo Tryz.func202 (by kernel_rfl) rfl (rs:= [.cell 6 216,.cell 7 216]) Tryz.results202 fun l g h hp=>by
 unfold FQ at h
 split at h
 ·cases h;exact ⟨Nat.le_of_ble_eq_true rfl,rfl,rfl,rfl,Px _ _ _ _ _⟩
 ·cases h
theorem Rf (aa e:F):e*(aa+fn 121665*e)=bH e (sZ aa (bH e (fn (UInt64.ofNat 121665).toNat))):=by
 rw [show (UInt64.ofNat 121665).toNat=121665 from rfl]
 show _=e*(aa+e*fn 121665)
 rw [Lean.Grind.CommSemiring.mul_comm e (fn 121665)]
theorem LZ (u x2 z2 x3 z3:F):vc am (ah BG) Tryz.f203.ntmps (ag Tryz.f203) ⟨al 0 [.agg [.ob (.x 4) u],DR x2 z2,DR x3 z3],[],2000⟩ (aD am Tryz.f203.ntmps [.cell 6 216,.cell 7 216] [DR (lm.step u ⟨x2,z2,x3,z3⟩).x2 (lm.step u ⟨x2,z2,x3,z3⟩).z2,DR (lm.step u ⟨x2,z2,x3,z3⟩).x3 (lm.step u ⟨x2,z2,x3,z3⟩).z3] []):=by
 exact ⟨⟨rfl,rfl⟩,⟨rfl,congrArg (fun z=> [z]) (Rf _ _)⟩,⟨rfl,rfl⟩,⟨rfl,rfl⟩,trivial⟩
def yq:GF:=fun l=>match l with
 | [.agg [.ob (.x 4) u],.agg [.ob (.x 4) x2,.ob (.x 4) z2],.agg [.ob (.x 4) x3,.ob (.x 4) z3]]=>some ⟨[DR (lm.step u ⟨x2,z2,x3,z3⟩).x2 (lm.step u ⟨x2,z2,x3,z3⟩).z2,DR (lm.step u ⟨x2,z2,x3,z3⟩).x3 (lm.step u ⟨x2,z2,x3,z3⟩).z3],[],none⟩
 |_=>none
theorem wv:ab 203 (aq yq):=af aj Eo Tryz.func203 (by kernel_rfl) rfl (rs:= [.cell 6 216,.cell 7 216]) Tryz.results203 fun l g h hp=>by
 unfold yq at h
 split at h
 ·cases h;exact ⟨Nat.le_of_ble_eq_true rfl,rfl,rfl,rfl,LZ _ _ _ _ _⟩
 ·cases h
def IQ:List (Nat×CF):=(118,aq lA)::(202,aq FQ)::(203,aq yq)::BG
theorem D6:∀p∈IQ,ab p.1 p.2:=ae j8<|ae zR<|ae wv D5
theorem Qo:ap am (ah IQ):=az aj (aR D6)
theorem rH (k:List UInt8) (u:F):∀m,(gI k u m).2<2
 |0=>by show 0<2;omega
 |m+1=>by show cI k (254-m)<2;exact Nat.mod_lt _ (by omega)
abbrev TW (q:lm×Nat):List (Nat×Ch):= [(2224,.blk 216 [.ob (.x 4) q.1.x2,.ob (.x 4) q.1.z2]),(2240,.blk 216 [.ob (.x 4) q.1.x3,.ob (.x 4) q.1.z3])]
set_option maxHeartbeats 2000000 in
theorem LY (s p:List UInt8):vc am (ah IQ) Tryz.f125.ntmps (ag Tryz.f125) ⟨al 0 [.one (.ro .u8 s),.one (.ro .u8 p)],[],2000⟩ (aD am Tryz.f125.ntmps [.tmp 4] [.one (.rw 0)] [(0,.row 5 .u8 (aV 32 (dP s p).val))]):=by
 have hx:dP s p=(Ce (gI (aB s) (jo p) 255)).x2*bk (Ce (gI (aB s) (jo p) 255)).z2:=rfl
 have hk:=iX s
 rw [hx]
 clear hx
 refine Or.inr ⟨{m:Nat // m≤255},fun m=>⟨[(10,.one (.ob .int (254-(m.val:Int)))),(9,.one (.ob .bool (decide ((gI (aB s) (jo p) m.val).2=1))))],TW (gI (aB s) (jo p) m.val)⟩,fun m=>255-m.val,⟨0,by omega⟩,?_⟩
 refine ⟨rfl,rfl,⟨rfl,?_⟩,⟨rfl,rfl⟩,⟨rfl,rfl⟩,⟨rfl,?_⟩,fun m=>⟨fun h1=> ?_,fun h1=> ?_⟩⟩
 ·exact congrArg (fun z=> [z]) F1.symm
 ·exact congrArg (fun z=> [z]) F1.symm
 ·have h1:=of_decide_eq_true h1
  have hm:=m.2
  have hS:gI (aB s) (jo p) (m.val+1)=(((if (gI (aB s) (jo p) m.val).2≠cI (aB s) (254-m.val) then (gI (aB s) (jo p) m.val).1.swp else (gI (aB s) (jo p) m.val).1).step (jo p)),cI (aB s) (254-m.val)):=rfl
  have hb2:=rH (aB s) (jo p) m.val
  have hb3:=rH (aB s) (jo p) (m.val+1)
  rw [hS] at hb3
  generalize aB s=k at hk hS hb2 hb3 ⊢
  generalize gI k (jo p) m.val=S at hS hb2 hb3 ⊢
  refine ⟨⟨⟨by omega,by omega⟩,by omega,by omega⟩,⟨by omega,by omega⟩,by omega,⟨by omega,by omega⟩,by omega,⟨by omega,by omega⟩,?_⟩
  have e1:((254-(m.val:Int))/8).toNat=(254-m.val)/8:=by omega
  have e2:((254-(m.val:Int))%8).toNat=(254-m.val)%8:=by omega
  have hb:=GX (k.getD ((254-m.val)/8) 0) ((254-m.val)%8)
  have e3:decide ((r8 (k.getD ((254-(m.val:Int))/8).toNat (Kd.df .u8)) ((254-(m.val:Int))%8).toNat&&&UInt8.ofNat 1:UInt8)=UInt8.ofNat 1)=decide (cI k (254-m.val)=1):=by
   rw [e1,e2]
   refine decide_eq_decide.2 ⟨fun h=> ?_,fun h=> ?_⟩
   ·exact hb.symm.trans (congrArg UInt8.toNat h)
   ·exact UInt8.toNat_inj.1 (hb.trans h)
  rw [e3]
  generalize cI k (254-m.val)=b at hS hb3 ⊢
  obtain ⟨L,c⟩:=S
  have e4:(254:Int)-((m.val+1:Nat):Int)=254-(m.val:Int)-1:=by omega
  have hc:c=0∨c=1:=by have:c<2:=hb2;omega
  have hb:b=0∨b=1:=by have:b<2:=hb3;omega
  have hS:gI k (jo p) (m.val+1)=(lm.step (jo p) (if c≠b then L.swp else L),b):=hS
  rcases hc with rfl|rfl<;>rcases hb with rfl|rfl<;>(first|rw [if_pos (by decide)] at hS|rw [if_neg (by decide)] at hS)<;>
   exact sj ⟨m.val+1,by omega⟩ ⟨congrArg (fun z:Int=> [z]) e4,congrArg (fun q:lm×Nat=> [decide (q.2=1)]) hS,⟨rfl,congrArg (fun q:lm×Nat=> [q.1.x2]) hS⟩,⟨rfl,congrArg (fun q:lm×Nat=> [q.1.z2]) hS⟩,⟨rfl,congrArg (fun q:lm×Nat=> [q.1.x3]) hS⟩,⟨rfl,congrArg (fun q:lm×Nat=> [q.1.z3]) hS⟩,trivial⟩
 have h1:=of_decide_eq_false h1
 have hm:=m.2
 have hm2:m.val=255:=by omega
 rw [hm2]
 have hb2:=rH (aB s) (jo p) 255
 generalize gI (aB s) (jo p) 255=S at hb2
 obtain ⟨L,c⟩:=S
 have hc:c=0∨c=1:=by have:c<2:=hb2;omega
 rcases hc with rfl|rfl
 ·refine ⟨?_,trivial⟩
  rw [Ce,if_neg (show ¬(L,0).2=1 from by show ¬0=1;decide)]
  rfl
 ·refine ⟨?_,trivial⟩
  rw [Ce,if_pos (show (L,1).2=1 from rfl)]
  rfl
def yp:GF:=fun l=>match l with
 | [.one (.ro .u8 s),.one (.ro .u8 p)]=>some ⟨[.one (.rw 0)],[(0,.row 5 .u8 (aV 32 (dP s p).val))],none⟩
 |_=>none
theorem wu:ab 125 (aq yp):=af aj Qo Tryz.func125 (by kernel_rfl) rfl (rs:= [.tmp 4]) Tryz.results125 fun l g h hp=>by
 unfold yp at h
 split at h
 ·cases h;exact ⟨Nat.le_of_ble_eq_true rfl,rfl,rfl,rfl,LY _ _⟩
 ·cases h
def M4:List (Nat×CF):=(125,aq yp)::IQ
theorem M5:∀p∈M4,ab p.1 p.2:=ae wu D6
theorem Qp:ap am (ah M4):=az aj (aR M5)
theorem LX (s:List UInt8):vc am (ah M4) Tryz.f61.ntmps (ag Tryz.f61) ⟨al 0 [.one (.ro .u8 s)],[],2000⟩ (aD am Tryz.f61.ntmps [.tmp 2] [.one (.rw 0)] [(0,.row 5 .u8 (aV 32 (dP s [9]).val))]):=⟨rfl,trivial⟩
def yo:GF:=fun l=>match l with
 | [.one (.ro .u8 s)]=>some ⟨[.one (.rw 0)],[(0,.row 5 .u8 (aV 32 (dP s [9]).val))],none⟩
 |_=>none
theorem wq:ab 61 (aq yo):=af aj Qp Tryz.func61 (by kernel_rfl) rfl (rs:= [.tmp 2]) Tryz.results61 fun l g h hp=>by
 unfold yo at h
 split at h
 ·cases h;exact ⟨Nat.le_of_ble_eq_true rfl,rfl,rfl,rfl,LX _⟩
 ·cases h
set_option maxRecDepth 10000
theorem nM (b:List UInt8):aV 32 (jo b).val=b↔b.length=32∧bo b<Pq:=by
 constructor
 ·intro h
  have h1:=congrArg List.length h
  rw [ar] at h1
  refine ⟨h1.symm,?_⟩
  have h2:=congrArg bo h
  rw [lE,Nat.mod_eq_of_lt (Nat.lt_trans (jo b).isLt (by decide +kernel))] at h2
  rw [←h2]
  exact (jo b).isLt
 ·rintro ⟨h1,h2⟩
  have e:(jo b).val=bo b:=by
   show bo (b.take 32)%pV%Pq=bo b
   rw [List.take_of_length_le (by omega),Nat.mod_eq_of_lt (Nat.lt_trans h2 (by decide +kernel)),Nat.mod_eq_of_lt h2]
  rw [e,←h1,AL]
theorem yU {b:List UInt8} (h:b.length=32∧bo b<Pq):jo b=fn (bo b):=by
 show fn _=_
 rw [List.take_of_length_le (by omega),Nat.mod_eq_of_lt (Nat.lt_trans h.2 (by decide +kernel))]
def OG (b:List UInt8):Bool:=decide (b.length=32∧bo b<Pq)
def JZ (b:List UInt8):F:=if OG b then fn (bo b) else 0
def ID (b:List UInt8):Int:=if OG b then 0 else 2
theorem OH {b:List UInt8} (h:¬(b.length=32∧bo b<Pq)):JZ b=0∧ID b=2:=by
 have e:OG b=false:=decide_eq_false h
 unfold JZ ID
 rw [e]
 exact ⟨rfl,rfl⟩
theorem KC {b:List UInt8} (h:b.length=32∧bo b<Pq):JZ b=jo b∧ID b=0:=by
 have e:OG b=true:=decide_eq_true h
 unfold JZ ID
 rw [e,yU h]
 exact ⟨rfl,rfl⟩
set_option maxRecDepth 10000
structure Q3 where
 x:F
 y:F
 z:F
@[reducible] def Q3.av (q:Q3):AV:= .agg [.ob (.x 1) q.x,.ob (.x 1) q.y,.ob (.x 1) q.z]
def tX (x y:F):List UInt8:=if x.val%2=1 then (aV 32 y.val).set 31 ((aV 32 y.val).getD 31 0|||128) else aV 32 y.val
theorem NA {b:List UInt8} (h:b.length=32):(Ah b).length=32∧bo (Ah b)=dL b:=⟨by rw [Ai,h],Km h⟩
def TL (q:Q3) (P:EP):Prop:=fE P q.x q.y q.z
def wI (q:Q4) (P:EP):Prop:=pW P q.x q.y q.z q.t
theorem G_ (n k:Nat) (h:k≤255):C0 n (k:Int)=((n/2^k%2:Nat):Int):=by
 rw [C0,if_pos (by omega),Int.toNat_natCast]
theorem JO (P:EP):tX P.x P.y=eB P:=by
 unfold tX
 split
 ·rename_i h;exact JS h
 ·rename_i h;exact EY h
theorem JP {q:Q3} {P:EP} (h:TL q P):tX (bH q.x (bk q.z)) (bH q.y (bk q.z))=eB P:=by
 have h1:q.z*bk q.z=1:=cW h.z
 have ex:bH q.x (bk q.z)=P.x:=by
  unfold bH
  rw [h.x]
  generalize bk q.z=i at h1 ⊢
  generalize q.z=z at h1 ⊢
  generalize P.x=x
  grind
 have ey:bH q.y (bk q.z)=P.y:=by
  unfold bH
  rw [h.y]
  generalize bk q.z=i at h1 ⊢
  generalize q.z=z at h1 ⊢
  generalize P.y=x
  grind
 rw [ex,ey]
 exact JO P
theorem lU {a b:Q4} {P Q:EP} (h:wI a P) (h':wI b Q):wI (jl a b fa) (P.add Q):=
 pW.add h h' rfl rfl (by rw [NN];rfl) rfl rfl rfl rfl rfl
theorem kJ (P:EP):wI (pw P.x P.y) P:=by
 have h:=pW.one P
 rw [←F1] at h
 exact h
theorem dW {q:Q4} {P:EP} (h:wI q P):aA q=q:=by
 rw [aA,if_neg h.p.z]
theorem A3:wI (aA Cr) Cp.zero:=by
 rw [aA,if_pos (show Cr.z=0 from rfl)]
 have h:=kJ Cp.zero
 rw [F1]
 exact h
theorem AX {a:Q4} {P:EP} (h:wI a P) (n:Nat) (hn:n<2^253):∀j,j≤253→wI (cj fa a n j) (Cp.mul (n/2^(253-j)) P)
 |0,_=>by
  rw [Nat.sub_zero,Nat.div_eq_of_lt hn]
  exact A3
 |j+1,hj=>by
  have ih:=AX h n hn j (by omega)
  obtain ⟨k,hk⟩:∃k,k=252-j:=⟨_,rfl⟩
  have e1:(252:Int)-(j:Int)=(k:Int):=by omega
  rw [cj,e1,G_ n k (by omega),show 253-(j+1)=k by omega,Cn]
  rw [show 253-j=k+1 by omega] at ih
  by_cases hb:n/2^k%2=1
  ·rw [if_pos hb,if_pos (by rw [hb];rfl)]
   exact lU (lU ih ih) h
  ·rw [if_neg hb,if_neg (by omega)]
   exact lU ih ih
theorem jI {a:Q4} {P:EP} (h:wI a P) (n:Nat) (hn:n<Lq):wI (cj fa (aA a) n 253) (Cp.mul n P):=by
 rw [dW h]
 have:=AX h n (Nat.lt_trans hn (by decide +kernel)) 253 (by omega)
 rwa [Nat.sub_self,Nat.pow_zero,Nat.div_one] at this
theorem vQ {a b:Q4} {P Q:EP} (h:wI a P) (h':wI b Q):eR (aA a) (aA b)=decide (P=Q):=by
 rw [dW h,dW h']
 have e:=fE.same h.p h'.p
 rw [Bool.eq_iff_iff,decide_eq_true_iff,←e]
 simp only [eR,qI,Bool.and_eq_true,decide_eq_true_iff]
 exact Iff.rfl
set_option maxRecDepth 10000
set_option maxRecDepth 10000
theorem EX (x y:F):(tX x y).length=32:=by
 unfold tX
 split
 ·rw [List.length_set,ar]
 ·exact ar _ _
theorem qi (a b:List UInt8): [a,b].flatten=a++b:=by simp
theorem Js (a b c:List UInt8): [a,b,c].flatten=a++(b++c):=by simp
set_option maxRecDepth 10000
theorem Dq (b:List UInt8):vc bE (ah PJ) Tryz.f163.ntmps (ag Tryz.f163) ⟨al 0 [.one (.ro .u8 b)],[],2000⟩ (aD bE Tryz.f163.ntmps [.cell 2 122,.tmp 3] [.agg [.ob (.x 4) (JZ b)],.one (.ob .int (ID b))] []):=by
 refine ⟨fun h=> ?_,fun h=> ?_⟩
 ·have h:(!decide (aV 32 (jo b).val=b))=true:=h
  obtain ⟨a1,a2⟩:=OH (b:=b) fun k=>by
   rw [decide_eq_true ((nM b).2 k)] at h
   cases h
  rw [a1,a2]
  exact ⟨⟨rfl,rfl⟩,rfl,trivial⟩
 ·have h:(!decide (aV 32 (jo b).val=b))=false:=h
  have h3:aV 32 (jo b).val=b:=of_decide_eq_true (by simpa using h)
  obtain ⟨a1,a2⟩:=KC ((nM b).1 h3)
  rw [a1,a2]
  exact ⟨⟨rfl,rfl⟩,rfl,trivial⟩
def mB:GF:=fun l=>match l with
 | [.one (.ro .u8 b)]=>some ⟨[.agg [.ob (.x 4) (JZ b)],.one (.ob .int (ID b))],[],none⟩
 |_=>none
theorem oe:ab 163 (aq mB):=af aF QB Tryz.func163 (by kernel_rfl) rfl (rs:= [.cell 2 122,.tmp 3]) Tryz.results163 fun l g h hp=>by
 unfold mB at h
 split at h
 ·cases h;exact ⟨Nat.le_of_ble_eq_true rfl,rfl,rfl,rfl,Dq _⟩
 ·cases h
def Rr (b:List UInt8):Bool:=decide (b.length=32∧bo b<Lq)
def C8 (b:List UInt8):Nat:=if Rr b then bo b else 0
def Ha (b:List UInt8):Int:=if Rr b then 0 else 2
theorem Gz {b:List UInt8} (h:¬(b.length=32∧bo b<Lq)):C8 b=0∧Ha b=2:=by
 have e:Rr b=false:=decide_eq_false h
 unfold C8 Ha
 rw [e]
 exact ⟨rfl,rfl⟩
theorem A9 {b:List UInt8} (h:b.length=32∧bo b<Lq):C8 b=bK b∧Ha b=0:=by
 have e:Rr b=true:=decide_eq_true h
 unfold C8 Ha
 rw [e,nJ h.1,Nat.mod_eq_of_lt h.2]
 exact ⟨rfl,rfl⟩
theorem ld {b:List UInt8} (h:b.length=32):aV 32 (bK b)=b↔b.length=32∧bo b<Lq:=by
 have QY:=IW
 constructor
 ·intro k
  refine ⟨h,?_⟩
  have h2:=congrArg bo k
  have hl:=jZ b
  rw [lE,Nat.mod_eq_of_lt (Nat.lt_trans hl (by decide +kernel))] at h2
  rw [←h2];exact hl
 ·rintro ⟨_,h2⟩
  rw [nJ h,Nat.mod_eq_of_lt h2,←h,AL]
theorem Dz (b:List UInt8):vc bE (ah PJ) Tryz.f100.ntmps (ag Tryz.f100) ⟨al 0 [.one (.ro .u8 b)],[],2000⟩ (aD bE Tryz.f100.ntmps [.cell 2 129,.tmp 3] [.agg [.ob (.x 2) (C8 b)],.one (.ob .int (Ha b))] []):=by
 refine fun _=>⟨fun h=> ?_,fun h=>⟨fun h2=> ?_,fun h2=> ?_⟩⟩
 ·have h1:b.length≠32:=by have:=of_decide_eq_true h;omega
  obtain ⟨a1,a2⟩:=Gz (b:=b) fun k=>h1 k.1
  rw [a1,a2]
  exact ⟨⟨rfl,rfl⟩,rfl,trivial⟩
 ·have h1:b.length=32:=by have:=of_decide_eq_false h;omega
  have h2:(!decide (aV 32 (bK b)=b))=true:=h2
  obtain ⟨a1,a2⟩:=Gz (b:=b) fun k=>by
   rw [decide_eq_true ((ld h1).2 k)] at h2
   cases h2
  rw [a1,a2]
  exact ⟨⟨rfl,rfl⟩,rfl,trivial⟩
 ·have h1:b.length=32:=by have:=of_decide_eq_false h;omega
  have h2:(!decide (aV 32 (bK b)=b))=false:=h2
  have h3:aV 32 (bK b)=b:=of_decide_eq_true (by simpa using h2)
  obtain ⟨a1,a2⟩:=A9 ((ld h1).1 h3)
  rw [a1,a2]
  exact ⟨⟨rfl,rfl⟩,rfl,trivial⟩
theorem OW (b:List UInt8):C8 b<Lq:=by
 unfold C8
 split
 ·rename_i h;exact (of_decide_eq_true h).2
 ·exact g_
def mJ:GF:=fun l=>match l with
 | [.one (.ro .u8 b)]=>some ⟨[.agg [.ob (.x 2) (C8 b)],.one (.ob .int (Ha b))],[],none⟩
 |_=>none
theorem oD:ab 100 (aq mJ):=af aF QB Tryz.func100 (by kernel_rfl) rfl (rs:= [.cell 2 129,.tmp 3]) Tryz.results100 fun l g h hp=>by
 unfold mJ at h
 split at h
 ·cases h;exact ⟨Nat.le_of_ble_eq_true rfl,rfl,rfl,rfl,Dz _⟩
 ·cases h
def Se:List (Nat×CF):=(100,aq mJ)::(163,aq mB)::PJ
theorem Mf:∀p∈Se,ab p.1 p.2:=ae oD<|ae oe Ef
theorem SN:ap bE (ah Se):=az aF (aR Mf)
def gl (b:List UInt8):Q4:=if c9 b=0 then pw (c_ b).x (c_ b).y else Cr
def Tr (y:F):F:=bH (wn (bH y y) (fn (UInt64.ofNat 1).toNat)) (bk (sZ (bH (bH y y) dE) (fn (UInt64.ofNat 1).toNat)))
theorem nW (y:F):Tr y=xx y:=by
 show (y*y-fn 1)*bk (y*y*dE+fn 1)=(y*y-1)*bk (y*y*dE+1)
 rw [F1]
theorem lu {b:List UInt8} (h:c_ b=Cp.zero∧c9 b=12):gl b=Cr∧c9 b=12:=⟨by rw [gl,h.2];rfl,h.2⟩
def MN (o:Bool) (a b:F):F:=match o with |true=>a|false=>b
theorem GP (o:Bool) (R:F):(if o=true then -R else R)=MN o (DG R) R:=by cases o<;>rfl
theorem An {b:List UInt8} {y:F} {o:Bool} (h1:b.length=32) (h2:dL b<Pq) (hy:fn (dL b)=y) (hr:cq (xx y)=0) (hs:Hc b=o) (hx:¬(o=true∧bu (xx y)=0)):gl b=pw (MN o (DG (bu (Tr y))) (bu (Tr y))) y∧c9 b=0:=by
 obtain ⟨a1,a2,a3⟩:=JM h1 h2 hy hr hs hx
 have e:gl b=pw (c_ b).x (c_ b).y:=if_pos a1
 refine ⟨?_,a1⟩
 rw [e,a2,a3,nW,GP]
theorem KA (c:UInt8):(c&&&UInt8.ofNat 128≠UInt8.ofNat 0)↔(c.toNat/128%2 ==1)=true:=by
 have h:∀c:Nat,c<256→(decide (UInt8.ofNat c&&&UInt8.ofNat 128≠UInt8.ofNat 0))=(c/128%2 ==1):=by decide +kernel
 have:=h c.toNat c.toNat_lt
 rw [UInt8.ofNat_toNat] at this
 rw [←this,decide_eq_true_iff]
theorem Kw (c:UInt8):c&&& ~~~(UInt8.ofNat 128)=c&&&127:=by
 rw [show ~~~(UInt8.ofNat 128)=(127:UInt8) from by decide]
set_option maxHeartbeats 2000000 in
theorem O8 (b:List UInt8):vc bE (ah Se) Tryz.f98.ntmps (ag Tryz.f98) ⟨al 0 [.one (.ro .u8 b)],[],2000⟩ (aD bE Tryz.f98.ntmps [.cell 2 124,.tmp 3] [(gl b).av,.one (.ob .int (c9 b))] []):=by
 refine fun hl=>⟨fun h=> ?_,fun h=> ?_⟩
 ·have h1:b.length≠32:=by have:=of_decide_eq_true h;omega
  obtain ⟨a1,a2⟩:=lu (Ao h1)
  rw [a1,a2]
  exact ⟨⟨rfl,rfl⟩,⟨rfl,rfl⟩,⟨rfl,rfl⟩,⟨rfl,rfl⟩,rfl,trivial⟩
 ·have h1:b.length=32:=by have:=of_decide_eq_false h;omega
  clear h
  have h31:31<b.length:=by omega
  obtain ⟨c1,c2⟩:=NA h1
  have ec:b.set 31 (b.getD 31 0&&& ~~~(UInt8.ofNat 128))=Ah b:=by rw [Kw];rfl
  refine ⟨h31,by show b.length≤16777216;omega,h31,h31,h31,h31,fun h=> ?_,fun h=> ?_⟩
  ·have h2:¬dL b<Pq:=fun hlt=>by
    have h:decide (ID (b.set 31 (b.getD 31 0&&& ~~~(UInt8.ofNat 128)))≠0)=true:=h
    have e:OG (Ah b)=true:=decide_eq_true ⟨c1,by rw [c2];exact hlt⟩
    rw [ec,ID,e] at h
    cases h
   obtain ⟨a1,a2⟩:=lu (JK h2)
   rw [a1,a2]
   exact ⟨⟨rfl,rfl⟩,⟨rfl,rfl⟩,⟨rfl,rfl⟩,⟨rfl,rfl⟩,rfl,trivial⟩
  ·have h2:dL b<Pq:=by
    have h:decide (ID (b.set 31 (b.getD 31 0&&& ~~~(UInt8.ofNat 128)))≠0)=false:=h
    rw [ec,ID] at h
    cases e:OG (Ah b) with
    |false=>rw [e] at h;cases h
    |true=>
     have:=of_decide_eq_true e
     rw [←c2];exact this.2
   have hy:fn (dL b)=JZ (b.set 31 (b.getD 31 0&&& ~~~(UInt8.ofNat 128))):=by
    have e:OG (Ah b)=true:=decide_eq_true ⟨c1,by rw [c2];exact h2⟩
    rw [ec]
    unfold JZ
    rw [e,c2]
    rfl
   clear h
   have hs:=Hd h1
   have hodd:=KA (b.getD 31 0)
   rw [←hs] at hodd
   obtain ⟨y,hyy⟩:∃y,y=JZ (b.set 31 (b.getD 31 0&&& ~~~(UInt8.ofNat 128))):=⟨_,rfl⟩
   rw [←hyy] at hy
   refine ⟨fun h=> ?_,fun h=> ?_⟩
   ·have h3:¬cq (xx y)=0:=by
     rw [←nW,hyy]
     exact of_decide_eq_true h
    obtain ⟨a1,a2⟩:=lu (ET h1 h2 hy h3)
    rw [a1,a2]
    exact ⟨h,⟨rfl,rfl⟩,⟨rfl,rfl⟩,⟨rfl,rfl⟩,⟨rfl,rfl⟩,rfl,trivial⟩
   ·have h3:cq (xx y)=0:=by
     rw [←nW,hyy]
     have:=of_decide_eq_false h
     exact Decidable.not_not.1 this
    have ho:Hc b=decide (b.getD 31 0&&&UInt8.ofNat 128≠UInt8.ofNat 0):=by
     rw [Bool.eq_iff_iff,decide_eq_true_iff]
     exact hodd.symm
    refine ⟨fun h4=>⟨h,h4,fun h5=> ?_,fun h5=> ?_⟩,fun h4=>⟨h,h4,?_⟩⟩
    ·have h5:bu (xx y)=0:=by rw [←nW,hyy];exact of_decide_eq_true h5
     obtain ⟨a1,a2⟩:=lu (JL h1 h2 hy h3 (hodd.1 (of_decide_eq_true h4)) h5)
     rw [a1,a2]
     exact ⟨⟨rfl,rfl⟩,⟨rfl,rfl⟩,⟨rfl,rfl⟩,⟨rfl,rfl⟩,rfl,trivial⟩
    ·have h5:¬bu (xx y)=0:=by rw [←nW,hyy];exact of_decide_eq_false h5
     obtain ⟨a1,a2⟩:=An h1 h2 hy h3 ho fun k=>h5 k.2
     subst hyy
     rw [a1,a2]
     exact ⟨⟨rfl,rfl⟩,⟨rfl,rfl⟩,⟨rfl,rfl⟩,⟨rfl,rfl⟩,rfl,trivial⟩
    ·obtain ⟨a1,a2⟩:=An h1 h2 hy h3 ho fun k=>by rw [show decide (b.getD 31 0&&&UInt8.ofNat 128≠UInt8.ofNat 0)=false from h4] at k;cases k.1
     subst hyy
     rw [a1,a2]
     exact ⟨⟨rfl,rfl⟩,⟨rfl,rfl⟩,⟨rfl,rfl⟩,⟨rfl,rfl⟩,rfl,trivial⟩
def Fi:GF:=fun l=>match l with
 | [.one (.ro .u8 b)]=>some ⟨[(gl b).av,.one (.ob .int (c9 b))],[],none⟩
 |_=>none
theorem xc:ab 98 (aq Fi):=af aF SN Tryz.func98 (by kernel_rfl) rfl (rs:= [.cell 2 124,.tmp 3]) Tryz.results98 fun l g h hp=>by
 unfold Fi at h
 split at h
 ·cases h;exact ⟨Nat.le_of_ble_eq_true rfl,rfl,rfl,rfl,O8 _⟩
 ·cases h
set_option maxRecDepth 10000
theorem Jh (w:World):Calls Tryz.prog 232 #[.int .u64 1,.int .u64 32] w fun e w'=>e= .returned (.tuple #[.int .u64 0,.int .u64 32])∧w=w':=by
 have h:=po (x:=1) (y:=32) ⟨by omega,by omega⟩ ⟨by omega,by omega⟩ w
 rw [show (1:Int)*32/18446744073709551616=0 by omega,show (1:Int)*32%18446744073709551616=32 by omega] at h
 go_enter Tryz.func232,Tryz.ntmps232
 go_wp2_with (go_at_call 198;go_must (refine h.mono ?_;rintro e w1 ⟨rfl,rfl⟩))
 go_ret2
 exact ⟨rfl,rfl⟩
def Fv:GF:=fun l=>match l with
 | [.one (.ob .u64 a),.one (.ob .u64 b)]=>some ⟨[.one (.ob .u64 0),.one (.ob .u64 32)],[],some (a=UInt64.ofNat 1∧b=UInt64.ofNat 32)⟩
 |_=>none
theorem yQ:ab 232 (aq Fv):=aN Tryz.func232 (by kernel_rfl) rfl fun l g h hp=>by
 unfold Fv at h
 split at h
 ·rename_i a b
  cases h
  obtain ⟨rfl,rfl⟩:=hp
  refine ⟨rfl,rfl,fun η w vs ⟨v1,t,e1,h1,v2,t2,e2,h2,e3⟩=> ?_⟩
  subst e3 e2 e1
  cases List.singleton_inj.1 (show [v1]= [_] from h1)
  cases List.singleton_inj.1 (show [v2]= [_] from h2)
  exact (Jh w).mono fun e w' ⟨he,hb⟩=>⟨_,he,by subst hb;exact Below.refl _ _,fun _ _=>⟨_,rfl,_,_,rfl,rfl,_,_,rfl,rfl,rfl⟩⟩
 ·cases h
def SB:List (Nat×CF):= [(232,aq Fv)]
theorem P_:∀p∈SB,ab p.1 p.2:=ae yQ fun p hp=>by cases hp
theorem SS:ap bE (ah SB):=az aF (aR P_)
def Tl (i:Nat):List UInt8:=List.replicate (2^i) 102++List.replicate (32-2^i) 0
theorem Ih:vc bE (ah SB) Tryz.f177.ntmps (ag Tryz.f177) ⟨al 0 [.one (.ro .u8 [102]),.one (.ob .int 32)],[],2000⟩ (aD bE Tryz.f177.ntmps [.tmp 4] [.one (.rw 0)] [(0,.row 5 .u8 (List.replicate 32 102))]):=by
 refine ⟨fun h=>(by cases h),fun _=> ?_⟩
 refine sd (hp:=Int.natCast_nonneg _)<|sd (hp:=(by decide))<|sd (hp:=⟨rfl,rfl⟩)<|fun _=> ?_
 refine ⟨fun h=>absurd (of_decide_eq_true h) (by decide),fun h=>⟨h,fun h2=>absurd (of_decide_eq_true h2) (by decide),fun _=> ?_⟩⟩
 refine ⟨by decide,⟨by decide,rfl,by decide⟩,?_⟩
 refine Or.inr ⟨Fin 6,fun i=>⟨[(8,.one (.ob .int ((2^i.val:Nat):Int)))],[(2352,.row 5 .u8 (Tl i.val))]⟩,fun i=>5-i.val,0,?_⟩
 refine ⟨by rfl,by rfl,fun i=> ?_⟩
 have hc:i=0∨i=1∨i=2∨i=3∨i=4∨i=5:=by revert i;decide
 rcases hc with rfl|rfl|rfl|rfl|rfl|rfl
 ·exact fun _=>⟨fun _=>⟨⟨by decide,by decide⟩,⟨⟨by decide,by decide⟩,trivial⟩,⟨by decide,by decide⟩,1,by decide,by rfl,by rfl,trivial⟩,fun h=>absurd (by decide) (of_decide_eq_false h)⟩
 ·exact fun _=>⟨fun _=>⟨⟨by decide,by decide⟩,⟨⟨by decide,by decide⟩,trivial⟩,⟨by decide,by decide⟩,2,by decide,by rfl,by rfl,trivial⟩,fun h=>absurd (by decide) (of_decide_eq_false h)⟩
 ·exact fun _=>⟨fun _=>⟨⟨by decide,by decide⟩,⟨⟨by decide,by decide⟩,trivial⟩,⟨by decide,by decide⟩,3,by decide,by rfl,by rfl,trivial⟩,fun h=>absurd (by decide) (of_decide_eq_false h)⟩
 ·exact fun _=>⟨fun _=>⟨⟨by decide,by decide⟩,⟨⟨by decide,by decide⟩,trivial⟩,⟨by decide,by decide⟩,4,by decide,by rfl,by rfl,trivial⟩,fun h=>absurd (by decide) (of_decide_eq_false h)⟩
 ·exact fun _=>⟨fun _=>⟨⟨by decide,by decide⟩,⟨⟨by decide,by decide⟩,trivial⟩,⟨by decide,by decide⟩,5,by decide,by rfl,by rfl,trivial⟩,fun h=>absurd (by decide) (of_decide_eq_false h)⟩
 ·exact fun _=>⟨fun h=>absurd (of_decide_eq_true h) (by decide),fun _=>⟨by rfl,trivial⟩⟩
def rc:GF:=fun l=>match l with
 | [.one (.ro .u8 q),.one (.ob .int n)]=>some ⟨[.one (.rw 0)],[(0,.row 5 .u8 (List.replicate 32 102))],some (q= [102]∧n=(32:Int))⟩
 |_=>none
theorem sx:ab 177 (aq rc):=af aF SS Tryz.func177 (by kernel_rfl) rfl (rs:= [.tmp 4]) Tryz.results177 fun l g h hp=>by
 unfold rc at h
 split at h
 ·rename_i q n
  cases h
  obtain ⟨rfl,h2⟩:=hp
  subst h2
  exact ⟨Nat.le_of_ble_eq_true rfl,rfl,rfl,rfl,Ih⟩
 ·cases h
def PK:List (Nat×CF):=(98,aq Fi)::(177,aq rc)::(116,aq Fz)::Se
theorem Mg:∀p∈PK,ab p.1 p.2:=ae xc<|ae sx<|ae zf Mf
theorem Nl:ap bE (ah PK):=az aF (aR Mg)
theorem EQ (P:EP):gl (eB P)=pw P.x P.y∧c9 (eB P)=0:=by
 obtain ⟨h1,h2⟩:=qw P
 exact ⟨by rw [gl,if_pos h2,h1],h2⟩
theorem Lw:vc bE (ah PK) Tryz.f103.ntmps (ag Tryz.f103) ⟨al 0 [],[],2000⟩ (aD bE Tryz.f103.ntmps [.cell 0 124] [(pw base.x base.y).av] []):=by
 have e:gl ((List.replicate 32 102).set 0 88)=pw base.x base.y:=by
  rw [←(EQ base).1,EB]
  rfl
 refine ⟨⟨rfl,rfl⟩,by show (0:Nat)<32;decide,by show (0:Nat)<32;decide,⟨rfl,congrArg (fun q:Q4=> [q.x]) e.symm⟩,⟨rfl,congrArg (fun q:Q4=> [q.y]) e.symm⟩,⟨rfl,congrArg (fun q:Q4=> [q.z]) e.symm⟩,⟨rfl,congrArg (fun q:Q4=> [q.t]) e.symm⟩,trivial⟩
def xI:GF:=fun l=>match l with
 | []=>some ⟨[(pw base.x base.y).av],[],none⟩
 |_=>none
theorem tm:ab 103 (aq xI):=af aF Nl Tryz.func103 (by kernel_rfl) rfl (rs:= [.cell 0 124]) Tryz.results103 fun l g h hp=>by
 unfold xI at h
 split at h
 ·cases h;exact ⟨Nat.le_of_ble_eq_true rfl,rfl,rfl,rfl,Lw⟩
 ·cases h
theorem Im (q:Q4):vc bE (ah PK) Tryz.f175.ntmps (ag Tryz.f175) ⟨al 0 [q.av,.one (.ob .int 8)],[],2000⟩ (aD bE Tryz.f175.ntmps [.cell 4 124] [(cj fa (aA q) 8 253).av] []):=by
 have e:bK (aV 8 (UInt64.ofNat (8:Int).toNat).toNat)=8:=by decide +kernel
 have e2:cj fa (aA q) 8 253=cj fa (aA ⟨q.x,q.y,q.z,q.t⟩) (bK (aV 8 (UInt64.ofNat (8:Int).toNat).toNat)) 253:=by rw [e]
 refine ⟨fun h=>absurd (of_decide_eq_true h) (by decide),fun h=>⟨h,fun h2=>absurd (of_decide_eq_true h2) (by decide),fun _=>⟨by decide,⟨rfl,congrArg (fun q:Q4=> [q.x]) e2⟩,⟨rfl,congrArg (fun q:Q4=> [q.y]) e2⟩,⟨rfl,congrArg (fun q:Q4=> [q.z]) e2⟩,⟨rfl,congrArg (fun q:Q4=> [q.t]) e2⟩,trivial⟩⟩⟩
def rr:GF:=fun l=>match l with
 | [.agg [.ob (.x 4) x,.ob (.x 4) y,.ob (.x 4) z,.ob (.x 4) t],.one (.ob .int k)]=>some ⟨[(cj fa (aA ⟨x,y,z,t⟩) 8 253).av],[],some (k=(8:Int))⟩
 |_=>none
theorem sR:ab 175 (aq rr):=af aF Nl Tryz.func175 (by kernel_rfl) rfl (rs:= [.cell 4 124]) Tryz.results175 fun l g h hp=>by
 unfold rr at h
 split at h
 ·cases h
  cases (show _=(8:Int) from hp)
  exact ⟨Nat.le_of_ble_eq_true rfl,rfl,rfl,rfl,Im ⟨_,_,_,_⟩⟩
 ·cases h
theorem Pb (q:List (List UInt8)) (hq:q.flatten.length≤8388608):vc bE (ah PK) Tryz.f101.ntmps (ag Tryz.f101) ⟨al 0 [.one (.bb q)],[],2000⟩ (aD bE Tryz.f101.ntmps [.cell 2 129] [.agg [.ob (.x 2) (bK (aM q.flatten))]] []):=⟨hq,⟨rfl,rfl⟩,trivial⟩
def Fs:GF:=fun l=>match l with
 | [.one (.bb q)]=>some ⟨[.agg [.ob (.x 2) (bK (aM q.flatten))]],[],some (q.flatten.length≤8388608)⟩
 |_=>none
theorem yu:ab 101 (aq Fs):=af aF Nl Tryz.func101 (by kernel_rfl) rfl (rs:= [.cell 2 129]) Tryz.results101 fun l g h hp=>by
 unfold Fs at h
 split at h
 ·cases h;exact ⟨Nat.le_of_ble_eq_true rfl,rfl,rfl,rfl,Pb _ hp⟩
 ·cases h
def P8:List (Nat×CF):=(101,aq Fs)::(103,aq xI)::(175,aq rr)::PK
theorem Eg:∀p∈P8,ab p.1 p.2:=ae yu<|ae tm<|ae sR Mg
theorem SO:ap bE (ah P8):=az aF (aR Eg)
def kO (q:Q4):Bool:=eR (aA (cj fa (aA q) 8 253)) (aA Cr)
theorem Ij (q:Q4):vc bE (ah P8) Tryz.f99.ntmps (ag Tryz.f99) ⟨al 0 [q.av],[],2000⟩ (aD bE Tryz.f99.ntmps [.tmp 2] [.one (.ob .bool (kO q))] []):=⟨rfl,rfl,trivial⟩
def rm:GF:=fun l=>match l with
 | [.agg [.ob (.x 4) x,.ob (.x 4) y,.ob (.x 4) z,.ob (.x 4) t]]=>some ⟨[.one (.ob .bool (kO ⟨x,y,z,t⟩))],[],none⟩
 |_=>none
theorem sH:ab 99 (aq rm):=af aF SO Tryz.func99 (by kernel_rfl) rfl (rs:= [.tmp 2]) Tryz.results99 fun l g h hp=>by
 unfold rm at h
 split at h
 ·cases h;exact ⟨Nat.le_of_ble_eq_true rfl,rfl,rfl,rfl,Ij ⟨_,_,_,_⟩⟩
 ·cases h
end Go.Proofs.YtnlhpncaldcllaaGreat
namespace Go.Proofs.YtnlhpncaldcllaaGreat
open Go.RowKit
theorem Kp (x y c z:Nat) (hx:x<18446744073709551616) (hy:y<18446744073709551616) (hc:c<18446744073709551616) (hz:z<18446744073709551616):
  lg (z:Int) (lg (Gl x y) c 0) 0=((x*y+c+z)%18446744073709551616:Nat)∧
  IntKind.u64.wrap (IntKind.u64.wrap (Ox x y+n7 (Gl x y) c 0)+n7 (z:Int) (lg (Gl x y) c 0) 0)=((x*y+c+z)/18446744073709551616:Nat):=by
 have h5:x*y≤18446744073709551615*18446744073709551615:=Nat.mul_le_mul (by omega) (by omega)
 unfold lg n7 Gl Ox
 rw [c8,c8]
 rw [show (x:Int)*(y:Int)=((x*y:Nat):Int) from by simp]
 generalize x*y=p at*
 constructor
 ·omega
 ·omega
def GV (a b i j:Nat) (q:Nat):Value:=if q<i+j then wV (ir a b i+ow a b i j) q else wV (ir a b i) q
theorem OL (a b i j:Nat):GV a b i j (i+j)= .int .u64 (lw (ir a b i) (i+j):Nat):=by unfold GV;rw [if_neg (by omega)];rfl
theorem KT (a b i j:Nat):(row 8 (GV a b i j)).set (i+j) (.int .u64 (lw (ir a b i+ow a b i (j+1)) (i+j):Nat))=row 8 (GV a b i (j+1)):=
 dA _ _ (by unfold GV;rw [if_pos (by omega)];rfl) (fun q _ h=>by
  unfold GV
  by_cases h1:q<i+j
  ·rw [if_pos h1,if_pos (by omega)];unfold wV;rw [OP a b i j q h1]
  ·rw [if_neg h1,if_neg (by omega)])
theorem GW (a b i:Nat):row 8 (GV a b i 0)=row 8 (wV (ir a b i)):=iw fun q _=>by
 unfold GV
 rw [show ow a b i 0=0 from by unfold ow;rw [Nat.mul_zero,Nat.pow_zero,Nat.mod_one,Nat.mul_zero],Nat.add_zero]
 split<;>rfl
theorem KU (a b i:Nat) (hb:b<2^256):(row 8 (GV a b i 4)).set (i+4) (.int .u64 (s_ a b i 4:Nat))=row 8 (wV (ir a b (i+1))):=
 dA _ _ (by unfold wV;rw [OQ a b i hb]) (fun q _ h=>by
  unfold GV
  by_cases h1:q<i+4
  ·rw [if_pos h1,vr a b i hb]
  ·rw [if_neg h1];unfold wV
   rw [AT (zc a b i hb) (by omega),AT (zc a b (i+1) hb) (by omega)])
set_option maxHeartbeats 2000000 in
theorem C_ (a b:Nat) (ha:a<2^256) (hb:b<2^256) (w:World):
  Calls Tryz.prog 123 #[.agg #[.int .u64 (lw a 0:Nat),.int .u64 (lw a 1:Nat),.int .u64 (lw a 2:Nat),.int .u64 (lw a 3:Nat)],.agg #[.int .u64 (lw b 0:Nat),.int .u64 (lw b 1:Nat),.int .u64 (lw b 2:Nat),.int .u64 (lw b 3:Nat)]] w fun e w'=>e= .returned (.agg #[.int .u64 (lw (a*b%Lq) 0:Nat),.int .u64 (lw (a*b%Lq) 1:Nat),.int .u64 (lw (a*b%Lq) 2:Nat),.int .u64 (lw (a*b%Lq) 3:Nat)])∧Below w.heap.size w w':=by
 have HB:=Lib.hid hb;have HA:=Lib.hid ha
 clear ha hb
 go_enter Tryz.func123,Tryz.ntmps123
 go_wp2
 refine dO (fun W=>ao W (w.heap.size+1) (row 4 (wV b)) 129∧ao W (w.heap.size+1+1+1) (row 8 (wV (ir a b 0))) 178∧ao W (w.heap.size+1+1) (row 4 (wV 0)) 129∧Below w.heap.size w W) ?_ (fun W hW=> ?_)
 ·refine ⟨((ao.new' (by simp)).alloc _).alloc _,?_,?_,(by repeat (first|(with_reducible refine Below.alloc' ?_ _)|(with_reducible refine Below.drew ?_)|(with_reducible refine below_drewN ?_ _)|((with_reducible refine Below.setCell ?_ ?_ _);rotate_left;(focus (first|exact Nat.le_refl _|(simp;done)|(simp;omega))))|(with_reducible assumption)|(with_reducible exact Below.refl _ _)))⟩
  ·rw [show ir a b 0=0 from by unfold ir;rw [Nat.mul_zero,Nat.pow_zero,Nat.mod_one,Nat.zero_mul],pC]
   exact ao.new' (by simp)
  ·simp only [CW,RZ]
   exact (ao.new' (by simp)).alloc _
 obtain ⟨hb1,hw1,ho1,hbl1⟩:=hW
 go_loopw [16] (fun i wr=>∃k:Nat,k≤4∧i= .int .i64 k∧ao wr (w.heap.size+1) (row 4 (wV b)) 129∧ao wr (w.heap.size+1+1+1) (row 8 (wV (ir a b k))) 178∧ao wr (w.heap.size+1+1) (row 4 (wV 0)) 129∧Below w.heap.size w wr) (fun i _=>4-(intOf i).toNat)
 case atStart=>exact ⟨0,by omega,rfl,hb1,hw1,ho1,hbl1⟩
 case round=>
  clear hb1 hw1 ho1 hbl1 W
  obtain ⟨i,hi,rfl,hbB,hwB,hoB,hbl⟩:=hrel
  obtain ⟨wo,hwo⟩:∃wo:World,wo=wr:=⟨_,rfl⟩
  by_cases hlt:i<4
  ·have hx:=Sl a i hlt
   have hdd:decide ((i:Int)<4)=true:=by simp;omega
   have hbc:=hbB.cell
   rw [CW] at hbc
   unfold wV at hbc
   go_wp2
   clear hx hbc
   go_loopw [8,22] (fun c j wr=>∃k:Nat,k≤4∧j= .int .i64 k∧c= .int .u64 (s_ a b i k:Nat)∧ao wr (w.heap.size+1) (row 4 (wV b)) 129∧ao wr (w.heap.size+1+1+1) (row 8 (GV a b i k)) 178∧ao wr (w.heap.size+1+1) (row 4 (wV 0)) 129∧Below w.heap.size w wr) (fun _ j _=>4-(intOf j).toNat)
   case atStart=>exact ⟨0,by omega,rfl,by rw [GU];rfl,hbB,by rw [GW];exact hwB,hoB,hbl⟩
   case round=>
    subst hwo
    clear hbB hwB hoB hbl
    obtain ⟨j,hj,rfl,rfl,hbB,hwB,hoB,hbl⟩:=hrel
    by_cases hlt':j<4
    ·have hy:=Sl b j hlt'
     have hij:i+j<8:=by omega
     have cw:=hwB.at hij
     rw [OL] at cw
     have cf:=hwB.frozen (i+j)
     have hzl:=b6 (ir a b i) (i+j)
     have hm:=Kp (lw a i) (lw b j) (s_ a b i j) (lw (ir a b i) (i+j)) (b6 _ _) (b6 _ _) (sk _ _ _ _) hzl
     rw [←(sm a b i j).1,←(sm a b i j).2] at hm
     have h1:=fun w=>tc (yL (lw a i:Nat) (lw b j:Nat)) (y:=(s_ a b i j:Nat)) ⟨by omega,by have:=sk a b i j;omega⟩ Cy.zero w
     have h2:=fun w=>tc (x:=(lw (ir a b i) (i+j):Nat)) ⟨by omega,by omega⟩ (I4 (Gl (lw a i:Nat) (lw b j:Nat)) (s_ a b i j:Nat) 0) Cy.zero w
     rw [hm.1] at h2
     have HM:=Lib.hid hm.2
     have HBb:=Lib.hid hbB;have HWb:=Lib.hid hwB;have HOb:=Lib.hid hoB
     clear hm hzl hbB hwB hoB
     have HW2:=Lib.hid (HWb.out.set (i+j) (.int .u64 (lw (ir a b i+ow a b i (j+1)) (i+j):Nat)))
     have HB2:=Lib.hid (HBb.out.other ⟨w.heap.size+1+1+1,i+j,none⟩ (by simp;omega) (.int .u64 (lw (ir a b i+ow a b i (j+1)) (i+j):Nat)))
     have HO2:=Lib.hid (HOb.out.other ⟨w.heap.size+1+1+1,i+j,none⟩ (by simp) (.int .u64 (lw (ir a b i+ow a b i (j+1)) (i+j):Nat)))
     clear HWb HBb HOb
     go_wp2_with (go_at_call 198;go_must (refine (AY (Wd.lw a i) (Wd.lw b j) _).mono ?_;rintro e w1 ⟨rfl,rfl⟩))
     go_roundw
     case rel=>exact ⟨j+1,by omega,by go_num,by rw [HM.out],HB2.out,by have:=HW2.out;rw [KT] at this;exact this,HO2.out,(by repeat (first|(with_reducible refine Below.alloc' ?_ _)|(with_reducible refine Below.drew ?_)|(with_reducible refine below_drewN ?_ _)|((with_reducible refine Below.setCell ?_ ?_ _);rotate_left;(focus (first|exact Nat.le_refl _|(simp;done)|(simp;omega))))|(with_reducible assumption)|(with_reducible exact Below.refl _ _)))⟩
     case measure=>simp [intOf];omega
    ·obtain rfl:j=4:=by omega
     have hi4:i+4<8:=by omega
     have cw:∃v,wr.cell? ⟨w.heap.size+1+1+1,i+4,none⟩=some v:=⟨_,hwB.at hi4⟩
     obtain ⟨v,cw⟩:=cw
     have cf:=hwB.frozen (i+4)
     have HWb:=Lib.hid (hwB.set (i+4) (.int .u64 (s_ a b i 4:Nat)))
     have HBb:=Lib.hid (hbB.other ⟨w.heap.size+1+1+1,i+4,none⟩ (by simp;omega) (.int .u64 (s_ a b i 4:Nat)))
     have HOb:=Lib.hid (hoB.other ⟨w.heap.size+1+1+1,i+4,none⟩ (by simp) (.int .u64 (s_ a b i 4:Nat)))
     clear hbB hwB hoB
     go_wp2
     go_roundw
     case rel=>exact ⟨i+1,by omega,by go_num,HBb.out,by have:=HWb.out;rw [KU a b i HB.out] at this;exact this,HOb.out,(by repeat (first|(with_reducible refine Below.alloc' ?_ _)|(with_reducible refine Below.drew ?_)|(with_reducible refine below_drewN ?_ _)|((with_reducible refine Below.setCell ?_ ?_ _);rotate_left;(focus (first|exact Nat.le_refl _|(simp;done)|(simp;omega))))|(with_reducible assumption)|(with_reducible exact Below.refl _ _)))⟩
     case measure=>simp [intOf];omega
  ·obtain rfl:i=4:=by omega
   clear hwo
   rw [show ir a b 4=a*b from by unfold ir;rw [Nat.mod_eq_of_lt (show a<2^(64*4) from HA.out)]] at hwB
   have HN:=Lib.hid (yI HA.out HB.out)
   rw [CW] at hoB
   simp only [RZ] at hoB
   clear hbB hlt hi
   have g0:wr.cell? ⟨w.heap.size+1+1+1,0,none⟩=some (.int .u64 (lw (a*b) 0:Nat)):=hwB.at (by omega);have g1:wr.cell? ⟨w.heap.size+1+1+1,1,none⟩=some (.int .u64 (lw (a*b) 1:Nat)):=hwB.at (by omega);have g2:wr.cell? ⟨w.heap.size+1+1+1,2,none⟩=some (.int .u64 (lw (a*b) 2:Nat)):=hwB.at (by omega);have g3:wr.cell? ⟨w.heap.size+1+1+1,3,none⟩=some (.int .u64 (lw (a*b) 3:Nat)):=hwB.at (by omega);have g4:wr.cell? ⟨w.heap.size+1+1+1,4,none⟩=some (.int .u64 (lw (a*b) 4:Nat)):=hwB.at (by omega);have g5:wr.cell? ⟨w.heap.size+1+1+1,5,none⟩=some (.int .u64 (lw (a*b) 5:Nat)):=hwB.at (by omega);have g6:wr.cell? ⟨w.heap.size+1+1+1,6,none⟩=some (.int .u64 (lw (a*b) 6:Nat)):=hwB.at (by omega);have g7:wr.cell? ⟨w.heap.size+1+1+1,7,none⟩=some (.int .u64 (lw (a*b) 7:Nat)):=hwB.at (by omega)
   go_wp2_with (go_at_call 192;go_must (refine (k9 (a*b) (256+256) (by omega) (by omega) HN.out _).mono ?_;rintro e w2 ⟨rfl,hb⟩;have hO2:=hoB.below' hb;have oc:=hO2.cell;have of:=hO2.frozen;have hbel2:=Below.call hbl hb;clear hb hO2))
   exact bodyPost_ret (v:= .agg #[.int .u64 (lw (a*b%Lq) 0:Nat),.int .u64 (lw (a*b%Lq) 1:Nat),.int .u64 (lw (a*b%Lq) 2:Nat),.int .u64 (lw (a*b%Lq) 3:Nat)]) (by simp [results,Tryz.results123,go_sem,oc]) rfl ⟨rfl,(by repeat (first|(with_reducible refine Below.alloc' ?_ _)|(with_reducible refine Below.drew ?_)|(with_reducible refine below_drewN ?_ _)|((with_reducible refine Below.setCell ?_ ?_ _);rotate_left;(focus (first|exact Nat.le_refl _|(simp;done)|(simp;omega))))|(with_reducible assumption)|(with_reducible exact Below.refl _ _)))⟩
end Go.Proofs.YtnlhpncaldcllaaGreat
namespace Go.Proofs.YtnlhpncaldcllaaGreat
open Go Go.RowKit
set_option maxRecDepth 10000
def M6:List (Nat×CF):=(194,aq Fo)::PJ
theorem M7:∀p∈M6,ab p.1 p.2:=ae xh Ef
theorem Qq:ap am (ah M6):=az aj (aR M7)
def qD (q:Q4):List UInt8:=tX (bH (aA q).x (bk (aA q).z)) (bH (aA q).y (bk (aA q).z))
theorem Pi (q:Q4):vc am (ah M6) Tryz.f119.ntmps (ag Tryz.f119) ⟨al 0 [q.av],[],2000⟩ (aD am Tryz.f119.ntmps [.tmp 2] [.one (.rw 0)] [(0,.row 5 .u8 (qD q))]):=by
 have hl:(aV 32 (bH (aA q).y (bk (aA q).z)).val).length=32:=ar _ _
 refine ⟨fun h=> ?_,fun h=> ?_⟩
 ·have h:(bH (aA q).x (bk (aA q).z)).val%2=1:=of_decide_eq_true h
  have hE:qD q=(aV 32 (bH (aA q).y (bk (aA q).z)).val).set 31 ((aV 32 (bH (aA q).y (bk (aA q).z)).val).getD 31 0|||128):=by rw [qD,tX,if_pos h]
  rw [hE]
  have h31:31<(aV 32 (bH (aA q).y (bk (aA q).z)).val).length:=by omega
  exact ⟨h31,h31,h31,h31,rfl,trivial⟩
 ·have h:¬(bH (aA q).x (bk (aA q).z)).val%2=1:=of_decide_eq_false h
  have hE:qD q=aV 32 (bH (aA q).y (bk (aA q).z)).val:=by rw [qD,tX,if_neg h]
  rw [hE]
  exact ⟨rfl,trivial⟩
def Fy:GF:=fun l=>match l with
 | [.agg [.ob (.x 4) x,.ob (.x 4) y,.ob (.x 4) z,.ob (.x 4) t]]=>some ⟨[.one (.rw 0)],[(0,.row 5 .u8 (qD ⟨x,y,z,t⟩))],none⟩
 |_=>none
theorem za:ab 119 (aq Fy):=af aj Qq Tryz.func119 (by kernel_rfl) rfl (rs:= [.tmp 2]) Tryz.results119 fun l g h hp=>by
 unfold Fy at h
 split at h
 ·cases h;exact ⟨Nat.le_of_ble_eq_true rfl,rfl,rfl,rfl,Pi ⟨_,_,_,_⟩⟩
 ·cases h
theorem JR {q:Q4} {P:EP} (h:wI q P):qD q=eB P:=by
 rw [qD,dW h]
 exact JP (q:=⟨q.x,q.y,q.z⟩) h.p
def qC (n:Nat):List UInt8:=qD (cj fa (aA (pw base.x base.y)) n 253)
theorem As {n:Nat} (h:n<Lq):qC n=eB (Cp.mul n base):=JR (jI (kJ base) n h)
theorem tY (n:Nat):(qC n).length=32:=EX _ _
def xX:GF:=fun l=>match l with
 | [.agg [.ob (.x 2) a],.agg [.ob (.x 2) b]]=>some ⟨[.agg [.ob (.x 2) (zr a b)]],[],none⟩
 |_=>none
theorem Ct {a b:Nat} (ha:a<Lq) (hb:b<Lq):once (a+b)=zr a b:=uW (by omega)
theorem vt:ab 122 (aq xX):=aN Tryz.func122 (by kernel_rfl) rfl fun l g h hp=>by
 unfold xX at h
 split at h
 ·rename_i a b
  cases h
  refine ⟨rfl,rfl,fun η w vs ⟨v1,t,e1,h1,v2,t2,e2,h2,e3⟩=> ?_⟩
  subst e3 e2 e1
  obtain ⟨rfl,ha⟩:=pE h1
  obtain ⟨rfl,hb⟩:=pE h2
  have h:=I0 a b (by unfold Lq at ha hb;omega) w
  rw [Ct ha hb] at h
  exact h.mono fun e w' ⟨he,hb⟩=>⟨_,he,hb,fun _ _=>zu (n:=zr a b) (Nat.mod_lt _ g_)⟩
 ·cases h
def xY:GF:=fun l=>match l with
 | [.agg [.ob (.x 2) a],.agg [.ob (.x 2) b]]=>some ⟨[.agg [.ob (.x 2) (C5 a b)]],[],none⟩
 |_=>none
theorem vu:ab 123 (aq xY):=aN Tryz.func123 (by kernel_rfl) rfl fun l g h hp=>by
 unfold xY at h
 split at h
 ·rename_i a b
  cases h
  refine ⟨rfl,rfl,fun η w vs ⟨v1,t,e1,h1,v2,t2,e2,h2,e3⟩=> ?_⟩
  subst e3 e2 e1
  obtain ⟨rfl,ha⟩:=pE h1
  obtain ⟨rfl,hb⟩:=pE h2
  exact (C_ a b (by unfold Lq at ha;omega) (by unfold Lq at hb;omega) w).mono fun e w' ⟨he,hb⟩=>⟨_,he,hb,fun _ _=>zu (n:=C5 a b) (Nat.mod_lt _ g_)⟩
 ·cases h
def D7:List (Nat×CF):=(119,aq Fy)::(122,aq xX)::(123,aq xY)::(118,aq lA)::P8
theorem M8:∀p∈D7,ab p.1 p.2:=ae za<|ae vt<|ae vu<|ae j8 Eg
theorem Ep:ap am (ah D7):=az aj (aR M8)
theorem tL {b:List UInt8} (h:32≤b.length):aB (b.take 32)=aB b:=by
 have e:bO (b.take 32) 32=bO b 32:=by
  rw [bO,bO,List.take_take,Nat.min_self,List.length_take,Nat.min_eq_left h,show 32-32=32-b.length by omega]
 rw [aB,aB,e]
theorem vA (seed:List UInt8):bK (aB (aM seed))=qA seed:=by
 rw [qA,tL (by rw [cP];omega)]
theorem OR (seed:List UInt8):qC (qA seed)=dV seed:=As (MR seed)
theorem Ie (seed:List UInt8) (hs:seed.length=32):vc am (ah D7) Tryz.f56.ntmps (ag Tryz.f56) ⟨al 0 [.one (.ro .u8 seed)],[],2000⟩ (aD am Tryz.f56.ntmps [.tmp 2,.tmp 3] [.one (.ptr 0 0),.one (.ob .int 0)] [(0,.blk 157 [.ob (.x 2) (qA seed),.sub 1 32 32,.rw 2]),(1,.row 5 .u8 (aM seed)),(2,.row 5 .u8 (dV seed))]):=by
 have hl:=cP seed
 have e1: [seed].flatten=seed:=by simp
 refine fun _=>⟨fun h1=> ?_,fun h1=> ?_⟩
 ·have h1:=of_decide_eq_true h1;omega
 refine ⟨by rw [e1];omega,?_⟩
 rw [e1]
 refine ⟨⟨by decide,by show (32:Int)≤((aM seed).length:Nat);omega⟩,rfl,⟨rfl,?_⟩,rfl,by show 32=(aM seed).length-32;omega,rfl,?_,trivial⟩
 ·exact congrArg (fun z=> [z]) (vA seed).symm
 ·show dV seed=qC (bK (aB (aM seed)))
  rw [vA,OR]
def q_:GF:=fun l=>match l with
 | [.one (.ro .u8 seed)]=>some ⟨[.one (.ptr 0 0),.one (.ob .int 0)],[(0,.blk 157 [.ob (.x 2) (qA seed),.sub 1 32 32,.rw 2]),(1,.row 5 .u8 (aM seed)),(2,.row 5 .u8 (dV seed))],some (seed.length=32)⟩
 |_=>none
theorem rS:ab 56 (aq q_):=af aj Ep Tryz.func56 (by kernel_rfl) rfl (rs:= [.tmp 2,.tmp 3]) Tryz.results56 fun l g h hp=>by
 unfold q_ at h
 split at h
 ·cases h;exact ⟨Nat.le_of_ble_eq_true rfl,rfl,rfl,rfl,Ie _ hp⟩
 ·cases h
abbrev Ss (a:Nat) (S P:List UInt8):List Ch:= [.blk 157 [.ob (.x 2) a,.sub 1001 32 32,.rw 1002],.row 5 .u8 S,.row 5 .u8 P]
theorem Ii (a:Nat) (S P:List UInt8) (hP:P.length≤16777216):vc am (ah D7) Tryz.f64.ntmps (ag Tryz.f64) ⟨al 0 [.one (.ptr 1000 0)],aK 1000 (Ss a S P),2000⟩ (br am Tryz.f64.ntmps [.tmp 2] [.one (.rw 0)] [(0,.row 5 .u8 P)] (Ss a S P) []):=by
 exact ⟨hP,rfl,trivial⟩
def rl:fb:=fun l cs=>match l,cs with
 | [.one (.ptr 1000 0)],[.blk 157 [.ob (.x 2) a,.sub 1001 32 32,.rw 1002],.row 5 .u8 S,.row 5 .u8 P]=>some ⟨[.one (.rw 0)],[(0,.row 5 .u8 P)],[],some (P.length≤16777216)⟩
 |_,_=>none
theorem sG:ab 64 (gB rl):=aQ aj Ep Tryz.func64 (by kernel_rfl) rfl (rs:= [.tmp 2]) Tryz.results64 fun l cs g h hp=>by
 unfold rl at h
 split at h
 ·cases h;exact ⟨Nat.le_of_ble_eq_true rfl,rfl,rfl,rfl,Ii _ _ _ hp⟩
 ·cases h
def PR (S T:List UInt8):Nat:=bK (aM [(S.drop 32).take 32,T].flatten)
def IF (a:Nat) (S P T:List UInt8):List UInt8:= [qC (PR S T),aV 32 (zr (PR S T) (C5 (bK (aM [qC (PR S T),P,T].flatten)) a))].flatten
theorem DA (a:Nat) (S P:List UInt8) (q:List (List UInt8)) (hP:P.length=32) (hS:S.length=64) (hq:q.flatten.length≤8000000):vc am (ah D7) Tryz.f60.ntmps (ag Tryz.f60) ⟨al 0 [.one (.ptr 1000 0),.one (.bb q)],aK 1000 (Ss a S P),2000⟩ (br am Tryz.f60.ntmps [.tmp 4] [.one (.rw 0)] [(0,.row 5 .u8 (IF a S P q.flatten))] (Ss a S P) []):=by
 refine fun _=>⟨fun h1=> ?_,fun h1=> ?_⟩
 ·have h1:=of_decide_eq_true h1;omega
 have h2: [(S.drop 32).take 32,q.flatten].flatten.length≤8388608:=by
  rw [qi,List.length_append,List.length_take,List.length_drop];omega
 have h3:∀n,[qC n,P,q.flatten].flatten.length≤8388608:=fun n=>by
  rw [Js,List.length_append,List.length_append,tY];omega
 have h4:∀n m,[qC n,aV 32 m].flatten.length≤16777216:=fun n m=>by
  rw [qi,List.length_append,ar,tY];omega
 exact ⟨by omega,h2,h3 _,h4 _ _,rfl,trivial⟩
def mK:fb:=fun l cs=>match l,cs with
 | [.one (.ptr 1000 0),.one (.bb q)],[.blk 157 [.ob (.x 2) a,.sub 1001 32 32,.rw 1002],.row 5 .u8 S,.row 5 .u8 P]=>some ⟨[.one (.rw 0)],[(0,.row 5 .u8 (IF a S P q.flatten))],[],some (P.length=32∧S.length=64∧q.flatten.length≤8000000)⟩
 |_,_=>none
theorem oC:ab 60 (wX [false,true] mK):=iW aj Ep Tryz.func60 (by kernel_rfl) rfl (rs:= [.tmp 4]) Tryz.results60 fun l cs g h hp=>by
 unfold mK at h
 split at h
 ·cases h;exact ⟨Nat.le_of_ble_eq_true rfl,rfl,rfl,rfl,DA _ _ _ _ hp.1 hp.2.1 hp.2.2⟩
 ·cases h
theorem kM (seed T:List UInt8):IF (qA seed) (aM seed) (dV seed) T=eQ seed T:=by
 have hT:((aM seed).drop 32).take 32=qP seed:=List.take_of_length_le (by rw [List.length_drop,cP];decide)
 have e1:qC (PR (aM seed) T)=qR (qP seed) T:=by
  rw [PR,As (jZ _),qi,hT];rfl
 rw [IF,e1,qi,Js,PR,qi,hT]
 rfl
set_option maxRecDepth 10000
def pQ:List (Nat×CF):=(195,aq mF)::IP
theorem D8:∀p∈pQ,ab p.1 p.2:=ae ol D4
theorem Qr:ap am (ah pQ):=az aj (aR D8)
def jc (n:Int):List UInt8:= [[UInt8.ofNat 112,UInt8.ofNat 97,UInt8.ofNat 114,UInt8.ofNat 116],((fF (UInt32.ofNat n.toNat).toUInt64).drop 4).take 4].flatten
theorem y9 (n:Int):(jc n).length=8:=by rw [jc,wP];simp [qa]
def aT (seed:List UInt8) (n:Int):List UInt8:=F3 [] seed (jc n) 64
theorem fo (seed:List UInt8) (n:Int):(aT seed n).length=64:=by rw [aT,F3,List.length_take,jC];decide
theorem fp {seed:List UInt8} {n:Int} (hs:seed.length≤65536):(jc n).length≤16777216∧([]:List UInt8).length≤64∧seed.length≤8000000∧(jc n).length≤1000000∧DH 1 64 8160:=by
 have:=y9 n
 exact ⟨by omega,by decide,by omega,by omega,by decide,by decide⟩
def N_ (G G':fb):fb:=fun l cs=>match G l cs with |some g=>some g|none=>G' l cs
def ta (ty:Nat→TE) (ct:Nat→Option CF) (N:Nat) (c:Code) (rs:List ResultVar) (G:fb):Prop:=∀l cs g,G l cs=some g→aW g.pre→l.length≤N∧g.outs.length=rs.length∧cG cs.length g.outs=true∧gG cs.length g.us=true∧vc ty ct N c ⟨al 0 l,aK 1000 cs,2000⟩ (br ty N rs g.outs g.us cs g.d)
theorem ta.or {ty:Nat→TE} {ct:Nat→Option CF} {N:Nat} {c:Code} {rs:List ResultVar} {G G':fb} (h:ta ty ct N c rs G) (h':ta ty ct N c rs G'):ta ty ct N c rs (N_ G G'):=fun l cs g e hp=>by
 unfold N_ at e
 split at e
 ·rename_i g1 e1
  cases e
  exact h l cs _ e1 hp
 ·exact h' l cs _ e hp
abbrev Sh (seed:List UInt8) (v:Int) (o k:List Bool):List Ch:= [.blk 84 [.rw 1001,.ob .int v,.cv (.pointer none),.cv (.slice none 0 0),.cv (.slice none 0 0),.rw 1002,.rw 1003],.row 5 .u8 seed,.row 4 .bool o,.row 4 .bool k]
set_option maxHeartbeats 4000000 in
theorem Hx (seed:List UInt8) (v:Int) (o k:List Bool) (n:Int) (hs:seed.length≤65536) (hn:0≤n):vc am (ah pQ) Tryz.f120.ntmps (ag Tryz.f120) ⟨al 0 [.one (.ptr 1000 0),.one (.ob .int n)],aK 1000 (Sh seed v o k),2000⟩ (br am Tryz.f120.ntmps [.tmp 4] [.one (.rw 0)] [(0,.row 5 .u8 (aT seed n))] (Sh seed v o k) []):=⟨hn,(fp hs).1,(fp hs).2,rfl,trivial⟩
abbrev Si (seed:List UInt8) (v:Int) (o k:List Bool) (a:Nat) (S P:List UInt8):List Ch:= [.blk 84 [.rw 1001,.ob .int v,.ptr 1002 0,.cv (.slice none 0 0),.cv (.slice none 0 0),.rw 1003,.rw 1004],.row 5 .u8 seed,.blk 157 [.ob (.x 2) a,.sub 1005 32 32,.rw 1006],.row 4 .bool o,.row 4 .bool k,.row 5 .u8 S,.row 5 .u8 P]
set_option maxHeartbeats 4000000 in
theorem Hy (seed:List UInt8) (v:Int) (o k:List Bool) (a:Nat) (S P:List UInt8) (n:Int) (hs:seed.length≤65536) (hn:0≤n):vc am (ah pQ) Tryz.f120.ntmps (ag Tryz.f120) ⟨al 0 [.one (.ptr 1000 0),.one (.ob .int n)],aK 1000 (Si seed v o k a S P),2000⟩ (br am Tryz.f120.ntmps [.tmp 4] [.one (.rw 0)] [(0,.row 5 .u8 (aT seed n))] (Si seed v o k a S P) []):=⟨hn,(fp hs).1,(fp hs).2,rfl,trivial⟩
abbrev fD (seed:List UInt8) (v:Int) (o k:List Bool) (a:Nat) (S P I M:List UInt8):List Ch:= [.blk 84 [.rw 1001,.ob .int v,.ptr 1002 0,.sub 1003 0 32,.sub 1004 0 32,.rw 1005,.rw 1006],.row 5 .u8 seed,.blk 157 [.ob (.x 2) a,.sub 1007 32 32,.rw 1008],.row 5 .u8 I,.row 5 .u8 M,.row 4 .bool o,.row 4 .bool k,.row 5 .u8 S,.row 5 .u8 P]
set_option maxHeartbeats 4000000 in
theorem Hz (seed:List UInt8) (v:Int) (o k:List Bool) (a:Nat) (S P I M:List UInt8) (n:Int) (hs:seed.length≤65536) (hn:0≤n):vc am (ah pQ) Tryz.f120.ntmps (ag Tryz.f120) ⟨al 0 [.one (.ptr 1000 0),.one (.ob .int n)],aK 1000 (fD seed v o k a S P I M),2000⟩ (br am Tryz.f120.ntmps [.tmp 4] [.one (.rw 0)] [(0,.row 5 .u8 (aT seed n))] (fD seed v o k a S P I M) []):=⟨hn,(fp hs).1,(fp hs).2,rfl,trivial⟩
def qN:fb:=fun l cs=>match l,cs with
 | [.one (.ptr 1000 0),.one (.ob .int n)],[.blk 84 [.rw 1001,.ob .int v,.cv (.pointer none),.cv (.slice none 0 0),.cv (.slice none 0 0),.rw 1002,.rw 1003],.row 5 .u8 seed,.row 4 .bool o,.row 4 .bool k]=>some ⟨[.one (.rw 0)],[(0,.row 5 .u8 (aT seed n))],[],some (seed.length≤65536∧0≤n)⟩
 |_,_=>none
def qO:fb:=fun l cs=>match l,cs with
 | [.one (.ptr 1000 0),.one (.ob .int n)],[.blk 84 [.rw 1001,.ob .int v,.ptr 1002 0,.cv (.slice none 0 0),.cv (.slice none 0 0),.rw 1003,.rw 1004],.row 5 .u8 seed,.blk 157 [.ob (.x 2) a,.sub 1005 32 32,.rw 1006],.row 4 .bool o,.row 4 .bool k,.row 5 .u8 S,.row 5 .u8 P]=>some ⟨[.one (.rw 0)],[(0,.row 5 .u8 (aT seed n))],[],some (seed.length≤65536∧0≤n)⟩
 |_,_=>none
def qQ:fb:=fun l cs=>match l,cs with
 | [.one (.ptr 1000 0),.one (.ob .int n)],[.blk 84 [.rw 1001,.ob .int v,.ptr 1002 0,.sub 1003 0 32,.sub 1004 0 32,.rw 1005,.rw 1006],.row 5 .u8 seed,.blk 157 [.ob (.x 2) a,.sub 1007 32 32,.rw 1008],.row 5 .u8 I,.row 5 .u8 M,.row 4 .bool o,.row 4 .bool k,.row 5 .u8 S,.row 5 .u8 P]=>some ⟨[.one (.rw 0)],[(0,.row 5 .u8 (aT seed n))],[],some (seed.length≤65536∧0≤n)⟩
 |_,_=>none
def xG:fb:=N_ qN (N_ qO qQ)
set_option maxHeartbeats 4000000 in
theorem Ji:ta am (ah pQ) Tryz.f120.ntmps (ag Tryz.f120) [.tmp 4] qN:=fun l cs g h hp=>by
 unfold qN at h
 split at h
 ·cases h
  exact ⟨Nat.le_of_ble_eq_true rfl,rfl,rfl,rfl,Hx _ _ _ _ _ hp.1 hp.2⟩
 ·cases h
set_option maxHeartbeats 4000000 in
theorem Jj:ta am (ah pQ) Tryz.f120.ntmps (ag Tryz.f120) [.tmp 4] qO:=fun l cs g h hp=>by
 unfold qO at h
 split at h
 ·cases h
  exact ⟨Nat.le_of_ble_eq_true rfl,rfl,rfl,rfl,Hy _ _ _ _ _ _ _ _ hp.1 hp.2⟩
 ·cases h
set_option maxHeartbeats 4000000 in
theorem Jk:ta am (ah pQ) Tryz.f120.ntmps (ag Tryz.f120) [.tmp 4] qQ:=fun l cs g h hp=>by
 unfold qQ at h
 split at h
 ·cases h
  exact ⟨Nat.le_of_ble_eq_true rfl,rfl,rfl,rfl,Hz _ _ _ _ _ _ _ _ _ _ hp.1 hp.2⟩
 ·cases h
theorem kR:ab 120 (gB xG):=aQ aj Qr Tryz.func120 (by kernel_rfl) rfl (rs:= [.tmp 4]) Tryz.results120 (ta.or Ji (ta.or Jj Jk))
def pR:List (Nat×CF):=(120,gB xG)::pQ
theorem D9:∀p∈pR,ab p.1 p.2:=ae kR D8
theorem Qs:ap am (ah pR):=az aj (aR D9)
set_option maxHeartbeats 4000000 in
theorem zF (seed:List UInt8) (v:Int) (o k:List Bool) (n:Int) (hs:seed.length≤65536) (hn:0≤n):vc am (ah pR) Tryz.f57.ntmps (ag Tryz.f57) ⟨al 0 [.one (.ptr 1000 0),.one (.ob .int n)],aK 1000 (Sh seed v o k),2000⟩ (br am Tryz.f57.ntmps [.tmp 4] [.one (.sub 0 0 32)] [(0,.row 5 .u8 (aT seed n))] (Sh seed v o k) []):=by
 have hl:=fo seed n
 exact ⟨⟨hs,hn⟩,⟨⟨by decide,by show (32:Int)≤((aT seed n).length:Nat);omega⟩,trivial⟩,rfl,rfl,rfl,trivial⟩
set_option maxHeartbeats 4000000 in
theorem zG (seed:List UInt8) (v:Int) (o k:List Bool) (a:Nat) (S P:List UInt8) (n:Int) (hs:seed.length≤65536) (hn:0≤n):vc am (ah pR) Tryz.f57.ntmps (ag Tryz.f57) ⟨al 0 [.one (.ptr 1000 0),.one (.ob .int n)],aK 1000 (Si seed v o k a S P),2000⟩ (br am Tryz.f57.ntmps [.tmp 4] [.one (.sub 0 0 32)] [(0,.row 5 .u8 (aT seed n))] (Si seed v o k a S P) []):=by
 have hl:=fo seed n
 exact ⟨⟨hs,hn⟩,⟨⟨by decide,by show (32:Int)≤((aT seed n).length:Nat);omega⟩,trivial⟩,rfl,rfl,rfl,trivial⟩
set_option maxHeartbeats 4000000 in
theorem zH (seed:List UInt8) (v:Int) (o k:List Bool) (a:Nat) (S P I M:List UInt8) (n:Int) (hs:seed.length≤65536) (hn:0≤n):vc am (ah pR) Tryz.f57.ntmps (ag Tryz.f57) ⟨al 0 [.one (.ptr 1000 0),.one (.ob .int n)],aK 1000 (fD seed v o k a S P I M),2000⟩ (br am Tryz.f57.ntmps [.tmp 4] [.one (.sub 0 0 32)] [(0,.row 5 .u8 (aT seed n))] (fD seed v o k a S P I M) []):=by
 have hl:=fo seed n
 exact ⟨⟨hs,hn⟩,⟨⟨by decide,by show (32:Int)≤((aT seed n).length:Nat);omega⟩,trivial⟩,rfl,rfl,rfl,trivial⟩
def kk:fb:=fun l cs=>match l,cs with
 | [.one (.ptr 1000 0),.one (.ob .int n)],[.blk 84 [.rw 1001,.ob .int v,.cv (.pointer none),.cv (.slice none 0 0),.cv (.slice none 0 0),.rw 1002,.rw 1003],.row 5 .u8 seed,.row 4 .bool o,.row 4 .bool k]=>some ⟨[.one (.sub 0 0 32)],[(0,.row 5 .u8 (aT seed n))],[],some (seed.length≤65536∧0≤n)⟩
 |_,_=>none
def kl:fb:=fun l cs=>match l,cs with
 | [.one (.ptr 1000 0),.one (.ob .int n)],[.blk 84 [.rw 1001,.ob .int v,.ptr 1002 0,.cv (.slice none 0 0),.cv (.slice none 0 0),.rw 1003,.rw 1004],.row 5 .u8 seed,.blk 157 [.ob (.x 2) a,.sub 1005 32 32,.rw 1006],.row 4 .bool o,.row 4 .bool k,.row 5 .u8 S,.row 5 .u8 P]=>some ⟨[.one (.sub 0 0 32)],[(0,.row 5 .u8 (aT seed n))],[],some (seed.length≤65536∧0≤n)⟩
 |_,_=>none
def km:fb:=fun l cs=>match l,cs with
 | [.one (.ptr 1000 0),.one (.ob .int n)],[.blk 84 [.rw 1001,.ob .int v,.ptr 1002 0,.sub 1003 0 32,.sub 1004 0 32,.rw 1005,.rw 1006],.row 5 .u8 seed,.blk 157 [.ob (.x 2) a,.sub 1007 32 32,.rw 1008],.row 5 .u8 I,.row 5 .u8 M,.row 4 .bool o,.row 4 .bool k,.row 5 .u8 S,.row 5 .u8 P]=>some ⟨[.one (.sub 0 0 32)],[(0,.row 5 .u8 (aT seed n))],[],some (seed.length≤65536∧0≤n)⟩
 |_,_=>none
def uj:fb:=N_ kk (N_ kl km)
set_option maxHeartbeats 4000000 in
theorem BM:ta am (ah pR) Tryz.f57.ntmps (ag Tryz.f57) [.tmp 4] kk:=fun l cs g h hp=>by
 unfold kk at h
 split at h
 ·cases h
  exact ⟨Nat.le_of_ble_eq_true rfl,rfl,rfl,rfl,zF _ _ _ _ _ hp.1 hp.2⟩
 ·cases h
set_option maxHeartbeats 4000000 in
theorem BN:ta am (ah pR) Tryz.f57.ntmps (ag Tryz.f57) [.tmp 4] kl:=fun l cs g h hp=>by
 unfold kl at h
 split at h
 ·cases h
  exact ⟨Nat.le_of_ble_eq_true rfl,rfl,rfl,rfl,zG _ _ _ _ _ _ _ _ hp.1 hp.2⟩
 ·cases h
set_option maxHeartbeats 4000000 in
theorem BO:ta am (ah pR) Tryz.f57.ntmps (ag Tryz.f57) [.tmp 4] km:=fun l cs g h hp=>by
 unfold km at h
 split at h
 ·cases h
  exact ⟨Nat.le_of_ble_eq_true rfl,rfl,rfl,rfl,zH _ _ _ _ _ _ _ _ _ _ hp.1 hp.2⟩
 ·cases h
theorem n9:ab 57 (gB uj):=aQ aj Qs Tryz.func57 (by kernel_rfl) rfl (rs:= [.tmp 4]) Tryz.results57 (ta.or BM (ta.or BN BO))
set_option maxRecDepth 10000
def SA:List (Nat×CF):=(99,aq rm)::P8
theorem P9:∀p∈SA,ab p.1 p.2:=ae sH Eg
theorem SP:ap bE (ah SA):=az aF (aR P9)
theorem C6 {a b:Q4} {P Q:EP} (h:wI a P) (h':wI b Q):eR a b=decide (P=Q):=by
 have:=vQ h h'
 rwa [dW h,dW h'] at this
theorem pH (P:EP):kO (pw P.x P.y)=decide (Cp.mul 8 P=Cp.zero):=by
 have h:=jI (kJ P) 8 (by decide +kernel)
 unfold kO
 rw [dW h]
 exact C6 h A3
theorem L1 (A R:EP) (s k:Nat) (hs:s<Lq) (hk:k<Lq):eR (aA (cj fa (aA (pw base.x base.y)) s 253)) (aA (jl (aA (pw R.x R.y)) (aA (cj fa (aA (pw A.x A.y)) k 253)) fa))=decide (Cp.mul s base=Cp.add R (Cp.mul k A)):=by
 have h1:=jI (kJ base) s hs
 have h2:=jI (kJ A) k hk
 have h3:=kJ R
 rw [dW h3,dW h2]
 exact vQ h1 (lU h3 h2)
theorem lx {b:List UInt8} (h:c9 b=0):gl b=pw (c_ b).x (c_ b).y:=if_pos h
theorem ER {b:List UInt8} (h:c9 b=0):b.length=32:=by
 by_cases k:b.length=32
 ·exact k
 ·rw [(Ao k).2] at h;cases h
theorem RD {b:List UInt8} (h:Ha b=0):b.length=32∧bo b<Lq∧C8 b=bo b:=by
 cases e:Rr b with
 |false=>rw [Ha,e] at h;cases h
 |true=>
  obtain ⟨h1,h2⟩:=of_decide_eq_true e
  exact ⟨h1,h2,by rw [C8,e];rfl⟩
theorem RE {b:List UInt8} (hl:b.length=32) (h:Ha b≠0):¬bo b<Lq:=fun k=>h (A9 ⟨hl,k⟩).2
theorem Io (pub sig:List UInt8) (q:List (List UInt8)) (hq:q.flatten.length≤8388000):vc bE (ah SA) Tryz.f48.ntmps (ag Tryz.f48) ⟨al 0 [.one (.ro .u8 pub),.one (.ro .u8 sig),.one (.bb q)],[],2000⟩ (aD bE Tryz.f48.ntmps [.tmp 6] [.one (.ob .int (fA pub sig q.flatten))] []):=by
 refine ⟨fun h1=> ?_,fun h1=> ?_⟩
 ·refine ⟨h1,?_,trivial⟩
  show [fA pub sig q.flatten]= [12]
  rw [fA,if_neg (of_decide_eq_true h1)]
 have c1:c9 pub=0:=Decidable.not_not.1 (of_decide_eq_false h1)
 have l1:=ER c1
 refine ⟨h1,fun h2=> ?_,fun h2=> ?_⟩
 ·refine ⟨?_,trivial⟩
  show [fA pub sig q.flatten]= [12]
  have h2:kO (gl pub)=true:=h2
  rw [lx c1,pH] at h2
  rw [fA,if_pos c1,if_pos (of_decide_eq_true h2)]
 have c2:¬Cp.mul 8 (c_ pub)=Cp.zero:=by
  have h2:kO (gl pub)=false:=h2
  rw [lx c1,pH] at h2
  exact of_decide_eq_false h2
 refine fun hl=>⟨fun h3=> ?_,fun h3=> ?_⟩
 ·refine ⟨?_,trivial⟩
  show [fA pub sig q.flatten]= [3]
  have h3:sig.length≠64:=by have:=of_decide_eq_true h3;omega
  rw [fA,if_pos c1,if_neg c2,if_neg h3]
 have c3:sig.length=64:=by have:=of_decide_eq_false h3;omega
 have l2:(sig.take 32).length=32:=by rw [List.length_take];omega
 have l3:(sig.drop 32).length=32:=by rw [List.length_drop];omega
 have s1:(32:Int)≤(sig.length:Nat):=by omega
 refine ⟨⟨⟨by decide,s1⟩,trivial⟩,fun h4=> ?_,fun h4=> ?_⟩
 ·refine ⟨?_,trivial⟩
  show [fA pub sig q.flatten]= [3]
  have h4:¬c9 (sig.take 32)=0:=of_decide_eq_true h4
  rw [fA,if_pos c1,if_neg c2,if_pos c3,if_neg h4]
 have c4:c9 (sig.take 32)=0:=Decidable.not_not.1 (of_decide_eq_false h4)
 refine ⟨⟨by decide,s1⟩,fun h5=> ?_,fun h5=> ?_⟩
 ·refine ⟨?_,trivial⟩
  show [fA pub sig q.flatten]= [3]
  have h5:¬Ha (sig.drop 32)=0:=of_decide_eq_true h5
  rw [fA,if_pos c1,if_neg c2,if_pos c3,if_pos c4,if_neg (RE l3 h5)]
 have c5:Ha (sig.drop 32)=0:=Decidable.not_not.1 (of_decide_eq_false h5)
 obtain ⟨_,c6,c7⟩:=RD c5
 have hc: [sig.take 32,pub,q.flatten].flatten.length≤8388608:=by
  rw [Js,List.length_append,List.length_append];omega
 have key:eR (aA (cj fa (aA (pw base.x base.y)) (C8 (sig.drop 32)) 253)) (aA (jl (aA (gl (sig.take 32))) (aA (cj fa (aA (gl pub)) (bK (aM [sig.take 32,pub,q.flatten].flatten)) 253)) fa))=decide (Cp.mul (bo (sig.drop 32)) base=Cp.add (c_ (sig.take 32)) (Cp.mul (bK (aM (sig.take 32++(pub++q.flatten)))) (c_ pub))):=by
  rw [lx c4,lx c1,L1 _ _ _ _ (OW _) (jZ _),c7,Js]
 refine ⟨⟨⟨by decide,s1⟩,trivial⟩,by show q.flatten.length≤16777216;omega,hc,fun h6=> ?_,fun h6=> ?_⟩
 ·refine ⟨?_,trivial⟩
  show [fA pub sig q.flatten]= [3]
  replace h6:(!eR (aA (cj fa (aA (pw base.x base.y)) (C8 (sig.drop 32)) 253)) (aA (jl (aA (gl (sig.take 32))) (aA (cj fa (aA (gl pub)) (bK (aM [sig.take 32,pub,q.flatten].flatten)) 253)) fa)))=true:=h6
  rw [key] at h6
  rw [fA,if_pos c1,if_neg c2,if_pos c3,if_pos c4,if_pos c6,if_neg fun k=>by rw [decide_eq_true k] at h6;cases h6]
 ·refine ⟨?_,trivial⟩
  show [fA pub sig q.flatten]= [0]
  replace h6:(!eR (aA (cj fa (aA (pw base.x base.y)) (C8 (sig.drop 32)) 253)) (aA (jl (aA (gl (sig.take 32))) (aA (cj fa (aA (gl pub)) (bK (aM [sig.take 32,pub,q.flatten].flatten)) 253)) fa)))=false:=h6
  rw [key] at h6
  rw [fA,if_pos c1,if_neg c2,if_pos c3,if_pos c4,if_pos c6,if_pos (of_decide_eq_true (by simpa using h6))]
def ru:GF:=fun l=>match l with
 | [.one (.ro .u8 pub),.one (.ro .u8 sig),.one (.bb q)]=>some ⟨[.one (.ob .int (fA pub sig q.flatten))],[],some (q.flatten.length≤8388000)⟩
 |_=>none
theorem sW:ab 48 (aq ru):=af aF SP Tryz.func48 (by kernel_rfl) rfl (rs:= [.tmp 6]) Tryz.results48 fun l g h hp=>by
 unfold ru at h
 split at h
 ·cases h;exact ⟨Nat.le_of_ble_eq_true rfl,rfl,rfl,rfl,Io _ _ _ hp⟩
 ·cases h
set_option maxRecDepth 10000
theorem Qe:ap bE (ah []):=az aF (aR fun p hp=>by cases hp)
def eY (c:List UInt8) (i:Nat):Nat→Nat
 |0=>0
 |k+1=>eY c i k+cI c (12*i+k)*2^k
theorem rV (c:List UInt8) (i:Nat):∀k,eY c i k<2^k
 |0=>by simp [eY]
 |k+1=>by
  have h:=rV c i k
  have hb:=z_ c (12*i+k)
  rw [eY,Nat.pow_succ]
  have:cI c (12*i+k)=0∨cI c (12*i+k)=1:=by omega
  rcases this with e|e<;>rw [e]<;>omega
theorem Kx (c:List UInt8) (i k:Nat) (hk:k<12):UInt16.ofNat (eY c i k)|||Lc (r8 (c.getD ((12*i+k)/8) 0) ((12*i+k)%8)&&&1).toUInt16 k=UInt16.ofNat (eY c i (k+1)):=by
 have h:=rV c i k
 have h2:=rV c i (k+1)
 have hb:=z_ c (12*i+k)
 have hp:2^k≤2^11:=Nat.pow_le_pow_right (by omega) (by omega)
 have hp2:2^(k+1)≤2^12:=Nat.pow_le_pow_right (by omega) (by omega)
 refine UInt16.toNat_inj.1 ?_
 rw [UInt16.toNat_or,Lc,UInt16.toNat_ofNat',UInt16.toNat_ofNat',UInt16.toNat_ofNat',UInt8.toNat_toUInt16,GX,←cI]
 rw [Nat.mod_eq_of_lt (show eY c i k<2^16 by omega),Nat.mod_eq_of_lt (show eY c i (k+1)<2^16 by omega),eY]
 have:cI c (12*i+k)=0∨cI c (12*i+k)=1:=by omega
 rcases this with e|e
 ·rw [e,Nat.zero_mul,Nat.zero_mod,Nat.or_zero,Nat.add_zero]
 ·rw [e,Nat.one_mul,Nat.mod_eq_of_lt (show 2^k<2^16 by omega),Nat.or_comm]
  have h4:=Nat.shiftLeft_add_eq_or_of_lt h 1
  rw [Nat.shiftLeft_eq,Nat.one_mul] at h4
  omega
def PT (c:List UInt8) (i:Nat):UInt16:=UInt16.ofNat (eY c i 12)
abbrev Ll (c:List UInt8) (i:Nat):List UInt16:=bx 0 256 (PT c) (List.replicate 256 0) i
theorem Hr (c:List UInt8) {i:Nat} (h:i<256):(Ll c i).set i (UInt16.ofNat (eY c i 0))=Ll c i:=by
 apply List.ext_getElem (by simp)
 intro j h1 h2
 rw [List.getElem_set]
 split
 ·rename_i e
  subst e
  simp only [bx,List.getElem_map,List.getElem_range]
  rw [if_neg (Nat.lt_irrefl _),List.getD_eq_getElem?_getD,List.getElem?_replicate]
  split<;>rfl
 ·rfl
theorem In (b:List UInt8) (hb:384≤b.length):vc bE (ah []) Tryz.f183.ntmps (ag Tryz.f183) ⟨al 0 [.one (.ob .int 12),.one (.ro .u8 b)],[],2000⟩ (aD bE Tryz.f183.ntmps [.cell 4 141] [.agg [.vec .u16 256 ((List.range 256).map (PT b))]] []):=by
 refine Or.inr ⟨{i:Nat // i≤256},fun i=>⟨[(8,.one (.ob .int (i.val:Int)))],[(2000,.blk 141 [.vec .u16 256 (Ll b i.val)])]⟩,fun i=>256-i.val,⟨0,by omega⟩,?_⟩
 refine ⟨rfl,rfl,dl (by simp),fun i=>⟨fun h1=> ?_,fun h1=> ?_⟩⟩
 ·have h1:=of_decide_eq_true h1
  have hi:=i.2
  refine Or.inr ⟨{k:Nat // k≤12},fun k=>⟨[(12,.one (.ob .int (k.val:Int)))],[(2000,.blk 141 [.vec .u16 256 ((Ll b i.val).set i.val (UInt16.ofNat (eY b i.val k.val)))])]⟩,fun k=>12-k.val,⟨0,by omega⟩,?_⟩
  refine ⟨rfl,rfl,Hr b (by omega),fun k=>⟨fun h2=> ?_,fun h2=> ?_⟩⟩
  ·have h2:=of_decide_eq_true h2
   have hk:=k.2
   repeat refine sd ?_
   refine sj ⟨k.val+1,by omega⟩<|sr<|sr ⟨?_,trivial⟩
   have e1:((i.val:Int)*12+(k.val:Int))/8=(((12*i.val+k.val)/8:Nat):Int):=by omega
   have e2:((i.val:Int)*12+(k.val:Int))%8=(((12*i.val+k.val)%8:Nat):Int):=by omega
   have e3:((Ll b i.val).set i.val (UInt16.ofNat (eY b i.val k.val))).getD (i.val:Int).toNat 0=UInt16.ofNat (eY b i.val k.val):=by
    rw [Int.toNat_natCast,List.getD_eq_getElem?_getD,List.getElem?_set_self (by rw [uG];omega)]
    rfl
   have e4:=Kx b i.val k.val (by omega)
   show (Ll b i.val).set i.val (UInt16.ofNat (eY b i.val (k.val+1)))=((Ll b i.val).set i.val (UInt16.ofNat (eY b i.val k.val))).set (i.val:Int).toNat (((Ll b i.val).set i.val (UInt16.ofNat (eY b i.val k.val))).getD (i.val:Int).toNat 0|||Lc (r8 (b.getD (((i.val:Int)*12+(k.val:Int))/8).toNat 0) (((i.val:Int)*12+(k.val:Int))%8).toNat&&&1).toUInt16 (k.val:Int).toNat)
   rw [e3,e1,e2,Int.toNat_natCast,Int.toNat_natCast,Int.toNat_natCast,Int.toNat_natCast,e4,List.set_set]
  ·have h2:=of_decide_eq_false h2
   have hk:=k.2
   rw [show k.val=12 by omega]
   repeat refine sd ?_
   exact sj ⟨i.val+1,by omega⟩<|sr<|sr ⟨bq.symm,trivial⟩
 ·have h1:=of_decide_eq_false h1
  have hi:=i.2
  rw [show i.val=256 by omega,show Ll b 256=(List.range 256).map (PT b) from b7 (by omega)]
  exact ⟨rfl,rfl,trivial⟩
def rt:GF:=fun l=>match l with
 | [.one (.ob .int d),.one (.ro .u8 b)]=>some ⟨[.agg [.vec .u16 256 ((List.range 256).map (PT b))]],[],some (d=(12:Int)∧384≤b.length)⟩
 |_=>none
theorem sU:ab 183 (aq rt):=af aF Qe Tryz.func183 (by kernel_rfl) rfl (rs:= [.cell 4 141]) Tryz.results183 fun l g h hp=>by
 unfold rt at h
 split at h
 ·cases h
  obtain ⟨h1,h2⟩:=hp
  subst h1
  exact ⟨Nat.le_of_ble_eq_true rfl,rfl,rfl,rfl,In _ h2⟩
 ·cases h
def eg (f:List UInt16):Bool:=(List.range 256).all fun i=>decide ((f.getD i 0).toNat<3329)
theorem RP (f:List UInt16):vc bE (ah []) Tryz.f109.ntmps (ag Tryz.f109) ⟨al 0 [.agg [.vec .u16 256 f]],[],2000⟩ (aD bE Tryz.f109.ntmps [.tmp 2] [.one (.ob .bool (eg f))] []):=by
 refine Or.inr ⟨{i:Nat // i≤256∧∀j,j<i→(f.getD j 0).toNat<3329},fun i=>⟨[(6,.one (.ob .int (i.val:Int)))],[]⟩,fun i=>256-i.val,⟨0,by omega,fun j hj=>by omega⟩,?_⟩
 refine ⟨rfl,fun i=>⟨fun h1=> ?_,fun h1=> ?_⟩⟩
 ·have h1:=of_decide_eq_true h1
  obtain ⟨i,hi,hall⟩:=i
  dsimp only at h1 ⊢
  repeat refine sd ?_
  refine ⟨fun h2=> ?_,fun h2=> ?_⟩
  ·have h2:UInt16.ofNat 3329≤f.getD (i:Int).toNat 0:=of_decide_eq_true h2
   refine ⟨?_,trivial⟩
   show [eg f]= [false]
   refine congrArg (fun z=> [z]) ?_
   unfold eg
   rw [List.all_eq_false]
   refine ⟨i,List.mem_range.2 (by omega),?_⟩
   have:(3329:Nat)≤(f.getD i 0).toNat:=h2
   simp only [decide_eq_true_eq]
   omega
  ·have h2:¬UInt16.ofNat 3329≤f.getD (i:Int).toNat 0:=of_decide_eq_false h2
   have h3:(f.getD i 0).toNat<3329:=Nat.lt_of_not_le h2
   repeat refine sd ?_
   have hnew:∀j,j<i+1→(f.getD j 0).toNat<3329:=fun j hj=>by
    by_cases e:j<i
    ·exact hall j e
    ·rw [show j=i by omega];exact h3
   exact ⟨⟨i+1,by omega,hnew⟩,(by show 256-(i+1)<256-i;omega),by rfl,trivial⟩
 ·have h1:=of_decide_eq_false h1
  obtain ⟨i,hi,hall⟩:=i
  dsimp only at h1
  refine ⟨?_,trivial⟩
  show [eg f]= [true]
  refine congrArg (fun z=> [z]) ?_
  unfold eg
  rw [List.all_eq_true]
  intro j hj
  rw [List.mem_range] at hj
  exact decide_eq_true (hall j (by omega))
def N9:GF:=fun l=>match l with
 | [.agg [.vec .u16 256 f]]=>some ⟨[.one (.ob .bool (eg f))],[],none⟩
 |_=>none
theorem Cg:ab 109 (aq N9):=af aF Qe Tryz.func109 (by kernel_rfl) rfl (rs:= [.tmp 2]) Tryz.results109 fun l g h hp=>by
 unfold N9 at h
 split at h
 ·cases h;exact ⟨Nat.le_of_ble_eq_true rfl,rfl,rfl,rfl,RP _⟩
 ·cases h
def R9:List (Nat×CF):= [(109,aq N9),(183,aq rt)]
theorem L7:∀p∈R9,ab p.1 p.2:=ae Cg<|ae sU fun p hp=>by cases hp
theorem SE:ap bE (ah R9):=az aF (aR L7)
def ek (b:List UInt8) (i:Nat):List UInt16:=(List.range 256).map (PT (b.drop (384*i)))
theorem Gc {n m:Nat} (h:n≤m):yG (some (.lit (Int.ofNat n))) m:=⟨Int.natCast_nonneg _,Int.ofNat_le.2 h⟩
theorem LP (b:List UInt8) (hb:1152≤b.length):vc bE (ah R9) Tryz.f108.ntmps (ag Tryz.f108) ⟨al 0 [.one (.ro .u8 b)],[],2000⟩ (aD bE Tryz.f108.ntmps [.cell 2 143] [.agg [.vec .u16 256 (ek b 0),.vec .u16 256 (ek b 1),.vec .u16 256 (ek b 2)]] []):=by
 refine Or.inl ⟨4,?_⟩
 have hd:∀i,(b.drop i).length=b.length-i:=fun i=>List.length_drop
 have hc:∀i,i≤768→384≤(b.drop i).length:=fun i hi=>by rw [hd];omega
 have l1:384≤b.length:=by omega
 have l2:768≤b.length:=by omega
 exact ⟨Gc (n:=0) (Nat.zero_le _),⟨rfl,hc 0 (by omega)⟩,Gc (n:=384) l1,⟨rfl,hc 384 (by omega)⟩,Gc (n:=768) l2,⟨rfl,hc 768 (by omega)⟩,rfl,rfl,rfl,rfl,rfl,rfl,trivial⟩
def yf:GF:=fun l=>match l with
 | [.one (.ro .u8 b)]=>some ⟨[.agg [.vec .u16 256 (ek b 0),.vec .u16 256 (ek b 1),.vec .u16 256 (ek b 2)]],[],some (1152≤b.length)⟩
 |_=>none
theorem vL:ab 108 (aq yf):=af aF SE Tryz.func108 (by kernel_rfl) rfl (rs:= [.cell 2 143]) Tryz.results108 fun l g h hp=>by
 unfold yf at h
 split at h
 ·cases h;exact ⟨Nat.le_of_ble_eq_true rfl,rfl,rfl,rfl,LP _ hp⟩
 ·cases h
def Sx:List (Nat×CF):=(108,aq yf)::R9
theorem PZ:∀p∈Sx,ab p.1 p.2:=ae vL L7
theorem SF:ap bE (ah Sx):=az aF (aR PZ)
def tJ (b:List UInt8):Int:=if b.length=1184 then (if eg (ek b 0)=true then (if eg (ek b 1)=true then (if eg (ek b 2)=true then 0 else 2) else 2) else 2) else 1
theorem Lx (b:List UInt8):vc bE (ah Sx) Tryz.f51.ntmps (ag Tryz.f51) ⟨al 0 [.one (.ro .u8 b)],[],2000⟩ (aD bE Tryz.f51.ntmps [.tmp 2] [.one (.ob .int (tJ b))] []):=by
 refine fun _=>⟨fun h=> ?_,fun h=> ?_⟩
 ·have h1:b.length≠1184:=by have:=of_decide_eq_true h;omega
  refine ⟨?_,trivial⟩
  show [tJ b]= [1]
  rw [tJ,if_neg h1]
 have h1:b.length=1184:=by have:=of_decide_eq_false h;omega
 refine ⟨by show 1152≤b.length;omega,Or.inl ⟨4,fun h2=> ?_,fun h2=>⟨fun h3=> ?_,fun h3=>⟨fun h4=> ?_,fun h4=> ?_⟩⟩⟩⟩
 ·refine ⟨?_,trivial⟩
  show [tJ b]= [2]
  have h2:(!eg (ek b 0))=true:=h2
  rw [tJ,if_pos h1,if_neg (by simpa using h2)]
 ·refine ⟨?_,trivial⟩
  show [tJ b]= [2]
  have h2:(!eg (ek b 0))=false:=h2
  have h3:(!eg (ek b 1))=true:=h3
  rw [tJ,if_pos h1,if_pos (by simpa using h2),if_neg (by simpa using h3)]
 ·refine ⟨?_,trivial⟩
  show [tJ b]= [2]
  have h2:(!eg (ek b 0))=false:=h2
  have h3:(!eg (ek b 1))=false:=h3
  have h4:(!eg (ek b 2))=true:=h4
  rw [tJ,if_pos h1,if_pos (by simpa using h2),if_pos (by simpa using h3),if_neg (by simpa using h4)]
 ·refine ⟨?_,trivial⟩
  show [tJ b]= [0]
  have h2:(!eg (ek b 0))=false:=h2
  have h3:(!eg (ek b 1))=false:=h3
  have h4:(!eg (ek b 2))=false:=h4
  rw [tJ,if_pos h1,if_pos (by simpa using h2),if_pos (by simpa using h3),if_pos (by simpa using h4)]
def xJ:GF:=fun l=>match l with
 | [.one (.ro .u8 b)]=>some ⟨[.one (.ob .int (tJ b))],[],none⟩
 |_=>none
theorem tI:ab 51 (aq xJ):=af aF SF Tryz.func51 (by kernel_rfl) rfl (rs:= [.tmp 2]) Tryz.results51 fun l g h hp=>by
 unfold xJ at h
 split at h
 ·cases h;exact ⟨Nat.le_of_ble_eq_true rfl,rfl,rfl,rfl,Lx _⟩
 ·cases h
set_option maxRecDepth 10000
structure Bn where
 sign:List UInt8
 ident:List UInt8
 medium:List UInt8
 medsig:List UInt8
 onceId:Int
 once:List UInt8
 kemId:Int
 kem:List UInt8
 kemsig:List UInt8
 last:Bool
 version:Int
@[reducible] def Bn.av (B:Bn):AV:= .agg [.ro .u8 B.sign,.ro .u8 B.ident,.ro .u8 B.medium,.ro .u8 B.medsig,.ob .int B.onceId,.ro .u8 B.once,.ob .int B.kemId,.ro .u8 B.kem,.ro .u8 B.kemsig,.ob .bool B.last,.ob .int B.version]
@[reducible] def Bn.nv (B:Bn):AV:= .agg [.rw 1000,.rw 1001,.rw 1002,.rw 1003,.ob .int B.onceId,.rw 1004,.ob .int B.kemId,.rw 1005,.rw 1006,.ob .bool B.last,.ob .int B.version]
def Bn.nm (B:Bn):Nat→Option (List UInt8)
 |1000=>some B.sign|1001=>some B.ident|1002=>some B.medium|1003=>some B.medsig|1004=>some B.once|1005=>some B.kem|1006=>some B.kemsig
 |_=>none
def MT (S':AS) (ex:Nat→Option (List UInt8)):Cl→List UInt8→Prop
 | .rw c,l=>match aH S'.hp c with |some (.row _ .u8 m)=>l=m|some _=>False|none=>ex c=some l
 | .sub c lo n,l=>match aH S'.hp c with |some (.row _ .u8 m)=>l=(m.drop lo).take n|_=>False
 |_,_=>False
def lP (S':AS) (ex:Nat→Option (List UInt8)):List Cl→List (List UInt8)→Prop
 | [],[]=>True
 |x::r,l::q=>MT S' ex x l∧lP S' ex r q
 |_,_=>False
def G5 (t:Nat) (ls:List (List UInt8)) (ex:Nat→Option (List UInt8)):KK:=fun e S'=>match e with
 | .exit _=>False
 |_=>match bG S'.sl t with
  | [.one (.sl b 0 m c)]=>match aH S'.hp b with
   |some (.blk _ l)=>m=ls.length∧c≤16777216∧lP S' ex l ls
   |_=>False
  |_=>False
def BQ (P:Bn→Option Prop) (R:Bn→List (List UInt8)):CF:=fun _ args=>match args with
 | [.agg [.ro .u8 a,.ro .u8 b,.ro .u8 c,.ro .u8 d,.ob .int e,.ro .u8 f,.ob .int g,.ro .u8 h,.ro .u8 i,.ob .bool j,.ob .int k]]=> .pure ⟨[.one (.bb (R ⟨a,b,c,d,e,f,g,h,i,j,k⟩))],[],P ⟨a,b,c,d,e,f,g,h,i,j,k⟩,none⟩
 |_=> .fail
section
variable {ty:Nat→TE} {ct:Nat→Option CF}
theorem bj.still {H:Nat→Option Ch} {η:aY} {w w':World} {nx:Nat} (hH:bX H η w) (hb:Below w.heap.size w w') {out:List AV} {v:Value} {pre:Option Prop} (ho:bF η (ay H η) w' out v):bj H η w nx ⟨out,[],pre,none⟩ v w' η:=by
 have hfw:Fw H η w H η w':=⟨hb.os,hb.tape,hb.output,hb.size,fun _ _ h=>h,fun g hg ha=>⟨hb.block g hg,ha⟩⟩
 exact ⟨ho,⟨fun b c hbc=>(hH.chunk b c hbc).later hfw.lt fun g hg=>hb.block g (AG hH (fun h0=>by have hbc:H b=some c:=hbc;rw [h0] at hbc;cases hbc) hg),hH.apart⟩,hfw,fun _ _=>rfl,trivial⟩
theorem Bk {S':AS} {ex:Nat→Option (List UInt8)} {η':aY} {A A':Nat→Prop} {w':World} (hch:∀b c,aH S'.hp b=some c→c.H η' A' w' b) (hA:∀b g,aH S'.hp b≠none→bf η' b=some g→A g) (hex:∀c l,ex c=some l→∃v,η' c=some v∧eG A w' .u8 l v):
  ∀ {l:List Cl} {ls:List (List UInt8)} {cs:List Value},lP S' ex l ls→aO η' A' w' l cs→cs.length=ls.length∧∀i (h:i<ls.length) (h':i<cs.length),eG A w' .u8 ls[i] cs[i]
 | [],[],cs,_,hc=>by cases hc;exact ⟨rfl,fun i h=>(by cases h)⟩
 | [],_::_,_,h,_=>h.elim
 |_::_,[],_,h,_=>h.elim
 |x::r,l::q,cs,⟨h1,h2⟩,⟨c1,t,e,hx,hr⟩=>by
  obtain ⟨g1,g2⟩:=Bk hch hA hex h2 hr
  have key:∃v,c1= [v]∧eG A w' .u8 l v:=by
   unfold MT at h1
   split at h1
   ·rename_i c _
    obtain ⟨v,e1,e2,_⟩:=hx
    refine ⟨v,e2,?_⟩
    split at h1
    ·rename_i E m hm
     subst h1
     obtain ⟨v',e3,hR⟩:=sB (hch _ _ hm) (A':=A) fun g hg=>hA _ g (by rw [hm];simp) hg
     rw [e1] at e3;cases e3
     exact hR
    ·exact h1.elim
    ·obtain ⟨v',e3,hR⟩:=hex _ _ h1
     rw [e1] at e3;cases e3
     exact hR
   ·rename_i c lo n _
    split at h1
    ·rename_i E m hm
     subst h1
     exact sQ rfl (hch _ _ hm) hx (A':=A) fun g hg=>hA _ g (by rw [hm];simp) hg
    ·exact h1.elim
   ·exact h1.elim
  obtain ⟨v,rfl,hR⟩:=key
  subst e
  refine ⟨by simp [g1],fun i hi hi'=> ?_⟩
  cases i with
  |zero=>exact hR
  |succ i=>exact g2 i (by simpa using hi) (by simpa using hi')
theorem ma (hO : ap ty ct) {f : Nat} {fn : Func} {c : Code} {t : Nat} (hf : Tryz.prog.funcs[f]? = some fn) (hn : (fn.name == "runtime.NumGoroutine") = false) (hb : fn.body = some c) (hr : fn.results = #[.tmp t]) (hN : 1 ≤ fn.ntmps) {P : Bn → Option Prop} {R : Bn → List (List UInt8)}
  (hG:∀B,aW (P B)→vc ty ct fn.ntmps c ⟨al 0 [B.nv],[],2000⟩ (G5 t (R B) B.nm)):ab f (BQ P R):=by
 refine ⟨⟨fn,c,hf,hn,hb⟩,fun nx args sl H ds res rd qs h hq hp η w vs hH hv hfree=> ?_⟩
 unfold BQ at h
 split at h
 ·rename_i s1 s2 s3 s4 i1 s5 i2 s6 s7 la ve
  have:=aC h
  subst this
  obtain ⟨v,_,rfl,⟨cs,rfl,⟨_,_,e0,⟨v0,rfl,r0⟩,_,_,e1,⟨v1,rfl,r1⟩,_,_,e2,⟨v2,rfl,r2⟩,_,_,e3,⟨v3,rfl,r3⟩,_,_,e4,h4,_,_,e5,⟨v4,rfl,r4⟩,_,_,e6,h6,_,_,e7,⟨v5,rfl,r5⟩,_,_,e8,⟨v6,rfl,r6⟩,_,_,e9,h9,_,_,ea,ha,rfl⟩,hone⟩,rfl⟩:=hv
  cases (show _= [Value.int .i64 i1] from h4)
  cases (show _= [Value.int .i64 i2] from h6)
  cases (show _= [Value.bool la] from h9)
  cases (show _= [Value.int .i64 ve] from ha)
  subst ea e9 e8 e7 e6 e5 e4 e3 e2 e1 e0
  let η0:aY:=fun b=>if b=1000 then some v0 else if b=1001 then some v1 else if b=1002 then some v2 else if b=1003 then some v3 else if b=1004 then some v4 else if b=1005 then some v5 else if b=1006 then some v6 else none
  have hsl:∀ {k:Kd} {l:List k.T} {v:Value} {A:Nat→Prop},eG A w k l v→v.oneCell'=true:=fun ⟨_,_,e,_⟩=>by rw [e];rfl
  have hv0:bp η0 (ay (aH []) η0) w [Bn.nv ⟨s1,s2,s3,s4,i1,s5,i2,s6,s7,la,ve⟩] _:=⟨_,[],rfl,⟨_,rfl,⟨_,_,rfl,⟨v0,rfl,rfl,hsl r0⟩,_,_,rfl,⟨v1,rfl,rfl,hsl r1⟩,_,_,rfl,⟨v2,rfl,rfl,hsl r2⟩,_,_,rfl,⟨v3,rfl,rfl,hsl r3⟩,_,_,rfl,rfl,_,_,rfl,⟨v4,rfl,rfl,hsl r4⟩,_,_,rfl,rfl,_,_,rfl,⟨v5,rfl,rfl,hsl r5⟩,_,_,rfl,⟨v6,rfl,rfl,hsl r6⟩,_,_,rfl,rfl,_,_,rfl,rfl,rfl⟩,hone⟩,rfl⟩
  generalize ([v0]++([v1]++([v2]++([v3]++([Value.int .i64 i1]++([v4]++([Value.int .i64 i2]++([v5]++([v6]++([Value.bool la]++([Value.int .i64 ve]++ [])))))))))))=cs at hv0
  generalize hB:(⟨s1,s2,s3,s4,i1,s5,i2,s6,s7,la,ve⟩:Bn)=B at hv0 hp ⊢
  refine calls_of_wp hf hb ?_
  obtain ⟨hvl,hsl0⟩:=lH (i:=0) hv0
  have hS:pX fn.ntmps ⟨al 0 [B.nv],[],2000⟩ η0 {tmps:= #[.agg cs.toArray]++Array.replicate (fn.ntmps-1) undef,defers:= []} w:=by
   refine ⟨⟨rfl,by simp;omega,fun t=> ?_,fun b c h=>(by cases h),fun b b' g _ h=>absurd rfl h⟩,fun b hb=> ?_⟩
   ·rcases hsl0 t with h|⟨x,v,h1,h2,h3,h4⟩
    ·show bF _ _ _ (bG (al 0 [B.nv]) t) _
     rw [h];trivial
    ·show bF _ _ _ (bG (al 0 [B.nv]) t) _
     rw [h1]
     have e:(#[.agg cs.toArray]++Array.replicate (fn.ntmps-1) undef:Array Value).getD t undef=v:=by
      rw [Array.getD_eq_getD_getElem?,Array.getElem?_append_left (by simp;have:=(List.getElem?_eq_some_iff.1 h3).1;simp at this;omega)]
      simp only [Nat.sub_zero] at h3
      rw [List.getElem?_toArray,h3];rfl
     show bF _ _ _ [x] (Array.getD _ t undef)
     rw [e]
     exact h4
   ·have hb:2000≤b:=hb
    show (if b=1000 then some v0 else if b=1001 then some v1 else if b=1002 then some v2 else if b=1003 then some v3 else if b=1004 then some v4 else if b=1005 then some v5 else if b=1006 then some v6 else none)=none
    rw [if_neg (by omega),if_neg (by omega),if_neg (by omega),if_neg (by omega),if_neg (by omega),if_neg (by omega),if_neg (by omega)]
  refine wp_mono (nR cA hO c _ _ (hG B hp) _ _ _ hS) fun e a' w' hP=> ?_
  obtain ⟨e',S',η',k1,k2,⟨hS',_⟩,hF,_,hE,_⟩:=hP
  have hbl:Below w.heap.size w w':=⟨hF.os,hF.tape,hF.output,hF.size,fun g hg=>(hF.anon g hg fun b hb=>absurd rfl hb).1⟩
  have hA:∀b g,aH S'.hp b≠none→bf η' b=some g→ay H η g:=fun b g hb hg=>by
   have hge:w.heap.size≤g:=by
    rcases Nat.lt_or_ge g w.heap.size with h|h
    ·exact absurd hg ((hF.anon g h fun b hb=>absurd rfl hb).2 b hb)
    ·exact h
   intro b2 hb2 hg2
   have:=AG hH hb2 hg2
   omega
  have hlt:Lt η (ay H η) w η (ay H η) w':=⟨fun _ _ h=>h,fun g hg ha=>⟨hbl.block g hg,ha⟩⟩
  have hex:∀c l,B.nm c=some l→∃v,η' c=some v∧eG (ay H η) w' .u8 l v:=fun c l hc=>by
   subst hB
   have hc2:c<2000→η' c=η0 c:=hE c
   unfold Bn.nm at hc
   split at hc<;>first |(cases hc;done)|skip
   all_goals (cases hc;rw [hc2 (by omega)])
   ·exact ⟨v0,rfl,r0.later hlt⟩
   ·exact ⟨v1,rfl,r1.later hlt⟩
   ·exact ⟨v2,rfl,r2.later hlt⟩
   ·exact ⟨v3,rfl,r3.later hlt⟩
   ·exact ⟨v4,rfl,r4.later hlt⟩
   ·exact ⟨v5,rfl,r5.later hlt⟩
   ·exact ⟨v6,rfl,r6.later hlt⟩
  have key:(match bG S'.sl t with
    | [.one (.sl b 0 m c)]=>match aH S'.hp b with
     |some (.blk _ l)=>m=(R B).length∧c≤16777216∧lP S' B.nm l (R B)
     |_=>False
    |_=>False)→a'.defers= []∧∃v,(results fn a'.tmps).run Tryz.prog w'= .ok v w'∧∃v' η'',Ending.returned v= .returned v'∧bj H η w nx ⟨[.one (.bb (R B))],[],P B,none⟩ v' w' η'':=fun hK=>by
   refine ⟨hS'.df,_,vP (rs:= [t]) hr a'.tmps w',_,η,rfl,bj.still hH hbl ?_⟩
   have hs:=hS'.slot t
   split at hK
   ·rename_i b m cc e1
    rw [e1] at hs
    obtain ⟨hmc,g,hg,hvv⟩:=hs
    split at hK
    ·rename_i E l e2
     obtain ⟨x1,x2,x3⟩:=hK
     obtain ⟨g',us,y1,y2,y3,y4⟩:=hS'.chunk b _ e2
     rw [hg] at y1
     cases y1
     obtain ⟨z1,z2⟩:=Bk hS'.chunk hA hex x3 y3
     have hr0:=y2.range (q:=0) (n:=us.length)
     rw [List.drop_zero,List.take_length] at hr0
     exact ⟨some ⟨g,0,none⟩,cc,by rw [←x1];exact hvv,by omega,by simp only [maxLen];omega,fun h=>(by cases h),fun _=>⟨g,0,us,rfl,hA b g (by rw [e2];simp) (by unfold bf;rw [hg];rfl),hr0,z1,z2⟩⟩
    ·exact hK.elim
   ·exact hK.elim
  cases e with
  |normal=>cases k1;exact key k2
  |ret=>cases k1;exact key k2
  |exit id=>cases k1;exact k2.elim
  |panic c=>cases k1
  |outgrown=>cases k1
  |goto l=>cases k1
 ·cases h
end
set_option maxRecDepth 10000
def xw (b:Bool):UInt8:=match b with |true=>1|false=>0
theorem O9 (b:Bool):vc bE (ah []) Tryz.f73.ntmps (ag Tryz.f73) ⟨al 0 [.one (.ob .bool b)],[],2000⟩ (aD bE Tryz.f73.ntmps [.tmp 2] [.one (.ob .u8 (xw b))] []):=by
 refine ⟨fun h=> ?_,fun h=> ?_⟩
 ·cases (show b=true from h)
  exact ⟨rfl,trivial⟩
 ·cases (show b=false from h)
  exact ⟨rfl,trivial⟩
def AA:GF:=fun l=>match l with
 | [.one (.ob .bool b)]=>some ⟨[.one (.ob .u8 (xw b))],[],none⟩
 |_=>none
theorem mr:ab 73 (aq AA):=af aF Qd Tryz.func73 (by kernel_rfl) rfl (rs:= [.tmp 2]) Tryz.results73 fun l g h hp=>by
 unfold AA at h
 split at h
 ·cases h;exact ⟨Nat.le_of_ble_eq_true rfl,rfl,rfl,rfl,O9 _⟩
 ·cases h
def PW:List (Nat×CF):= [(107,aq mH),(73,aq AA)]
theorem PX:∀p∈PW,ab p.1 p.2:=ae gU<|ae mr fun p hp=>by cases hp
theorem Nj:ap bE (ah PW):=az aF (aR PX)
def vB (B:Bn):UInt8:=UInt8.ofNat B.version.toNat
def Ci (B:Bn):List (List UInt8):= [[UInt8.ofNat 1,vB B],B.medium]
def Kf (n:Int):List UInt8:=((fF (UInt32.ofNat n.toNat).toUInt64).drop 4).take 4
def uw (B:Bn):List (List UInt8):= [[UInt8.ofNat 2,vB B],Kf B.kemId,[xw B.last],B.kem]
theorem Pf (B:Bn) (hv:0≤B.version):vc bE (ah PW) Tryz.f49.ntmps (ag Tryz.f49) ⟨al 0 [B.nv],[],2000⟩ (G5 2 (Ci B) B.nm):=⟨hv,rfl,by decide,rfl,rfl,trivial⟩
theorem yK:ab 49 (BQ (fun B=>some (0≤B.version)) Ci):=ma Nj Tryz.func49 (by kernel_rfl) rfl (t:=2) Tryz.results49 (Nat.le_of_ble_eq_true rfl) fun B hp=>Pf B hp
theorem Pc (B:Bn) (hv:0≤B.version∧0≤B.kemId):vc bE (ah PW) Tryz.f50.ntmps (ag Tryz.f50) ⟨al 0 [B.nv],[],2000⟩ (G5 2 (uw B) B.nm):=⟨hv.1,hv.2,rfl,by decide,rfl,rfl,rfl,rfl,trivial⟩
theorem yD:ab 50 (BQ (fun B=>some (0≤B.version∧0≤B.kemId)) uw):=ma Nj Tryz.func50 (by kernel_rfl) rfl (t:=2) Tryz.results50 (Nat.le_of_ble_eq_true rfl) fun B hp=>Pc B hp
def kN (B:Bn):Bool:=match decide (B.version=1) with
 |true=>decide (B.kemId=0)&&decide ((B.kem.length:Int)=0)&&decide ((B.kemsig.length:Int)=0)&& !B.last
 |false=>decide (B.version=2)&&decide ((B.kem.length:Int)=1184)&&decide ((B.kemsig.length:Int)=64)&&decide (0≤B.kemId)&&(B.last ==decide (B.kemId=0))
theorem RU (B:Bn):vc bE (ah PW) Tryz.f47.ntmps (ag Tryz.f47) ⟨al 0 [B.av],[],2000⟩ (aD bE Tryz.f47.ntmps [.tmp 2] [.one (.ob .bool (kN B))] []):=by
 refine ⟨fun h0=> ?_,fun h0=> ?_⟩
 ·refine ⟨fun h1=>⟨fun h2=>⟨fun h3=> ?_,fun h3=> ?_⟩,fun h2=> ?_⟩,fun h1=> ?_⟩
  ·refine ⟨h1,h2,h3,fun _ _=>⟨?_,trivial⟩⟩
   show [kN B]= [_]
   rw [kN,h0,h1,h2,h3];rfl
  ·refine ⟨h1,h2,h3,fun _ _=>⟨?_,trivial⟩⟩
   show [kN B]= [_]
   rw [kN,h0,h1,h2,h3];rfl
  ·refine ⟨h1,h2,fun _=>⟨?_,trivial⟩⟩
   show [kN B]= [_]
   rw [kN,h0,h1,h2];rfl
  ·refine ⟨h1,?_,trivial⟩
   show [kN B]= [_]
   rw [kN,h0,h1];rfl
 ·refine ⟨fun h1=>⟨fun h2=>⟨fun h3=>⟨fun h4=> ?_,fun h4=> ?_⟩,fun h3=> ?_⟩,fun h2=> ?_⟩,fun h1=> ?_⟩
  ·refine ⟨h1,h2,h3,h4,fun _ _=>⟨?_,trivial⟩⟩
   show [kN B]= [_]
   rw [kN,h0,h1,h2,h3,h4];rfl
  ·refine ⟨h1,h2,h3,h4,fun _ _=>⟨?_,trivial⟩⟩
   show [kN B]= [_]
   rw [kN,h0,h1,h2,h3,h4];rfl
  ·refine ⟨h1,h2,h3,fun _ _=>⟨?_,trivial⟩⟩
   show [kN B]= [_]
   rw [kN,h0,h1,h2,h3];rfl
  ·refine ⟨h1,h2,fun _=>⟨?_,trivial⟩⟩
   show [kN B]= [_]
   rw [kN,h0,h1,h2];rfl
  ·refine ⟨h1,?_,trivial⟩
   show [kN B]= [_]
   rw [kN,h0,h1];rfl
def Oe:GF:=fun l=>match l with
 | [.agg [.ro .u8 a,.ro .u8 b,.ro .u8 c,.ro .u8 d,.ob .int e,.ro .u8 f,.ob .int g,.ro .u8 h,.ro .u8 i,.ob .bool j,.ob .int k]]=>some ⟨[.one (.ob .bool (kN ⟨a,b,c,d,e,f,g,h,i,j,k⟩))],[],none⟩
 |_=>none
theorem Db:ab 47 (aq Oe):=af aF Nj Tryz.func47 (by kernel_rfl) rfl (rs:= [.tmp 2]) Tryz.results47 fun l g h hp=>by
 unfold Oe at h
 split at h
 ·cases h;exact ⟨Nat.le_of_ble_eq_true rfl,rfl,rfl,rfl,RU ⟨_,_,_,_,_,_,_,_,_,_,_⟩⟩
 ·cases h
def Sw:List (Nat×CF):= [(47,aq Oe),(48,aq ru),(49,BQ (fun B=>some (0≤B.version)) Ci),(50,BQ (fun B=>some (0≤B.version∧0≤B.kemId)) uw),(51,aq xJ)]
theorem PY:∀p∈Sw,ab p.1 p.2:=ae Db<|ae sW<|ae yK<|ae yD<|ae tI fun p hp=>by cases hp
theorem SD:ap bE (ah Sw):=az aF (aR PY)
set_option maxRecDepth 10000
def pO (B:Bn):Int:=match decide (0<B.onceId) with |true=>32|false=>0
def b9 (B:Bn):Bool:=match decide ((B.sign.length:Int)=32) with
 |false=>true
 |true=>match decide ((B.ident.length:Int)=32) with
  |false=>true
  |true=> !decide ((B.medium.length:Int)=32)||decide ((B.medsig.length:Int)≠64)||decide (B.onceId<0)||decide ((B.once.length:Int)≠pO B)|| !kN B
def oF (B:Bn):Int:=fA B.sign B.medsig (Ci B).flatten
def wh (B:Bn):Int:=fA B.sign B.kemsig (uw B).flatten
def bn (B:Bn) (least:Int):Int:=match b9 B with
 |true=>1
 |false=>match decide (B.version<least) with
  |true=>4
  |false=>match decide (oF B≠0) with
   |true=>oF B
   |false=>match decide (B.version=1) with
    |true=>oF B
    |false=>match decide (wh B≠0) with
     |true=>wh B
     |false=>tJ B.kem
theorem MU {B:Bn} (h:kN B=true):B.version=1∨(B.version=2∧0≤B.kemId∧B.kem.length=1184):=by
 unfold kN at h
 split at h
 ·rename_i e;exact Or.inl (of_decide_eq_true e)
 ·simp only [Bool.and_eq_true,decide_eq_true_eq] at h
  exact Or.inr ⟨h.1.1.1.1,h.1.2,by omega⟩
set_option maxHeartbeats 4000000 in
theorem Pw (B:Bn) (least:Int):vc bE (ah Sw) Tryz.f16.ntmps (ag Tryz.f16) ⟨al 0 [B.av,.one (.ob .int least)],[],2000⟩ (aD bE Tryz.f16.ntmps [.tmp 4] [.one (.ob .int (bn B least))] []):=by
 refine ⟨fun h0=> ?_,fun h0=> ?_⟩
 ·have hw:pO B=32:=by rw [pO,h0]
  refine ⟨fun h1=>⟨fun h2=>⟨h1,h2,fun _ _ hmed=>⟨fun h3=> ?_,fun h3=> ?_⟩⟩,fun h2=> ?_⟩,fun h1=> ?_⟩
  ·refine ⟨h3,?_,trivial⟩
   have hb:b9 B=true:=by rw [b9,h1,h2,h3];try rfl
   show [bn B least]= [_]
   rw [bn,hb]
  ·refine ⟨fun h4=> ?_,fun h4=>⟨fun h5=> ?_,fun h5=>⟨fun h6=> ?_,fun h6=> ?_⟩⟩⟩
   ·refine ⟨h3,h4,fun _=>⟨?_,trivial⟩⟩
    have hb:b9 B=true:=by rw [b9,h1,h2,h3,h4];try rfl
    show [bn B least]= [_]
    rw [bn,hb]
   ·refine ⟨h3,h4,h5,fun _=>⟨?_,trivial⟩⟩
    have hb:b9 B=true:=by rw [b9,h1,h2,h3,h4,h5];try rfl
    show [bn B least]= [_]
    rw [bn,hb]
   ·refine ⟨h3,h4,h5,h6,fun _ _=>⟨?_,trivial⟩⟩
    have hb:b9 B=true:=by rw [b9,h1,h2,h3,h4,h5,hw,h6];try rfl
    show [bn B least]= [_]
    rw [bn,hb]
   ·refine ⟨h3,h4,h5,h6,fun _ _=>⟨fun h7=> ?_,fun h7=> ?_⟩⟩
    ·refine ⟨?_,trivial⟩
     have hb:b9 B=true:=by rw [b9,h1,h2,h3,h4,h5,hw,h6,h7];try rfl
     show [bn B least]= [_]
     rw [bn,hb]
    ·have hb:b9 B=false:=by rw [b9,h1,h2,h3,h4,h5,hw,h6,h7];rfl
     have hs:kN B=true:=by simpa using h7
     have hv:=MU hs
     refine ⟨fun h8=> ?_,fun h8=> ?_⟩
     ·refine ⟨?_,trivial⟩
      show [bn B least]= [_]
      rw [bn,hb,h8]
     have v0:0≤B.version:=by omega
     have hm:(Ci B).flatten.length≤8388000:=by
      show ([UInt8.ofNat 1,vB B]++(B.medium++ [])).length≤8388000
      have:B.medium.length=32:=by have:=of_decide_eq_true (show decide ((B.medium.length:Int)=32)=true by simpa using h3);omega
      simp [this]
     refine ⟨v0,hm,fun h9=> ?_,fun h9=>⟨h9,fun h10=> ?_,fun h10=> ?_⟩⟩
     ·refine ⟨h9,?_,trivial⟩
      show [bn B least]= [_]
      have h9:decide (oF B≠0)=true:=h9
      rw [bn,hb,h8,h9];rfl
     ·refine ⟨?_,trivial⟩
      show [bn B least]= [_]
      have h9:decide (oF B≠0)=false:=h9
      rw [bn,hb,h8,h9,h10];rfl
     have k0:0≤B.kemId∧B.kem.length=1184:=by
      have:¬B.version=1:=of_decide_eq_false h10
      omega
     have hk:(uw B).flatten.length≤8388000:=by
      show ([UInt8.ofNat 2,vB B]++(Kf B.kemId++([xw B.last]++(B.kem++ [])))).length≤8388000
      have:(Kf B.kemId).length≤4:=by rw [Kf,List.length_take];omega
      simp [k0.2];omega
     have h9:decide (oF B≠0)=false:=h9
     refine ⟨⟨v0,k0.1⟩,hk,fun h11=> ?_,fun h11=> ?_⟩
     ·refine ⟨?_,trivial⟩
      show [bn B least]= [_]
      have h11:decide (wh B≠0)=true:=h11
      rw [bn,hb,h8,h9,h10,h11];rfl
     ·refine ⟨?_,trivial⟩
      show [bn B least]= [_]
      have h11:decide (wh B≠0)=false:=h11
      rw [bn,hb,h8,h9,h10,h11]
  ·refine ⟨h1,h2,fun _ _=>⟨?_,trivial⟩⟩
   have hb:b9 B=true:=by rw [b9,h1,h2];try rfl
   show [bn B least]= [_]
   rw [bn,hb]
  ·refine ⟨h1,fun _=>⟨?_,trivial⟩⟩
   have hb:b9 B=true:=by rw [b9,h1];try rfl
   show [bn B least]= [_]
   rw [bn,hb]
 ·have hw:pO B=0:=by rw [pO,h0]
  refine ⟨fun h1=>⟨fun h2=>⟨h1,h2,fun _ _ hmed=>⟨fun h3=> ?_,fun h3=> ?_⟩⟩,fun h2=> ?_⟩,fun h1=> ?_⟩
  ·refine ⟨h3,?_,trivial⟩
   have hb:b9 B=true:=by rw [b9,h1,h2,h3];try rfl
   show [bn B least]= [_]
   rw [bn,hb]
  ·refine ⟨fun h4=> ?_,fun h4=>⟨fun h5=> ?_,fun h5=>⟨fun h6=> ?_,fun h6=> ?_⟩⟩⟩
   ·refine ⟨h3,h4,fun _=>⟨?_,trivial⟩⟩
    have hb:b9 B=true:=by rw [b9,h1,h2,h3,h4];try rfl
    show [bn B least]= [_]
    rw [bn,hb]
   ·refine ⟨h3,h4,h5,fun _=>⟨?_,trivial⟩⟩
    have hb:b9 B=true:=by rw [b9,h1,h2,h3,h4,h5];try rfl
    show [bn B least]= [_]
    rw [bn,hb]
   ·refine ⟨h3,h4,h5,h6,fun _ _=>⟨?_,trivial⟩⟩
    have hb:b9 B=true:=by rw [b9,h1,h2,h3,h4,h5,hw,h6];try rfl
    show [bn B least]= [_]
    rw [bn,hb]
   ·refine ⟨h3,h4,h5,h6,fun _ _=>⟨fun h7=> ?_,fun h7=> ?_⟩⟩
    ·refine ⟨?_,trivial⟩
     have hb:b9 B=true:=by rw [b9,h1,h2,h3,h4,h5,hw,h6,h7];try rfl
     show [bn B least]= [_]
     rw [bn,hb]
    ·have hb:b9 B=false:=by rw [b9,h1,h2,h3,h4,h5,hw,h6,h7];rfl
     have hs:kN B=true:=by simpa using h7
     have hv:=MU hs
     refine ⟨fun h8=> ?_,fun h8=> ?_⟩
     ·refine ⟨?_,trivial⟩
      show [bn B least]= [_]
      rw [bn,hb,h8]
     have v0:0≤B.version:=by omega
     have hm:(Ci B).flatten.length≤8388000:=by
      show ([UInt8.ofNat 1,vB B]++(B.medium++ [])).length≤8388000
      have:B.medium.length=32:=by have:=of_decide_eq_true (show decide ((B.medium.length:Int)=32)=true by simpa using h3);omega
      simp [this]
     refine ⟨v0,hm,fun h9=> ?_,fun h9=>⟨h9,fun h10=> ?_,fun h10=> ?_⟩⟩
     ·refine ⟨h9,?_,trivial⟩
      show [bn B least]= [_]
      have h9:decide (oF B≠0)=true:=h9
      rw [bn,hb,h8,h9];rfl
     ·refine ⟨?_,trivial⟩
      show [bn B least]= [_]
      have h9:decide (oF B≠0)=false:=h9
      rw [bn,hb,h8,h9,h10];rfl
     have k0:0≤B.kemId∧B.kem.length=1184:=by
      have:¬B.version=1:=of_decide_eq_false h10
      omega
     have hk:(uw B).flatten.length≤8388000:=by
      show ([UInt8.ofNat 2,vB B]++(Kf B.kemId++([xw B.last]++(B.kem++ [])))).length≤8388000
      have:(Kf B.kemId).length≤4:=by rw [Kf,List.length_take];omega
      simp [k0.2];omega
     have h9:decide (oF B≠0)=false:=h9
     refine ⟨⟨v0,k0.1⟩,hk,fun h11=> ?_,fun h11=> ?_⟩
     ·refine ⟨?_,trivial⟩
      show [bn B least]= [_]
      have h11:decide (wh B≠0)=true:=h11
      rw [bn,hb,h8,h9,h10,h11];rfl
     ·refine ⟨?_,trivial⟩
      show [bn B least]= [_]
      have h11:decide (wh B≠0)=false:=h11
      rw [bn,hb,h8,h9,h10,h11]
  ·refine ⟨h1,h2,fun _ _=>⟨?_,trivial⟩⟩
   have hb:b9 B=true:=by rw [b9,h1,h2];try rfl
   show [bn B least]= [_]
   rw [bn,hb]
  ·refine ⟨h1,fun _=>⟨?_,trivial⟩⟩
   have hb:b9 B=true:=by rw [b9,h1];try rfl
   show [bn B least]= [_]
   rw [bn,hb]
def FP:GF:=fun l=>match l with
 | [.agg [.ro .u8 a,.ro .u8 b,.ro .u8 c,.ro .u8 d,.ob .int e,.ro .u8 f,.ob .int g,.ro .u8 h,.ro .u8 i,.ob .bool j,.ob .int k],.one (.ob .int n)]=>some ⟨[.one (.ob .int (bn ⟨a,b,c,d,e,f,g,h,i,j,k⟩ n))],[],none⟩
 |_=>none
theorem zM:ab 16 (aq FP):=af aF SD Tryz.func16 (by kernel_rfl) rfl (rs:= [.tmp 4]) Tryz.results16 fun l g h hp=>by
 unfold FP at h
 split at h
 ·cases h;exact ⟨Nat.le_of_ble_eq_true rfl,rfl,rfl,rfl,Pw ⟨_,_,_,_,_,_,_,_,_,_,_⟩ _⟩
 ·cases h
set_option maxRecDepth 10000
set_option linter.unusedVariables false
theorem TK {c n:Int} (hc:0≤c) (h0:0≤n):0≤c+n:=by omega
def GO (n:Int):List UInt8:= [[UInt8.ofNat 112,UInt8.ofNat 97,UInt8.ofNat 114,UInt8.ofNat 116],tt (UInt64.ofNat n.toNat) 4 4].flatten
def dH (seed:List UInt8) (n:Int):List UInt8:=AF (lh [] seed) (GO n) 2
def dz (seed:List UInt8) (n:Int):List UInt8×List UInt8:=((dH seed (200+n)).take 32,((dH seed (200+n)).drop 32).take 32)
def bB (seed:List UInt8):List UInt8:=(dH seed 0).take 32
def mU (seed:List UInt8):List UInt8:=(dH seed 1).take 32
def mV (seed:List UInt8):List UInt8:=(dH seed 2).take 32
def MJ (seed:List UInt8) (n:Int):List UInt8:=(dH seed (100+n)).take 32
def gg (s:List UInt8):List UInt8:=aV 32 (dP s [9]).val
def Cj (v:Int) (m:List UInt8):List UInt8:= [[UInt8.ofNat 1,UInt8.ofNat v.toNat],m].flatten
def yC (v n:Int) (l:Bool) (m:List UInt8):List UInt8:= [[UInt8.ofNat 2,UInt8.ofNat v.toNat],tt (UInt64.ofNat n.toNat) 4 4,[xw l],m].flatten
theorem CA {n:Int} (h0:0≤n) (h1:n<4294967296):jc n=GO n:=by
 rw [jc,GO,wP,ED,Jd,UInt32.toNat_ofNat',UInt64.toNat_ofNat',Nat.mod_eq_of_lt (show n.toNat<2^32 by omega),Nat.mod_eq_of_lt (show n.toNat<2^64 by omega)]
theorem fm (seed:List UInt8) {n:Int} (h0:0≤n) (h1:n<4294967296):aT seed n=dH seed n:=by
 rw [aT,F3,CA h0 h1]
 exact List.take_of_length_le (by rw [jC];decide)
set_option maxRecDepth 10000
def BH:List (Nat×CF):=(57,gB uj)::(64,gB rl)::(61,aq yo)::pR
theorem wE:∀p∈BH,ab p.1 p.2:=ae n9<|ae sG<|ae wq D9
theorem Mm:ap am (ah BH):=az aj (aR wE)
set_option maxHeartbeats 4000000 in
set_option maxHeartbeats 4000000 in
set_option maxHeartbeats 4000000 in
theorem Bz (seed:List UInt8) (v:Int) (o k:List Bool) (a:Nat) (S P I M:List UInt8):vc am (ah BH) Tryz.f58.ntmps (ag Tryz.f58) ⟨al 0 [.one (.ptr 1000 0)],aK 1000 (fD seed v o k a S P I M),2000⟩ (br am Tryz.f58.ntmps [.tmp 2] [.one (.ob .bool false)] [] (fD seed v o k a S P I M) []):=by
 exact ⟨rfl,trivial⟩
def xD:fb:=fun l cs=>match l,cs with
 | [.one (.ptr 1000 0)],[.blk 84 [.rw 1001,.ob .int v,.ptr 1002 0,.sub 1003 0 32,.sub 1004 0 32,.rw 1005,.rw 1006],.row 5 .u8 seed,.blk 157 [.ob (.x 2) a,.sub 1007 32 32,.rw 1008],.row 5 .u8 I,.row 5 .u8 M,.row 4 .bool o,.row 4 .bool k,.row 5 .u8 S,.row 5 .u8 P]=>some ⟨[.one (.ob .bool false)],[],[],none⟩
 |_,_=>none
set_option maxHeartbeats 4000000 in
theorem tx:ab 58 (gB xD):=aQ aj Mm Tryz.func58 (by kernel_rfl) rfl (rs:= [.tmp 2]) Tryz.results58 fun l cs g h hp=>by
 unfold xD at h
 split at h
 ·cases h
  exact ⟨Nat.le_of_ble_eq_true rfl,rfl,rfl,rfl,Bz _ _ _ _ _ _ _ _ _⟩
 ·cases h
def IR:List (Nat×CF):=(58,gB xD)::BH
theorem M9:∀p∈IR,ab p.1 p.2:=ae tx wE
theorem Mn:ap am (ah IR):=az aj (aR M9)
set_option maxHeartbeats 4000000 in
theorem Dn (seed:List UInt8) (v:Int) (o k:List Bool) (a:Nat) (S P I M:List UInt8) (hP:P.length≤16777216):vc am (ah IR) Tryz.f22.ntmps (ag Tryz.f22) ⟨al 0 [.one (.ptr 1000 0)],aK 1000 (fD seed v o k a S P I M),2000⟩ (br am Tryz.f22.ntmps [.tmp 2,.tmp 3] [.one (.rw 0),.one (.rw 1)] [(0,.row 5 .u8 P),(1,.row 5 .u8 (aV 32 (dP (I.take 32) [9]).val))] (fD seed v o k a S P I M) []):=by
 refine ⟨fun h=> ?_,fun _=> ?_⟩
 ·cases h
 exact ⟨hP,rfl,rfl,trivial⟩
def mA:fb:=fun l cs=>match l,cs with
 | [.one (.ptr 1000 0)],[.blk 84 [.rw 1001,.ob .int v,.ptr 1002 0,.sub 1003 0 32,.sub 1004 0 32,.rw 1005,.rw 1006],.row 5 .u8 seed,.blk 157 [.ob (.x 2) a,.sub 1007 32 32,.rw 1008],.row 5 .u8 I,.row 5 .u8 M,.row 4 .bool o,.row 4 .bool k,.row 5 .u8 S,.row 5 .u8 P]=>some ⟨[.one (.rw 0),.one (.rw 1)],[(0,.row 5 .u8 P),(1,.row 5 .u8 (aV 32 (dP (I.take 32) [9]).val))],[],some (P.length≤16777216)⟩
 |_,_=>none
set_option maxHeartbeats 4000000 in
theorem n8:ab 22 (gB mA):=aQ aj Mn Tryz.func22 (by kernel_rfl) rfl (rs:= [.tmp 2,.tmp 3]) Tryz.results22 fun l cs g h hp=>by
 unfold mA at h
 split at h
 ·cases h
  exact ⟨Nat.le_of_ble_eq_true rfl,rfl,rfl,rfl,Dn _ _ _ _ _ _ _ _ _ hp⟩
 ·cases h
set_option maxHeartbeats 4000000 in
theorem Lu (seed:List UInt8) (v:Int) (o k:List Bool) (a:Nat) (S P I M:List UInt8) (n:Int) (hs:seed.length≤65536) (hn:0≤n∧n≤1000000):vc am (ah IR) Tryz.f62.ntmps (ag Tryz.f62) ⟨al 0 [.one (.ptr 1000 0),.one (.ob .int n)],aK 1000 (fD seed v o k a S P I M),2000⟩ (br am Tryz.f62.ntmps [.tmp 4] [.one (.sub 0 0 32)] [(0,.row 5 .u8 (aT seed (100+n)))] (fD seed v o k a S P I M) []):=by
 exact ⟨⟨by omega,by omega⟩,⟨hs,TK (by decide) hn.1⟩,rfl,rfl,rfl,trivial⟩
def xF:fb:=fun l cs=>match l,cs with
 | [.one (.ptr 1000 0),.one (.ob .int n)],[.blk 84 [.rw 1001,.ob .int v,.ptr 1002 0,.sub 1003 0 32,.sub 1004 0 32,.rw 1005,.rw 1006],.row 5 .u8 seed,.blk 157 [.ob (.x 2) a,.sub 1007 32 32,.rw 1008],.row 5 .u8 I,.row 5 .u8 M,.row 4 .bool o,.row 4 .bool k,.row 5 .u8 S,.row 5 .u8 P]=>some ⟨[.one (.sub 0 0 32)],[(0,.row 5 .u8 (aT seed (100+n)))],[],some (seed.length≤65536∧0≤n∧n≤1000000)⟩
 |_,_=>none
set_option maxHeartbeats 4000000 in
theorem tz:ab 62 (gB xF):=aQ aj Mn Tryz.func62 (by kernel_rfl) rfl (rs:= [.tmp 4]) Tryz.results62 fun l cs g h hp=>by
 unfold xF at h
 split at h
 ·cases h
  exact ⟨Nat.le_of_ble_eq_true rfl,rfl,rfl,rfl,Lu _ _ _ _ _ _ _ _ _ _ hp.1 hp.2⟩
 ·cases h
set_option maxRecDepth 10000
set_option linter.unusedVariables false
set_option maxRecDepth 10000
set_option linter.unusedVariables false
def KD (seed:List UInt8) (n:Int):List UInt8:=match decide (0<n) with |true=>gg (MJ seed n)|false=> []
def Cb (v n:Int):Int:=match decide (v=2) with |true=>n|false=>0
def Cd (v n:Int):Bool:=match decide (v=2) with |true=>decide (n=0)|false=>false
def Bn.rv (B:Bn):AV:= .agg [.rw 0,.rw 1,.rw 2,.rw 3,.ob .int B.onceId,.rw 4,.ob .int B.kemId,.rw 5,.rw 6,.ob .bool B.last,.ob .int B.version]
def Bn.us (B:Bn):List (Nat×Ch):= [(0,.row 5 .u8 B.sign),(1,.row 5 .u8 B.ident),(2,.row 5 .u8 B.medium),(3,.row 5 .u8 B.medsig),(4,.row 5 .u8 B.once),(5,.row 5 .u8 B.kem),(6,.row 5 .u8 B.kemsig)]
theorem nV (s:List UInt8):(gg s).length=32:=ar _ _
theorem uy (v n:Int) (l:Bool) (m:List UInt8):(yC v n l m).length=m.length+7:=by rw [yC];simp [tu];omega
set_option maxRecDepth 10000
theorem QE:ap am (ah []):=az aj (aR fun p hp=>by cases hp)
def ja (x:UInt32):UInt16:=(x%UInt32.ofNat 3329).toUInt16
theorem ic (x:UInt32):ja x=UInt16.ofNat (x.toNat%3329):=by
 apply UInt16.toNat_inj.1
 rw [ja,UInt32.toNat_toUInt16,UInt32.toNat_mod,UInt16.toNat_ofNat']
 rfl
theorem LE (x:UInt32):vc am (ah []) Tryz.f244.ntmps (ag Tryz.f244) ⟨al 0 [.one (.ob .u32 x)],[],2000⟩ (aD am Tryz.f244.ntmps [.tmp 2] [.one (.ob .u16 (ja x))] []):=⟨by decide,rfl,trivial⟩
def xU:GF:=fun l=>match l with
 | [.one (.ob .u32 x)]=>some ⟨[.one (.ob .u16 (ja x))],[],none⟩
 |_=>none
theorem uL:ab 244 (aq xU):=af aj QE Tryz.func244 (by kernel_rfl) rfl (rs:= [.tmp 2]) Tryz.results244 fun l g h hp=>by
 unfold xU at h
 split at h
 ·cases h;exact ⟨Nat.le_of_ble_eq_true rfl,rfl,rfl,rfl,LE _⟩
 ·cases h
def Eh:List (Nat×CF):= [(244,aq xU)]
theorem wG:∀p∈Eh,ab p.1 p.2:=ae uL fun p hp=>by cases hp
theorem QC:ap am (ah Eh):=az aj (aR wG)
abbrev Sr (f g:List UInt16) (i:Nat):UInt16:=UInt16.ofNat ((gu f i+gu g i)%3329)
theorem LL (f g:List UInt16) (hf:f.length=256):vc am (ah Eh) Tryz.f208.ntmps (ag Tryz.f208) ⟨al 0 [.agg [.vec .u16 256 f],.agg [.vec .u16 256 g]],[],2000⟩ (aD am Tryz.f208.ntmps [.cell 4 141] [.agg [.vec .u16 256 (ou f g)]] []):=by
 refine Or.inr ⟨{i:Nat // i≤256},fun i=>⟨[(6,.one (.ob .int (i.val:Int)))],[(2000,.blk 141 [.vec .u16 256 (bx 0 256 (Sr f g) f i.val)])]⟩,fun i=>256-i.val,⟨0,by omega⟩,?_⟩
 refine ⟨rfl,rfl,dl hf,fun i=>⟨fun h1=> ?_,fun h1=> ?_⟩⟩
 ·have h1:=of_decide_eq_true h1
  have hi:=i.2
  repeat refine sd ?_
  refine sj ⟨i.val+1,by omega⟩<|sr<|sr ⟨?_,trivial⟩
  refine ((congrArg (fun z=>(bx 0 256 (Sr f g) f i.val).set i.val z) ?_).trans bq).symm
  show ja (UInt16.toUInt32 ((bx 0 256 (Sr f g) f i.val).getD i.val 0)+UInt16.toUInt32 (g.getD i.val 0))=Sr f g i.val
  have a1:=(f.getD i.val 0).toNat_lt
  have a2:=(g.getD i.val 0).toNat_lt
  rw [ce (by omega),if_neg (by omega),ic,UInt32.toNat_add,UInt16.toNat_toUInt32,UInt16.toNat_toUInt32,Nat.mod_eq_of_lt (show (f.getD i.val 0).toNat+(g.getD i.val 0).toNat<2^32 by omega)]
  rfl
 have h1:=of_decide_eq_false h1
 have hi:=i.2
 rw [show i.val=256 by omega,b7 (by omega)]
 exact ⟨rfl,rfl,trivial⟩
def rg:GF:=fun l=>match l with
 | [.agg [.vec .u16 256 f],.agg [.vec .u16 256 g]]=>some ⟨[.agg [.vec .u16 256 (ou f g)]],[],some (f.length=256)⟩
 |_=>none
theorem k_:ab 208 (aq rg):=af aj QC Tryz.func208 (by kernel_rfl) rfl (rs:= [.cell 4 141]) Tryz.results208 fun l g h hp=>by
 unfold rg at h
 split at h
 ·cases h;exact ⟨Nat.le_of_ble_eq_true rfl,rfl,rfl,rfl,LL _ _ hp⟩
 ·cases h
theorem zK (k:Nat) (hk:k<128):vc am (ah []) Tryz.f260.ntmps (ag Tryz.f260) ⟨al 0 [.one (.ob .int (k:Int))],[],2000⟩ (aD am Tryz.f260.ntmps [.tmp 2] [.one (.ob .int (cm k 7:Int))] []):=by
 refine Or.inr ⟨{i:Nat // i≤7},fun i=>⟨[(3,.one (.ob .int (i.val:Int))),(2,.one (.ob .int (cm k i.val:Int))),(0,.one (.ob .int ((k/2^i.val:Nat):Int)))],[]⟩,fun i=>7-i.val,⟨0,by omega⟩,?_⟩
 refine ⟨rfl,rfl,by show [((k/2^0:Nat):Int)]= [(k:Int)];simp,fun i=>⟨fun h1=> ?_,fun h1=> ?_⟩⟩
 ·have h1:=of_decide_eq_true h1
  have hi:=i.2
  have hr:=lO k i.val
  have h2:2^i.val≤2^7:=Nat.pow_le_pow_right (by omega) hi
  have e1:(cm k i.val:Int)*((2^(Nm.u64 (UInt64.ofNat 1)).toInt.toNat:Nat):Int)=((cm k i.val*2:Nat):Int):=by
   show _*((2^1:Nat):Int)=_
   omega
  have e3:k/2^i.val≤k:=Nat.div_le_self _ _
  have e5:=Int.natCast_nonneg (k/2^i.val)
  have e4:k/2^i.val&&&1≤1:=Nat.and_le_right
  refine ⟨by rw [e1];exact ⟨by decide,by decide,by omega,by omega⟩,⟨⟨⟨by omega,by omega⟩,by omega⟩,⟨by decide,by decide⟩,by decide⟩,?_,⟨by decide,by decide⟩,⟨by omega,by omega⟩,⟨i.val+1,by omega⟩,?_,rfl,?_,?_,trivial⟩
  ·rw [e1,Int.toNat_natCast,show Int.toNat 1=1 from rfl];exact ⟨⟨⟨by omega,by omega⟩,by omega⟩,⟨by omega,by omega⟩,by omega⟩
  ·show 7-(i.val+1)<7-i.val;omega
  ·show [((cm k i.val*2|||(k/2^i.val&&&1):Nat):Int)]= [((((cm k i.val:Int)*((2^(Nm.u64 (UInt64.ofNat 1)).toInt.toNat:Nat):Int)).toNat|||((((k/2^i.val:Nat):Int).toNat&&&Int.toNat 1:Nat):Int).toNat:Nat):Int)]
   rw [e1];rfl
  ·show [((k/2^(i.val+1):Nat):Int)]= [((k/2^i.val:Nat):Int)/((2^1:Nat):Int)]
   rw [Nat.pow_succ,←Nat.div_div_eq_div_mul];rfl
 have h1:=of_decide_eq_false h1
 have hi:=i.2
 rw [show i.val=7 by omega]
 exact ⟨rfl,trivial⟩
def kr:GF:=fun l=>match l with
 | [.one (.ob .int k)]=>some ⟨[.one (.ob .int (cm k.toNat 7:Int))],[],some (DH 0 k 127)⟩
 |_=>none
theorem nH:ab 260 (aq kr):=af aj QE Tryz.func260 (by kernel_rfl) rfl (rs:= [.tmp 2]) Tryz.results260 fun l g h hp=>by
 unfold kr at h
 split at h
 ·rename_i a
  cases h
  obtain ⟨h2,h3⟩:=hp
  obtain ⟨a,rfl⟩:=Int.eq_ofNat_of_zero_le h2
  exact ⟨Nat.le_of_ble_eq_true rfl,rfl,rfl,rfl,zK _ (by omega)⟩
 ·cases h
def IV:List (Nat×CF):=(208,aq rg)::(260,aq kr)::Eh
theorem Ei:∀p∈IV,ab p.1 p.2:=ae k_<|ae nH wG
theorem QD:ap am (ah IV):=az aj (aR Ei)
def zV (i:Nat):UInt32:=UInt32.ofNat (aX i)
def zS:List UInt32:=(List.range 128).map fun i=>zV (cm i 7)
abbrev zP (i:Nat):List UInt32:=bx 0 128 zV (List.replicate 128 0) i
set_option maxHeartbeats 1000000 in
theorem L0:vc am (ah IV) Tryz.f243.ntmps (ag Tryz.f243) ⟨al 0 [],[],2000⟩ (aD am Tryz.f243.ntmps [.cell 0 251] [.agg [.vec .u32 128 zS]] []):=by
 refine Or.inr ⟨{i:Nat // 1≤i∧i≤128},fun i=>⟨[(2,.one (.ob .int (i.val:Int)))],[(2016,.blk 251 [.vec .u32 128 (zP i.val)])]⟩,fun i=>128-i.val,⟨1,by omega⟩,?_⟩
 refine ⟨rfl,rfl,by show zP 1=(List.replicate 128 0).set 0 (UInt32.ofNat 1);decide +kernel,fun i=>⟨fun h1=> ?_,fun h1=> ?_⟩⟩
 ·have h1:=of_decide_eq_true h1
  have hi:=i.2
  repeat refine sd ?_
  refine ⟨by decide,?_⟩
  repeat refine sd ?_
  refine sj ⟨i.val+1,by omega⟩<|sr<|sr ⟨?_,trivial⟩
  refine ((congrArg (fun z=>(zP i.val).set i.val z) ?_).trans bq).symm
  show (zP i.val).getD ((i.val:Int)-1).toNat 0*UInt32.ofNat 17%UInt32.ofNat 3329=zV i.val
  obtain ⟨j,hj⟩:∃j,i.val=j+1:=⟨i.val-1,by omega⟩
  have hz:=fC j
  rw [hj,show (((j+1:Nat):Int)-1).toNat=j by omega,ce (by omega),if_pos (by omega)]
  apply UInt32.toNat_inj.1
  rw [UInt32.toNat_mod,UInt32.toNat_mul,zV,zV,UInt32.toNat_ofNat',UInt32.toNat_ofNat',UInt32.toNat_ofNat',UInt32.toNat_ofNat',aX,show 17%2^32=17 from rfl,show 3329%2^32=3329 from rfl,Nat.mod_eq_of_lt (show aX j<2^32 by omega),Nat.mod_eq_of_lt (show aX j*17<2^32 by omega),Nat.mod_eq_of_lt (show aX j*17%3329<2^32 by omega)]
 have h1:=of_decide_eq_false h1
 have hi:=i.2
 rw [show i.val=128 by omega,show zP 128=(List.range 128).map zV from b7 (by omega)]
 refine Or.inr ⟨{i:Nat // i≤128},fun i=>⟨[(17,.one (.ob .int (i.val:Int)))],[(2000,.blk 251 [.vec .u32 128 (bx 0 128 (fun i=>zV (cm i 7)) (List.replicate 128 0) i.val)])]⟩,fun i=>128-i.val,⟨0,by omega⟩,?_⟩
 refine ⟨rfl,rfl,dl (by simp),fun i=>⟨fun h1=> ?_,fun h1=> ?_⟩⟩
 ·have h1:=of_decide_eq_true h1
  have hi:=i.2
  have hr:cm (i.val:Int).toNat 7<2^7:=lO _ _
  have hr2:cm i.val 7<2^7:=lO _ _
  refine ⟨⟨by omega,by omega⟩,?_⟩
  repeat refine sd ?_
  refine sj ⟨i.val+1,by omega⟩<|sr<|sr ⟨?_,trivial⟩
  refine ((congrArg (fun z=>(bx 0 128 (fun i=>zV (cm i 7)) (List.replicate 128 0) i.val).set i.val z) ?_).trans bq).symm
  show ((List.range 128).map zV).getD (cm i.val 7:Int).toNat 0=zV (cm i.val 7)
  rw [Int.toNat_natCast,aZ (by omega)]
 have h1:=of_decide_eq_false h1
 have hi:=i.2
 rw [show i.val=128 by omega,b7 (by omega)]
 exact ⟨rfl,rfl,trivial⟩
def yr:GF:=fun l=>match l with
 | []=>some ⟨[.agg [.vec .u32 128 zS]],[],none⟩
 |_=>none
theorem ww:ab 243 (aq yr):=af aj QD Tryz.func243 (by kernel_rfl) rfl (rs:= [.cell 0 251]) Tryz.results243 fun l g h hp=>by
 unfold yr at h
 split at h
 ·cases h;exact ⟨Nat.le_of_ble_eq_true rfl,rfl,rfl,rfl,L0⟩
 ·cases h
theorem Ti {z:Nat} (y:UInt16) (hz:z<3329):z*y.toNat<2^32:=by
 have:=y.toNat_lt
 exact Nat.lt_of_le_of_lt (Nat.mul_le_mul (show z≤3329 by omega) (show y.toNat≤65536 by omega)) (by decide)
theorem Rq {z:Nat} (y:UInt16) (hz:z<3329):(UInt32.ofNat z*y.toUInt32%UInt32.ofNat 3329).toNat=z*y.toNat%3329:=by
 have:=Ti y hz
 rw [UInt32.toNat_mod,UInt32.toNat_mul,UInt32.toNat_ofNat',UInt32.toNat_ofNat',UInt16.toNat_toUInt32,Nat.mod_eq_of_lt (show z<2^32 by omega),Nat.mod_eq_of_lt this]
theorem TZ (x y:UInt16) {z:Nat} (hz:z<3329):ja (x.toUInt32+UInt32.ofNat z*y.toUInt32%UInt32.ofNat 3329)=UInt16.ofNat ((x.toNat%3329+z*y.toNat%3329)%3329):=by
 have h1:=x.toNat_lt
 rw [ic,UInt32.toNat_add,Rq y hz,UInt16.toNat_toUInt32]
 congr 1
 generalize z*y.toNat=c
 omega
theorem T0 (x y:UInt16) {z:Nat} (hz:z<3329):ja (x.toUInt32+UInt32.ofNat 3329-UInt32.ofNat z*y.toUInt32%UInt32.ofNat 3329)=UInt16.ofNat ((x.toNat%3329+3329-z*y.toNat%3329)%3329):=by
 have h1:=x.toNat_lt
 rw [ic,UInt32.toNat_sub,UInt32.toNat_add,Rq y hz,UInt16.toNat_toUInt32,UInt32.toNat_ofNat']
 congr 1
 generalize z*y.toNat=c
 omega
def Ej:List (Nat×CF):=(243,aq yr)::IV
theorem Ni:∀p∈Ej,ab p.1 p.2:=ae ww Ei
theorem Er:ap am (ah Ej):=az aj (aR Ni)
def eC (f:List UInt16):List UInt16:=ou f (List.replicate 256 0)
theorem jL (f g:List UInt16):(ou f g).length=256:=by simp [ou]
theorem BC {i:Nat} (h:i<128):zS.getD i 0=UInt32.ofNat (aX (cm i 7)):=aZ h
set_option maxHeartbeats 4000000 in
theorem LO (f:List UInt16) (hf:f.length=256):vc am (ah Ej) Tryz.f207.ntmps (ag Tryz.f207) ⟨al 0 [.agg [.vec .u16 256 f]],[],2000⟩ (aD am Tryz.f207.ntmps [.cell 2 141] [.agg [.vec .u16 256 (ni (eC f) 7)]] []):=by
 refine ⟨hf,?_⟩
 refine Or.inr ⟨{m:Nat // m≤7},fun m=>⟨[(5,.one (.ob .int ((128/2^m.val:Nat):Int))),(4,.one (.ob .int ((2^m.val:Nat):Int)))],[(2000,.blk 141 [.vec .u16 256 (ni (eC f) m.val)])]⟩,fun m=>7-m.val,⟨0,by omega⟩,?_⟩
 refine ⟨by show [((128/2^0:Nat):Int)]= [128];decide,by show [((2^0:Nat):Int)]= [1];decide,rfl,rfl,fun m=>⟨fun h1=> ?_,fun h1=> ?_⟩⟩
 ·have h1:=of_decide_eq_true h1
  have hm:=m.2
  have hm7:m.val<7:=by
   rcases Nat.lt_or_ge m.val 7 with h|h
   ·exact h
   ·rw [show m.val=7 by omega] at h1;simp at h1
  have hF:ni (eC f) (m.val+1)=oo (ni (eC f) m.val) (128/2^m.val) (2^m.val) (2^m.val):=rfl
  have hq:=(Sq m.val 0 hm7).2.2
  have hc:=fun c=>And.intro (Sq m.val c hm7).1 (Sq m.val c hm7).2.1
  revert hF
  generalize ni (eC f) m.val=F
  intro hF
  have hK0:0<2^m.val:=Nat.two_pow_pos _
  generalize 128/2^m.val=n at h1 hq hc hF ⊢
  generalize 2^m.val=K at hq hc hF hK0 ⊢
  obtain ⟨q1,q2,q3,q4,q5⟩:=hq
  refine Or.inr ⟨{c:Nat // c≤K},fun c=>⟨[(6,.one (.ob .int ((2*n*c.val:Nat):Int))),(4,.one (.ob .int ((K+c.val:Nat):Int)))],[(2000,.blk 141 [.vec .u16 256 (oo F n K c.val)])]⟩,fun c=>K-c.val,⟨0,Nat.zero_le _⟩,?_⟩
  refine ⟨rfl,rfl,rfl,rfl,fun c=>⟨fun h2=> ?_,fun h2=> ?_⟩⟩
  ·have h2:=of_decide_eq_true h2
   have hcc:=c.2
   obtain ⟨h3,h4⟩:=(hc c.val).1 (by omega)
   have hG:oo F n K (c.val+1)=gr (oo F n K c.val) (aX (cm (K+c.val) 7)) n (2*n*c.val) n:=rfl
   have hst:2*n*(c.val+1)=2*n*c.val+2*n:=Nat.mul_succ _ _
   revert hG
   generalize oo F n K c.val=G
   generalize 2*n*c.val=st at h2 h4 hst ⊢
   intro hG
   have hKc:K+c.val<128:=by omega
   repeat refine sd ?_
   refine Or.inr ⟨{i:Nat // i≤n},fun i=>⟨[(7,.one (.ob .int ((st+i.val:Nat):Int)))],[(2000,.blk 141 [.vec .u16 256 (gr G (aX (cm (K+c.val) 7)) n st i.val)])]⟩,fun i=>n-i.val,⟨0,Nat.zero_le _⟩,?_⟩
   refine ⟨rfl,rfl,rfl,fun i=>sd ⟨fun h5=> ?_,fun h5=> ?_⟩⟩
   ·have h5:=of_decide_eq_true h5
    have hi:=i.2
    have hJ:gr G (aX (cm (K+c.val) 7)) n st (i.val+1)=((gr G (aX (cm (K+c.val) 7)) n st i.val).set (st+i.val+n) (UInt16.ofNat ((gu (gr G (aX (cm (K+c.val) 7)) n st i.val) (st+i.val)%3329+3329-aX (cm (K+c.val) 7)*gu (gr G (aX (cm (K+c.val) 7)) n st i.val) (st+i.val+n)%3329)%3329))).set (st+i.val) (UInt16.ofNat ((gu (gr G (aX (cm (K+c.val) 7)) n st i.val) (st+i.val)%3329+aX (cm (K+c.val) 7)*gu (gr G (aX (cm (K+c.val) 7)) n st i.val) (st+i.val+n)%3329)%3329)):=rfl
    revert hJ
    generalize gr G (aX (cm (K+c.val) 7)) n st i.val=J
    intro hJ
    have hz:=fC (cm (K+c.val) 7)
    have e1:(((st+i.val:Nat):Int)+(n:Int)).toNat=st+i.val+n:=by omega
    repeat refine sd ?_
    refine ⟨by decide,?_⟩
    repeat refine sd ?_
    refine sj ⟨i.val+1,by omega⟩<|sr<|sr ⟨?_,trivial⟩
    show gr G (aX (cm (K+c.val) 7)) n st (i.val+1)=(J.set ((st+i.val:Nat):Int).toNat (ja (UInt16.toUInt32 (J.getD ((st+i.val:Nat):Int).toNat 0)+zS.getD ((K+c.val:Nat):Int).toNat 0*UInt16.toUInt32 (J.getD (((st+i.val:Nat):Int)+(n:Int)).toNat 0)%UInt32.ofNat 3329))).set (((st+i.val:Nat):Int)+(n:Int)).toNat (ja (UInt16.toUInt32 (J.getD ((st+i.val:Nat):Int).toNat 0)+UInt32.ofNat 3329-zS.getD ((K+c.val:Nat):Int).toNat 0*UInt16.toUInt32 (J.getD (((st+i.val:Nat):Int)+(n:Int)).toNat 0)%UInt32.ofNat 3329))
    rw [hJ,e1,Int.toNat_natCast,Int.toNat_natCast,BC hKc,TZ _ _ hz,T0 _ _ hz,List.set_comm _ _ (show st+i.val≠st+i.val+n by omega)]
    rfl
   have h5:=of_decide_eq_false h5
   have hi:=i.2
   repeat refine sd ?_
   refine sj ⟨c.val+1,h3⟩ ⟨congrArg (fun z:Int=> [z]) ?_,rfl,rfl,?_,trivial⟩
   ·show ((2*n*(c.val+1):Nat):Int)=(st:Int)+2*(n:Int)
    omega
   ·show oo F n K (c.val+1)=_
    rw [hG,show i.val=n by omega]
  have h2:=of_decide_eq_false h2
  have hcc:=c.2
  have h3:=(hc c.val).2 (by omega)
  repeat refine sd ?_
  refine sj ⟨m.val+1,by omega⟩ ⟨congrArg (fun z:Int=> [z]) ?_,congrArg (fun z:Int=> [z]) ?_,rfl,?_,trivial⟩
  ·show ((128/2^(m.val+1):Nat):Int)=(n:Int)/2
   rw [q4];rfl
  ·show ((2^(m.val+1):Nat):Int)=((K+c.val:Nat):Int)
   rw [q5,show c.val=K by omega]
  ·show ni (eC f) (m.val+1)=_
   rw [hF,show c.val=K by omega]
 have h1:=of_decide_eq_false h1
 have hm:=m.2
 have hm7:m.val=7:=by
  rcases Nat.lt_or_ge m.val 7 with h|h
  ·have:=(Sq m.val 0 h).2.2.1;omega
  ·omega
 rw [hm7]
 exact ⟨rfl,rfl,trivial⟩
def yd:GF:=fun l=>match l with
 | [.agg [.vec .u16 256 f]]=>some ⟨[.agg [.vec .u16 256 (ni (eC f) 7)]],[],some (f.length=256)⟩
 |_=>none
theorem vI:ab 207 (aq yd):=af aj Er Tryz.func207 (by kernel_rfl) rfl (rs:= [.cell 2 141]) Tryz.results207 fun l g h hp=>by
 unfold yd at h
 split at h
 ·cases h;exact ⟨Nat.le_of_ble_eq_true rfl,rfl,rfl,rfl,LO _ hp⟩
 ·cases h
def wb (x:UInt64) (i:Nat):Bool:=x.toNat.testBit i
theorem ew {x y:UInt64} (h:∀i,i<64→wb x i=wb y i):x=y:=by
 apply UInt64.toNat_inj.1
 apply Nat.eq_of_testBit_eq
 intro i
 rcases Nat.lt_or_ge i 64 with hi|hi
 ·exact h i hi
 ·have e:∀z:UInt64,z.toNat.testBit i=false:=fun z=>Nat.testBit_lt_two_pow (Nat.lt_of_lt_of_le z.toNat_lt (Nat.pow_le_pow_right (by omega) hi))
  rw [e,e]
theorem ge (x y:UInt64) (i:Nat):wb (x^^^y) i=(wb x i ^^ wb y i):=by
 unfold wb;rw [UInt64.toNat_xor,Nat.testBit_xor]
theorem PD (x y:UInt64) (i:Nat):wb (x&&&y) i=(wb x i&&wb y i):=by
 unfold wb;rw [UInt64.toNat_and,Nat.testBit_and]
theorem R4 (x y:UInt64) (i:Nat):wb (x|||y) i=(wb x i||wb y i):=by
 unfold wb;rw [UInt64.toNat_or,Nat.testBit_or]
theorem Iu (x:UInt64) {i:Nat} (hi:i<64):wb (~~~x) i= !wb x i:=by
 unfold wb
 rw [UInt64.toNat_not,show UInt64.size-1-x.toNat=2^64-(x.toNat+1) by simp [UInt64.size],Nat.testBit_two_pow_sub_succ x.toNat_lt]
 simp [hi]
abbrev rk (x:UInt64) (n:Nat):UInt64:=j3 x n|||iI x (64-n)
theorem Iv (x:UInt64) {n i:Nat} (hn:0<n∧n<64) (hi:i<64):wb (rk x n) i=wb x ((i+64-n)%64):=by
 rw [R4]
 unfold wb j3 iI
 rw [UInt64.toNat_ofNat',UInt64.toNat_ofNat',Nat.testBit_mod_two_pow,Nat.testBit_mod_two_pow,Nat.testBit_mul_two_pow,Nat.testBit_div_two_pow]
 rcases Nat.lt_or_ge i n with h|h
 ·rw [show (i+64-n)%64=i+(64-n) by omega]
  simp [hi,Nat.not_le.2 h]
 ·rw [show (i+64-n)%64=i-n by omega,Nat.testBit_lt_two_pow (x:=x.toNat) (i:=i+(64-n)) (Nat.lt_of_lt_of_le x.toNat_lt (Nat.pow_le_pow_right (by omega) (by omega)))]
  simp [hi,h]
theorem bt {x y:UInt64} {n:Nat} (hn:0<n∧n<64) (h:rk x n=rk y n):x=y:=ew fun i hi=>by
 have:wb (rk x n) ((i+n)%64)=wb (rk y n) ((i+n)%64):=congrArg (fun z=>wb z ((i+n)%64)) h
 rw [Iv _ hn (Nat.mod_lt _ (by omega)),Iv _ hn (Nat.mod_lt _ (by omega)),show ((i+n)%64+64-n)%64=i by omega] at this
 exact this
def rI (x:UInt64):Nat→UInt64
 |0=>x
 |n+1=>rk (rI x n) 1
theorem wk (x:UInt64) {i:Nat} (hi:i<64):∀n,wb (rI x n) i=wb x ((i+63*n)%64):=fun n=>by
 induction n generalizing i with
 |zero=>rw [show (i+63*0)%64=i by omega];rfl
 |succ n ih=>rw [rI,Iv _ (by omega) hi,ih (Nat.mod_lt _ (by omega))];congr 1;omega
theorem Rw (x:UInt64):rI x 64=x:=ew fun i hi=>by rw [wk x hi,show (i+63*64)%64=i by omega]
theorem GZ (x:UInt64) (n:Nat):∀m,rI (rI x n) m=rI x (n+m)
 |0=>rfl
 |m+1=>by show rk _ 1=rk _ 1;rw [GZ x n m];rfl
theorem G0 (x y:UInt64) (n:Nat):rI (x^^^y) n=rI x n^^^rI y n:=ew fun i hi=>by
 rw [ge,wk _ hi,wk _ hi,wk _ hi,ge]
theorem iA {z:Nat→UInt64} {a b n:Nat} (h:∀x,z x^^^z (x+a)^^^rI (z (x+b)) n=0) (x:Nat):z x^^^z (x+2*a)^^^rI (z (x+2*b)) (2*n)=0:=by
 have h1:=h x
 have h2:=h (x+a)
 have h3:=congrArg (fun u=>rI u n) (h (x+b))
 simp only [G0,GZ] at h3
 have h0:rI 0 n=0:=ew fun i hi=>by rw [wk _ hi];simp [wb]
 rw [h0] at h3
 rw [show x+2*a=x+a+a by omega,show x+2*b=x+b+b by omega,show 2*n=n+n by omega]
 rw [show x+b+a=x+a+b by omega] at h3
 generalize z x=A at*
 generalize z (x+a)=B at*
 generalize rI (z (x+b)) n=C at*
 generalize z (x+a+a)=D at*
 generalize rI (z (x+a+b)) n=E at*
 generalize rI (z (x+b+b)) (n+n)=F at*
 refine ew fun i hi=> ?_
 have g1:=congrArg (fun u=>wb u i) h1
 have g2:=congrArg (fun u=>wb u i) h2
 have g3:=congrArg (fun u=>wb u i) h3
 simp only [ge] at*
 revert g1 g2 g3
 cases wb A i<;>cases wb B i<;>cases wb C i<;>cases wb D i<;>cases wb E i<;>cases wb F i<;>simp [wb]
theorem EJ {z:Nat→UInt64} (hp:∀x,z (x+5)=z x) (h:∀x,z x^^^z (x+4)^^^rI (z (x+1)) 1=0) (x:Nat):z x=0:=by
 have h6:=iA (iA (iA (iA (iA (iA h)))))
 have hq:∀k x,z (x+5*k)=z x:=fun k=>by
  induction k with
  |zero=>intro x;rfl
  |succ k ih=>intro x;rw [show x+5*(k+1)=x+5*k+5 by omega,hp,ih]
 have h7:∀x,z x^^^z (x+1)^^^z (x+4)=0:=fun x=>by
  have:=h6 x
  rw [show 2*(2*(2*(2*(2*(2*1)))))=64 from rfl,Rw,show x+2*(2*(2*(2*(2*(2*4)))))=x+1+5*51 by omega,show x+64=x+4+5*12 by omega,hq,hq] at this
  exact this
 have a0:=h7 x
 have a1:=h7 (x+1)
 have a2:=h7 (x+2)
 have a3:=h7 (x+3)
 have a4:=h7 (x+4)
 rw [show x+1+4=x+5 by omega,hp,show x+1+1=x+2 by omega] at a1
 rw [show x+2+4=x+1+5 by omega,hp,show x+2+1=x+3 by omega] at a2
 rw [show x+3+4=x+2+5 by omega,hp,show x+3+1=x+4 by omega] at a3
 rw [show x+4+1=x+5 by omega,hp,show x+4+4=x+3+5 by omega,hp] at a4
 refine ew fun i hi=> ?_
 have g0:=congrArg (fun u=>wb u i) a0
 have g1:=congrArg (fun u=>wb u i) a1
 have g2:=congrArg (fun u=>wb u i) a2
 have g3:=congrArg (fun u=>wb u i) a3
 have g4:=congrArg (fun u=>wb u i) a4
 simp only [ge] at*
 revert g0 g1 g2 g3 g4
 cases wb (z x) i<;>cases wb (z (x+1)) i<;>cases wb (z (x+2)) i<;>cases wb (z (x+3)) i<;>cases wb (z (x+4)) i<;>simp [wb]
theorem RN {x y:UInt64} (h:x^^^y=0):x=y:=ew fun i hi=>by
 have:=congrArg (fun u=>wb u i) h
 simp only [ge] at this
 rw [show wb 0 i=false by simp [wb]] at this
 revert this
 cases wb x i<;>cases wb y i<;>simp
theorem lD {A B:List UInt64} (hA:A.length=25) (hB:B.length=25) (h:∀k,k<25→ax A k=ax B k):A=B:=by
 apply List.ext_getElem (by rw [hA,hB])
 intro k h1 h2
 have:=h k (by omega)
 unfold ax at this
 rw [List.getD_eq_getElem?_getD,List.getD_eq_getElem?_getD,List.getElem?_eq_getElem h1,List.getElem?_eq_getElem h2] at this
 exact this
theorem nN (A:List UInt64) {k:Nat} (hk:k<25):ax (bS A) k=ax A k^^^kD A (k%5):=by
 unfold bS ax
 simp [List.getD_eq_getElem?_getD,hk]
theorem RI (A:List UInt64) {x:Nat} (hx:x<5):kC (bS A) x=kC A x^^^kD A x:=by
 unfold kC
 rw [nN A (by omega),nN A (by omega),nN A (by omega),nN A (by omega),nN A (by omega),show (x+5)%5=x by omega,show (x+10)%5=x by omega,show (x+15)%5=x by omega,show (x+20)%5=x by omega,Nat.mod_eq_of_lt hx]
 refine ew fun i _=> ?_
 simp only [ge]
 cases wb (ax A x) i<;>cases wb (ax A (x+5)) i<;>cases wb (ax A (x+10)) i<;>cases wb (ax A (x+15)) i<;>cases wb (ax A (x+20)) i<;>cases wb (kD A x) i<;>rfl
theorem De {A B:List UInt64} (hA:A.length=25) (hB:B.length=25) (h:bS A=bS B):A=B:=by
 have hz:∀x,x<5→kC A x=kC B x:=fun x hx=>by
  have:=EJ (z:=fun x=>kC A (x%5)^^^kC B (x%5)) (fun x=>by simp) (fun x=>by
   have e:kC (bS A) (x%5)=kC (bS B) (x%5):=by rw [h]
   rw [RI A (Nat.mod_lt _ (by omega)),RI B (Nat.mod_lt _ (by omega))] at e
   unfold kD at e
   rw [show (x%5+4)%5=(x+4)%5 by omega,show (x%5+1)%5=(x+1)%5 by omega] at e
   refine ew fun i hi=> ?_
   have e:=congrArg (fun u=>wb u i) e
   rw [show rI (kC A ((x+1)%5)^^^kC B ((x+1)%5)) 1=rk (kC A ((x+1)%5)) 1^^^rk (kC B ((x+1)%5)) 1 from G0 _ _ 1]
   simp only [ge,show ∀v,(j3 v 1|||iI v 63)=rk v 1 from fun _=>rfl] at*
   rw [show wb 0 i=false by simp [wb]]
   revert e
   cases wb (kC A (x%5)) i<;>cases wb (kC B (x%5)) i<;>cases wb (kC A ((x+4)%5)) i<;>cases wb (kC B ((x+4)%5)) i<;>cases wb (rk (kC A ((x+1)%5)) 1) i<;>cases wb (rk (kC B ((x+1)%5)) 1) i<;>simp) x
  have:=RN this
  rwa [Nat.mod_eq_of_lt hx] at this
 refine lD hA hB fun k hk=> ?_
 have e:ax (bS A) k=ax (bS B) k:=by rw [h]
 rw [nN A hk,nN B hk] at e
 have:kD A (k%5)=kD B (k%5):=by
  unfold kD
  rw [hz _ (Nat.mod_lt _ (by omega)),hz _ (Nat.mod_lt _ (by omega))]
 rw [this] at e
 refine RN (ew fun i hi=> ?_)
 have e:=congrArg (fun u=>wb u i) e
 simp only [ge] at*
 rw [show wb 0 i=false by simp [wb]]
 revert e
 cases wb (ax A k) i<;>cases wb (ax B k) i<;>cases wb (kD B (k%5)) i<;>simp
def tG (a b c:UInt64):UInt64:=a^^^(~~~b&&&c)
theorem Nx {a0 a1 a2 a3 a4 b0 b1 b2 b3 b4:UInt64} (h0:tG a0 a1 a2=tG b0 b1 b2) (h1:tG a1 a2 a3=tG b1 b2 b3) (h2:tG a2 a3 a4=tG b2 b3 b4) (h3:tG a3 a4 a0=tG b3 b4 b0) (h4:tG a4 a0 a1=tG b4 b0 b1):a0=b0:=ew fun i hi=>by
 have g:∀ {a b c d e f:UInt64},tG a b c=tG d e f→(wb a i ^^ (!wb b i&&wb c i))=(wb d i ^^ (!wb e i&&wb f i)):=fun {a b c d e f} h=>by
  have:=congrArg (fun u=>wb u i) h
  simp only [tG,ge,PD] at this
  rwa [Iu _ hi,Iu _ hi] at this
 have h0:=g h0;have h1:=g h1;have h2:=g h2;have h3:=g h3;have h4:=g h4
 revert h0 h1 h2 h3 h4
 generalize wb a0 i=x0;generalize wb a1 i=x1;generalize wb a2 i=x2;generalize wb a3 i=x3;generalize wb a4 i=x4
 generalize wb b0 i=y0;generalize wb b1 i=y1;generalize wb b2 i=y2;generalize wb b3 i=y3;generalize wb b4 i=y4
 revert x0 x1 x2 x3 x4 y0 y1 y2 y3 y4
 decide +kernel
theorem EG (A:List UInt64) {k:Nat} (hk:k<25):ax (gk A) k=tG (ax A k) (ax A ((k%5+1)%5+5*(k/5))) (ax A ((k%5+2)%5+5*(k/5))):=by
 unfold gk tG ax
 simp [List.getD_eq_getElem?_getD,hk]
theorem Jt {A B:List UInt64} (hA:A.length=25) (hB:B.length=25) (h:gk A=gk B):A=B:=by
 refine lD hA hB fun k hk=> ?_
 have e:∀j,j<25→tG (ax A j) (ax A ((j%5+1)%5+5*(j/5))) (ax A ((j%5+2)%5+5*(j/5)))=tG (ax B j) (ax B ((j%5+1)%5+5*(j/5))) (ax B ((j%5+2)%5+5*(j/5))):=fun j hj=>by
  rw [←EG A hj,←EG B hj,h]
 have e0:=e k hk
 have e1:=e ((k%5+1)%5+5*(k/5)) (by omega)
 have e2:=e ((k%5+2)%5+5*(k/5)) (by omega)
 have e3:=e ((k%5+3)%5+5*(k/5)) (by omega)
 have e4:=e ((k%5+4)%5+5*(k/5)) (by omega)
 have q:∀a b,a<5→((a+5*(k/5))%5+b)%5+5*((a+5*(k/5))/5)=(a+b)%5+5*(k/5):=fun a b h=>by omega
 have q2:∀c,(k%5+c)%5<5:=fun c=>Nat.mod_lt _ (by omega)
 rw [q _ _ (q2 _),q _ _ (q2 _)] at e1 e2 e3 e4
 rw [show ((k%5+1)%5+1)%5=(k%5+2)%5 by omega,show ((k%5+1)%5+2)%5=(k%5+3)%5 by omega] at e1
 rw [show ((k%5+2)%5+1)%5=(k%5+3)%5 by omega,show ((k%5+2)%5+2)%5=(k%5+4)%5 by omega] at e2
 rw [show ((k%5+3)%5+1)%5=(k%5+4)%5 by omega,show ((k%5+3)%5+2)%5+5*(k/5)=k by omega] at e3
 rw [show ((k%5+4)%5+1)%5+5*(k/5)=k by omega,show ((k%5+4)%5+2)%5=(k%5+1)%5 by omega] at e4
 exact Nx e0 e1 e2 e3 e4
theorem jT (A:List UInt64):eo A= [ax A 0,rk (ax A 6) 44,rk (ax A 12) 43,rk (ax A 18) 21,rk (ax A 24) 14,rk (ax A 3) 28,rk (ax A 9) 20,rk (ax A 10) 3,rk (ax A 16) 45,rk (ax A 22) 61,rk (ax A 1) 1,rk (ax A 7) 6,rk (ax A 13) 25,rk (ax A 19) 8,rk (ax A 20) 18,rk (ax A 4) 27,rk (ax A 5) 36,rk (ax A 11) 10,rk (ax A 17) 15,rk (ax A 23) 56,rk (ax A 2) 62,rk (ax A 8) 55,rk (ax A 14) 39,rk (ax A 15) 41,rk (ax A 21) 2]:=by
 simp [eo,CY,rT,List.replicate]
theorem CP {A B:List UInt64} (hA:A.length=25) (hB:B.length=25) (h:eo A=eo B):A=B:=by
 rw [jT,jT] at h
 simp only [List.cons.injEq,and_true] at h
 obtain ⟨h0,h6,h12,h18,h24,h3,h9,h10,h16,h22,h1,h7,h13,h19,h20,h4,h5,h11,h17,h23,h2,h8,h14,h15,h21⟩:=h
 refine lD hA hB fun k hk=> ?_
 have c:k=0∨k=1∨k=2∨k=3∨k=4∨k=5∨k=6∨k=7∨k=8∨k=9∨k=10∨k=11∨k=12∨k=13∨k=14∨k=15∨k=16∨k=17∨k=18∨k=19∨k=20∨k=21∨k=22∨k=23∨k=24:=by omega
 rcases c with rfl|rfl|rfl|rfl|rfl|rfl|rfl|rfl|rfl|rfl|rfl|rfl|rfl|rfl|rfl|rfl|rfl|rfl|rfl|rfl|rfl|rfl|rfl|rfl|rfl
 ·exact h0
 ·exact bt (by omega) h1
 ·exact bt (by omega) h2
 ·exact bt (by omega) h3
 ·exact bt (by omega) h4
 ·exact bt (by omega) h5
 ·exact bt (by omega) h6
 ·exact bt (by omega) h7
 ·exact bt (by omega) h8
 ·exact bt (by omega) h9
 ·exact bt (by omega) h10
 ·exact bt (by omega) h11
 ·exact bt (by omega) h12
 ·exact bt (by omega) h13
 ·exact bt (by omega) h14
 ·exact bt (by omega) h15
 ·exact bt (by omega) h16
 ·exact bt (by omega) h17
 ·exact bt (by omega) h18
 ·exact bt (by omega) h19
 ·exact bt (by omega) h20
 ·exact bt (by omega) h21
 ·exact bt (by omega) h22
 ·exact bt (by omega) h23
 ·exact bt (by omega) h24
theorem rC (l:UInt8):∀j,∃c l',∀A,0<A.length→eL A l j=(A.set 0 (ax A 0^^^c),l')
 |0=>⟨0,l,fun A hA=>by
  cases A with
  |nil=>cases hA
  |cons a r=>simp [eL,ax]⟩
 |j+1=>by
  obtain ⟨c,l',h⟩:=rC l j
  by_cases e:l'&&&1=1
  ·refine ⟨c^^^j3 1 (j3 1 j-1).toNat,Td l',fun A hA=> ?_⟩
   rw [eL,h A hA]
   cases A with
   |nil=>cases hA
   |cons a r=>simp [ax,e,UInt64.xor_assoc]
  ·refine ⟨c,Td l',fun A hA=> ?_⟩
   rw [eL,h A hA]
   simp [e]
theorem Hb {A B:List UInt64} {c:UInt64} (hA:A.length=25) (hB:B.length=25) (h:A.set 0 (ax A 0^^^c)=B.set 0 (ax B 0^^^c)):A=B:=by
 cases A with
 |nil=>cases hA
 |cons a r=>cases B with
  |nil=>cases hB
  |cons b s=>
   simp [ax] at h
   rw [h.1,h.2]
theorem CV {s t:List UInt64×UInt8} (hs:s.1.length=25) (ht:t.1.length=25) (hl:s.2=t.2) (h:(i9 s).1=(i9 t).1):s.1=t.1:=by
 unfold i9 at h
 rw [←hl] at h
 obtain ⟨c,l',hx⟩:=rC s.2 7
 have h3:∀A,(gk A).length=25:=fun A=>by simp [gk]
 have h2:∀A,(eo A).length=25:=fun A=>by rw [jT];rfl
 have h1:∀A,(bS A).length=25:=fun A=>by simp [bS]
 rw [hx _ (by rw [h3];omega),hx _ (by rw [h3];omega)] at h
 exact De hs ht (CP (h1 _) (h1 _) (Jt (h2 _) (h2 _) (Hb (h3 _) (h3 _) h)))
theorem F8 (A B:List UInt64):∀i,(pi A i).2=(pi B i).2
 |0=>rfl
 |i+1=>by
  show (i9 (pi A i)).2=(i9 (pi B i)).2
  unfold i9
  rw [F8 A B i]
  obtain ⟨c,l',hx⟩:=rC (pi B i).2 7
  rw [hx _ (by simp [gk]),hx _ (by simp [gk])]
theorem AJ {A B:List UInt64} (hA:A.length=25) (hB:B.length=25):∀i,(pi A i).1=(pi B i).1→A=B
 |0,h=>h
 |i+1,h=>AJ hA hB i (CV (lC hA i) (lC hB i) (F8 A B i) h)
theorem vi {A B:List UInt64} (hA:A.length=25) (hB:B.length=25) (h:bh A=bh B):A=B:=AJ hA hB 24 h
theorem GQ:∀(N:Nat) (g:Nat→Nat),(∀i,i≤N→g i<N)→∃i j,i<j∧j≤N∧g i=g j
 |0,g,h=>absurd (h 0 (Nat.le_refl _)) (Nat.not_lt_zero _)
 |N+1,g,h=>by
  by_cases he:∃i,i<N+1∧g i=g (N+1)
  ·obtain ⟨i,h1,h2⟩:=he
   exact ⟨i,N+1,h1,Nat.le_refl _,h2⟩
  have hn:∀i,i≤N→g i≠g (N+1):=fun i hi e=>he ⟨i,by omega,e⟩
  have hl:=h (N+1) (Nat.le_refl _)
  obtain ⟨i,j,h1,h2,h3⟩:=GQ N (fun i=>if g i=N then g (N+1) else g i) fun i hi=>by
   have:=h i (by omega)
   have:=hn i hi
   show (if g i=N then g (N+1) else g i)<N
   split<;>omega
  refine ⟨i,j,h1,by omega,?_⟩
  have a:=hn i (by omega)
  have b:=hn j h2
  split at h3<;>split at h3<;>omega
def ot:List UInt64→Nat
 | []=>0
 |a::r=>a.toNat+18446744073709551616*ot r
theorem uT:∀ {A B:List UInt64},A.length=B.length→ot A=ot B→A=B
 | [],[],_,_=>rfl
 |a::r,b::s,hl,h=>by
  have ha:=a.toNat_lt
  have hb:=b.toNat_lt
  simp only [ot] at h
  have h1:a.toNat=b.toNat:=by omega
  have h2:ot r=ot s:=by omega
  rw [UInt64.toNat_inj.1 h1,uT (by simpa using hl) h2]
theorem A8:∀A:List UInt64,ot A<18446744073709551616^A.length
 | []=>by simp [ot]
 |a::r=>by
  have ha:=a.toNat_lt
  have:=A8 r
  simp only [ot,List.length_cons]
  rw [Nat.pow_succ,Nat.mul_comm]
  generalize 18446744073709551616^r.length=P at*
  omega
theorem Bs {A B:List UInt64} (hA:A.length=25) (hB:B.length=25):∀k,f_ A k=f_ B k→A=B
 |0,h=>h
 |k+1,h=>Bs hA hB k (vi (dX hA k) (dX hB k) h)
theorem iz (A:List UInt64) (n:Nat):∀m,f_ (f_ A n) m=f_ A (n+m)
 |0=>rfl
 |m+1=>by show bh _=bh _;rw [iz A n m];rfl
theorem Hh {A:List UInt64} (hA:A.length=25):∃m,0<m∧m≤18446744073709551616^25∧f_ A m=A:=by
 generalize hN:(18446744073709551616^25:Nat)=N
 obtain ⟨i,j,h1,h2,h3⟩:=GQ N (fun i=>ot (f_ A i)) fun i _=>by
  have:=A8 (f_ A i)
  rwa [dX hA,hN] at this
 have h4:=uT (by rw [dX hA,dX hA]) h3
 refine ⟨j-i,by omega,by omega,?_⟩
 rw [show j=(j-i)+i by omega,←iz] at h4
 exact (Bs hA (dX hA _) i h4).symm
theorem pI {A:List UInt64} {m:Nat} (h:f_ A m=A):∀n,f_ A (n*m)=A
 |0=>by simp [f_]
 |n+1=>by rw [Nat.succ_mul,←iz,pI h n,h]
def qb (n:Nat):Nat:=if n=0 then 1 else 2*qb (n-1)
termination_by n
decreasing_by omega
theorem z9:∀n,qb n=2^n
 |0=>by rw [qb];rfl
 |n+1=>by rw [qb,if_neg (by omega),Nat.add_sub_cancel,z9 n,Nat.pow_succ,Nat.mul_comm]
def dT (x:UInt16) (s:List UInt16×Nat):List UInt16×Nat:=if x<3329∧s.2<256 then (s.1.set s.2 x,s.2+1) else s
def O1 (a b:UInt8):UInt16:=a.toUInt16|||Lc (b&&&15).toUInt16 8
def PS (b c:UInt8):UInt16:=(r8 b 4).toUInt16|||Lc c.toUInt16 4
def uS (b:Nat→UInt8):Nat→List UInt16×Nat
 |0=>(List.replicate 256 0,0)
 |k+1=>dT (PS (b (3*k+1)) (b (3*k+2))) (dT (O1 (b (3*k)) (b (3*k+1))) (uS b k))
structure SW (s:List UInt16×Nat):Prop where
 len:s.1.length=256
 le:s.2≤256
 lt:∀x∈s.1,x<3329
theorem dJ {x:UInt16} {s:List UInt16×Nat} (h:SW s):SW (dT x s)∧s.2≤(dT x s).2:=by
 unfold dT
 split
 ·rename_i c
  exact ⟨⟨by rw [List.length_set];exact h.len,c.2,fun y hy=>by
   rcases List.mem_or_eq_of_mem_set hy with h1|h1
   ·exact h.lt y h1
   ·rw [h1];exact c.1⟩,Nat.le_succ _⟩
 ·exact ⟨h,Nat.le_refl _⟩
theorem iQ (b:Nat→UInt8):∀k,SW (uS b k)
 |0=>⟨List.length_replicate,Nat.zero_le _,fun x hx=>by rw [(List.mem_replicate.1 hx).2];decide⟩
 |k+1=>(dJ (dJ (iQ b k)).1).1
theorem Bv (b:Nat→UInt8) (k:Nat):(uS b k).2≤(uS b (k+1)).2:=Nat.le_trans (dJ (iQ b k)).2 (dJ (dJ (iQ b k)).1).2
theorem lW (b:Nat→UInt8) (k:Nat):∀n,(uS b k).2≤(uS b (k+n)).2
 |0=>Nat.le_refl _
 |n+1=>Nat.le_trans (lW b k n) (Bv b (k+n))
theorem nO {x:UInt16} {s:List UInt16×Nat} (h:s.2=256):dT x s=s:=if_neg fun c=>absurd c.2 (by omega)
theorem lV {b:Nat→UInt8} {k:Nat} (h:(uS b k).2=256):∀n,uS b (k+n)=uS b k
 |0=>rfl
 |n+1=>by
  show dT _ (dT _ (uS b (k+n)))=_
  rw [lV h n,nO h,nO h]
theorem O2 {b:Nat→UInt8} {k:Nat} (h0:b (3*k)=0) (h1:b (3*k+1)=0) (h:(uS b k).2<256):(uS b k).2+1≤(uS b (k+1)).2:=by
 refine Nat.le_trans ?_ (dJ (dJ (iQ b k)).1).2
 rw [h0,h1]
 unfold dT
 rw [if_pos ⟨by decide,h⟩]
 exact Nat.le_refl _
theorem Hp {b:Nat→UInt8} {m:Nat} (h:∀n,0<n→∃k,k<n*m∧(n-1)*m≤k∧b (3*k)=0∧b (3*k+1)=0):∀n,min n 256≤(uS b (n*m)).2
 |0=>by omega
 |n+1=>by
  have h1:=Hp h n
  obtain ⟨k,h2,h3,h4,h5⟩:=h (n+1) (by omega)
  rw [Nat.add_sub_cancel] at h3
  have h6:(uS b (n*m)).2≤(uS b k).2:=by
   have:=lW b (n*m) (k-n*m)
   rwa [show n*m+(k-n*m)=k by omega] at this
  have h7:(uS b (k+1)).2≤(uS b ((n+1)*m)).2:=by
   have:=lW b (k+1) ((n+1)*m-(k+1))
   rwa [show k+1+((n+1)*m-(k+1))=(n+1)*m by omega] at this
  rcases Nat.lt_or_ge (uS b k).2 256 with h8|h8
  ·have:=O2 h4 h5 h8
   omega
  ·have:=Bv b k
   omega
theorem vX {s:List UInt64} {m:List UInt8} {l:Nat} (hs:s.length=25) (h0:ax s l=0) (hm:∀i,i/8=l→m.getD i 0=0):∀i,ax (DP s m 0 i) l=0
 |0=>h0
 |i+1=>by
  have ih:=vX hs h0 hm i
  unfold DP
  by_cases e:i/8=l
  ·rw [Nat.zero_add,hm i e,e,ih]
   unfold ax
   rw [List.getD_eq_getElem?_getD,List.getElem?_set]
   rw [if_pos rfl]
   split<;>simp [j3]
  ·unfold ax at*
   rw [List.getD_eq_getElem?_getD,List.getElem?_set,if_neg e,←List.getD_eq_getElem?_getD]
   exact ih
def DQ (b:List UInt8):List UInt64:=DP (List.replicate 25 0) (ji 168 31 b) 0 168
theorem Bx (b:List UInt8):(DQ b).length=25:=lS List.length_replicate _ _ _
theorem Lm {b:List UInt8} (hb:b.length=34):ax (DQ b) 5=0:=by
 refine vX List.length_replicate (by decide) (fun i hi=> ?_) 168
 have h1:40≤i∧i<48:=by omega
 unfold ji
 rw [hb,show lj 168 34=133 by decide]
 rw [List.getD_eq_getElem?_getD,List.getElem?_set,if_neg (by omega)]
 unfold zy
 rw [List.getElem?_append_right (by omega),hb,List.getElem?_cons,if_neg (by omega),List.getElem?_replicate]
 split<;>rfl
def Di (b:List UInt8) (j:Nat):UInt8:=Dc 168 (bh (DQ b)) j
theorem By {b:List UInt8} (hb:b.length=34) {t i:Nat} (h:f_ (DQ b) (t+1)=DQ b) (hi:i=42∨i=43):Di b (168*t+i)=0:=by
 unfold Di
 have e:f_ (bh (DQ b)) t=f_ (DQ b) (t+1):=by
  have:=iz (DQ b) 1 t
  rw [Nat.add_comm t 1]
  exact this
 rw [zA _ (by omega),e,h]
 rcases hi with rfl|rfl<;>simp [Lm hb,iI]
theorem RM {m:Nat} (h:m≤18446744073709551616^25):256*(56*m)≤qb 1700:=by
 rw [z9]
 have e:256*56*18446744073709551616^25≤2^1700:=by decide +kernel
 generalize 18446744073709551616^25=X at h e
 generalize 2^1700=Y at e ⊢
 omega
theorem Hq {b:List UInt8} (hb:b.length=34):∃m,0<m∧256*m≤qb 1700∧(uS (Di b) (256*m)).2=256:=by
 obtain ⟨m,h1,h2,h3⟩:=Hh (Bx b)
 refine ⟨56*m,by omega,?_,?_⟩
 ·exact RM h2
 ·have:=Hp (b:=Di b) (m:=56*m) (fun n hn=> ?_) 256
  ·have h4:=(iQ (Di b) (256*(56*m))).le
   omega
  ·have hq:=pI h3 n
   obtain ⟨t,ht⟩:∃t,n*m=t+1:=⟨n*m-1,by have:=Nat.mul_pos hn h1;omega⟩
   rw [ht] at hq
   have hu:n*(56*m)=56*(t+1):=by rw [←ht,Nat.mul_left_comm]
   have hu2:(n-1)*(56*m)+56*m=n*(56*m):=by
    rw [←Nat.succ_mul];congr 1;omega
   refine ⟨56*t+14,by omega,by omega,?_,?_⟩
   ·rw [show 3*(56*t+14)=168*t+42 by omega];exact By hb hq (.inl rfl)
   ·rw [show 3*(56*t+14)+1=168*t+43 by omega];exact By hb hq (.inr rfl)
theorem RL {b:List UInt8} (hb:b.length=34) {k:Nat} (hk:qb 1700≤k):(uS (Di b) k).2=256:=by
 obtain ⟨m,_,h2,h3⟩:=Hq hb
 revert hk h2
 generalize qb 1700=K
 intro hk h2
 obtain ⟨n,rfl⟩:∃n,k=256*m+n:=⟨k-256*m,by omega⟩
 rw [lV h3 n];exact h3
def uF (b:Nat→UInt8) (k:Nat):List UInt16:=(uS b k).1
theorem RK (b:Nat→UInt8) (k:Nat):(uF b k).length=256∧∀x∈uF b k,x<3329:=⟨(iQ b k).len,(iQ b k).lt⟩
theorem RJ {b:Nat→UInt8} {k K:Nat} (h:(uS b k).2=256) (h2:(uS b K).2=256):(uS b k).1=uF b K:=by
 unfold uF
 rcases Nat.le_total k K with hk|hk
 ·obtain ⟨n,rfl⟩:=Nat.exists_eq_add_of_le hk
  rw [lV h n]
 ·obtain ⟨n,rfl⟩:=Nat.exists_eq_add_of_le hk
  rw [lV h2 n]
def nP (b:List UInt8):List UInt16:=uF (Di b) (qb 1700)
theorem Lj {b:List UInt8} {k:Nat} (h:(uS (Di b) k).2=256) (hb:b.length=34):(uS (Di b) k).1=nP b:=RJ h (RL hb (Nat.le_refl _))
theorem Lk (b:List UInt8):(nP b).length=256∧∀x∈nP b,x<3329:=RK _ _
set_option maxRecDepth 10000
theorem Tt:ap am (ah []):=az aj (aR fun p hp=>by cases hp)
def G6 (k:Int):UInt64:=UInt64.ofNat k.toNat&&&63
def CR (x:UInt64) (k:Int):UInt64:=j3 x (G6 k).toNat|||iI x (64-G6 k).toNat
theorem Pn (x:UInt64) (k:Int) (hk:0≤k):vc am (ah []) Tryz.f236.ntmps (ag Tryz.f236) ⟨al 0 [.one (.ob .u64 x),.one (.ob .int k)],[],2000⟩ (aD am Tryz.f236.ntmps [.tmp 4] [.one (.ob .u64 (CR x k))] []):=⟨hk,rfl,trivial⟩
def FH:GF:=fun l=>match l with
 | [.one (.ob .u64 x),.one (.ob .int k)]=>some ⟨[.one (.ob .u64 (CR x k))],[],some (0≤k)⟩
 |_=>none
theorem zn:ab 236 (aq FH):=af aj Tt Tryz.func236 (by kernel_rfl) rfl (rs:= [.tmp 4]) Tryz.results236 fun l g h hp=>by
 unfold FH at h
 split at h
 ·cases h;exact ⟨Nat.le_of_ble_eq_true rfl,rfl,rfl,rfl,Pn _ _ hp⟩
 ·cases h
theorem Bj (x:UInt64) {n:Nat} (h:0<n%64) (h2:n<1000):CR x (n:Int)=rk x (n%64):=by
 have e:(G6 (n:Int)).toNat=n%64:=by
  rw [G6,UInt64.toNat_and,UInt64.toNat_ofNat',Int.toNat_natCast,Nat.mod_eq_of_lt (by omega),show (63:UInt64).toNat=2^6-1 from rfl,Nat.and_two_pow_sub_one_eq_mod]
 have e2:(64-G6 (n:Int)).toNat=64-n%64:=by
  rw [UInt64.toNat_sub,e,show (64:UInt64).toNat=64 from rfl];omega
 rw [CR,e,e2]
def PH:List (Nat×CF):= [(236,aq FH)]
theorem L8:∀p∈PH,ab p.1 p.2:=ae zn fun p hp=>by cases hp
theorem El:ap am (ah PH):=az aj (aR L8)
def MX (A:List UInt64):Nat→List UInt64
 |0=>List.replicate 5 0
 |i+1=>(MX A i).set (i%5) ((MX A i).getD (i%5) 0^^^ax A i)
theorem Li (A:List UInt64):MX A 25=(List.range 5).map (kC A):=by
 have e:MX A 25= [0^^^ax A 0^^^ax A 5^^^ax A 10^^^ax A 15^^^ax A 20,0^^^ax A 1^^^ax A 6^^^ax A 11^^^ax A 16^^^ax A 21,0^^^ax A 2^^^ax A 7^^^ax A 12^^^ax A 17^^^ax A 22,0^^^ax A 3^^^ax A 8^^^ax A 13^^^ax A 18^^^ax A 23,0^^^ax A 4^^^ax A 9^^^ax A 14^^^ax A 19^^^ax A 24]:=by kernel_rfl
 rw [e]
 simp [kC,List.range_succ]
theorem LU (A:List UInt64) (hA:A.length=25):vc am (ah PH) Tryz.f268.ntmps (ag Tryz.f268) ⟨al 0 [.agg [.vec .u64 25 A]],[],2000⟩ (aD am Tryz.f268.ntmps [.cell 2 284] [.agg [.vec .u64 25 (bS A)]] []):=by
 refine Or.inr ⟨{i:Nat // i≤25},fun i=>⟨[(9,.one (.ob .int (i.val:Int)))],[(2032,.blk 120 [.vec .u64 5 (MX A i.val)])]⟩,fun i=>25-i.val,⟨0,by omega⟩,?_⟩
 refine ⟨rfl,rfl,rfl,fun i=>⟨fun h1=> ?_,fun h1=> ?_⟩⟩
 ·have h1:=of_decide_eq_true h1
  have hi:=i.2
  repeat refine sd ?_
  refine sj ⟨i.val+1,by omega⟩<|sr<|sr ⟨?_,trivial⟩
  show (MX A i.val).set ((i.val:Int)%5).toNat ((MX A i.val).getD ((i.val:Int)%5).toNat 0^^^A.getD ((i.val:Int)).toNat 0)=MX A (i.val+1)
  rw [show ((i.val:Int)%5).toNat=i.val%5 by omega,Int.toNat_natCast];rfl
 have h1:=of_decide_eq_false h1
 have hi:=i.2
 rw [show i.val=25 by omega,Li]
 refine Or.inr ⟨{j:Nat // j≤25},fun j=>⟨[(21,.one (.ob .int (j.val:Int)))],[(2000,.blk 284 [.vec .u64 25 (bx 0 25 (fun k=>ax A k^^^kD A (k%5)) A j.val)])]⟩,fun j=>25-j.val,⟨0,by omega⟩,?_⟩
 refine ⟨rfl,rfl,dl hA,fun j=>⟨fun h1=> ?_,fun h1=> ?_⟩⟩
 ·have h1:=of_decide_eq_true h1
  have hj:=j.2
  repeat refine sd ?_
  refine sj ⟨j.val+1,by omega⟩<|sr<|sr ⟨?_,trivial⟩
  refine ((congrArg (fun z=>(bx 0 25 (fun k=>ax A k^^^kD A (k%5)) A j.val).set j.val z) ?_).trans bq).symm
  show (bx 0 25 (fun k=>ax A k^^^kD A (k%5)) A j.val).getD j.val 0^^^(((List.range 5).map (kC A)).getD (((j.val:Int)%5+5-1)%5).toNat 0^^^CR (((List.range 5).map (kC A)).getD (((j.val:Int)%5+1)%5).toNat 0) ((1:Nat):Int))=_
  rw [ce (by omega),if_neg (by omega),show (((j.val:Int)%5+5-1)%5).toNat=(j.val%5+4)%5 by omega,show (((j.val:Int)%5+1)%5).toNat=(j.val%5+1)%5 by omega,aZ (by omega),aZ (by omega),Bj _ (by decide) (by decide)]
  rfl
 have h1:=of_decide_eq_false h1
 have hj:=j.2
 rw [show j.val=25 by omega,b7 (by omega)]
 exact ⟨rfl,rfl,trivial⟩
def yl:GF:=fun l=>match l with
 | [.agg [.vec .u64 25 A]]=>some ⟨[.agg [.vec .u64 25 (bS A)]],[],some (A.length=25)⟩
 |_=>none
theorem v7:ab 268 (aq yl):=af aj El Tryz.func268 (by kernel_rfl) rfl (rs:= [.cell 2 284]) Tryz.results268 fun l g h hp=>by
 unfold yl at h
 split at h
 ·cases h;exact ⟨Nat.le_of_ble_eq_true rfl,rfl,rfl,rfl,LU _ hp⟩
 ·cases h
def eD (A B:List UInt64):Nat→(Nat×Nat)×List UInt64
 |0=>((1,0),B)
 |t+1=>(((eD A B t).1.2,(2*(eD A B t).1.1+3*(eD A B t).1.2)%5),(eD A B t).2.set ((eD A B t).1.2+5*((2*(eD A B t).1.1+3*(eD A B t).1.2)%5)) (rk (ax A ((eD A B t).1.1+5*(eD A B t).1.2)) (rT t)))
theorem G9 (A B:List UInt64):∀t,(eD A B t).1.1<5∧(eD A B t).1.2<5
 |0=>⟨by simp [eD],by simp [eD]⟩
 |t+1=>⟨(G9 A B t).2,Nat.mod_lt _ (by omega)⟩
theorem QR {A:List UInt64} (h:A.length=25):A= [ax A 0,ax A 1,ax A 2,ax A 3,ax A 4,ax A 5,ax A 6,ax A 7,ax A 8,ax A 9,ax A 10,ax A 11,ax A 12,ax A 13,ax A 14,ax A 15,ax A 16,ax A 17,ax A 18,ax A 19,ax A 20,ax A 21,ax A 22,ax A 23,ax A 24]:=by
 refine lD h rfl fun k hk=> ?_
 have c:k=0∨k=1∨k=2∨k=3∨k=4∨k=5∨k=6∨k=7∨k=8∨k=9∨k=10∨k=11∨k=12∨k=13∨k=14∨k=15∨k=16∨k=17∨k=18∨k=19∨k=20∨k=21∨k=22∨k=23∨k=24:=by omega
 rcases c with rfl|rfl|rfl|rfl|rfl|rfl|rfl|rfl|rfl|rfl|rfl|rfl|rfl|rfl|rfl|rfl|rfl|rfl|rfl|rfl|rfl|rfl|rfl|rfl|rfl<;>rfl
theorem K_ {A:List UInt64} (h:A.length=25):(eD A A 24).2=eo A:=by
 have e:∀B,B= [ax A 0,ax A 1,ax A 2,ax A 3,ax A 4,ax A 5,ax A 6,ax A 7,ax A 8,ax A 9,ax A 10,ax A 11,ax A 12,ax A 13,ax A 14,ax A 15,ax A 16,ax A 17,ax A 18,ax A 19,ax A 20,ax A 21,ax A 22,ax A 23,ax A 24]→(eD A B 24).2=eo A:=fun B hB=>by
  rw [hB,jT]
  kernel_rfl
 exact e A (QR h)
theorem RS (A:List UInt64) (hA:A.length=25):vc am (ah PH) Tryz.f269.ntmps (ag Tryz.f269) ⟨al 0 [.agg [.vec .u64 25 A]],[],2000⟩ (aD am Tryz.f269.ntmps [.cell 2 284] [.agg [.vec .u64 25 (eo A)]] []):=by
 refine Or.inr ⟨{t:Nat // t≤24},fun t=>⟨[(9,.one (.ob .int (t.val:Int))),(4,.one (.ob .int ((eD A A t.val).1.1:Int))),(5,.one (.ob .int ((eD A A t.val).1.2:Int)))],[(2048,.blk 284 [.vec .u64 25 (eD A A t.val).2])]⟩,fun t=>24-t.val,⟨0,by omega⟩,?_⟩
 refine ⟨rfl,rfl,rfl,rfl,rfl,fun t=>⟨fun h1=> ?_,fun h1=> ?_⟩⟩
 ·have h1:=of_decide_eq_true h1
  have ht:=t.2
  obtain ⟨hx,hy⟩:=G9 A A t.val
  obtain ⟨hn,hm⟩:=OU t.val (by omega)
  have hm2:((t.val:Int)+1)*((t.val:Int)+2)=(((t.val+1)*(t.val+2):Nat):Int):=by simp
  have hn2:((t.val:Int)+1)*((t.val:Int)+2)/2=(((t.val+1)*(t.val+2)/2:Nat):Int):=by rw [hm2];omega
  repeat refine sd ?_
  have hs:eD A A (t.val+1)=(((eD A A t.val).1.2,(2*(eD A A t.val).1.1+3*(eD A A t.val).1.2)%5),(eD A A t.val).2.set ((eD A A t.val).1.2+5*((2*(eD A A t.val).1.1+3*(eD A A t.val).1.2)%5)) (rk (ax A ((eD A A t.val).1.1+5*(eD A A t.val).1.2)) (rT t.val))):=rfl
  have e1:(((eD A A t.val).1.1:Int)+5*((eD A A t.val).1.2:Int)).toNat=(eD A A t.val).1.1+5*(eD A A t.val).1.2:=by omega
  have e2:=OV (eD A A t.val).1.1 (eD A A t.val).1.2
  refine sj ⟨t.val+1,by omega⟩<|sr<|sr ⟨congrArg (fun z:Int=> [z]) ?_,rfl,?_,trivial⟩
  ·show (((2*(eD A A t.val).1.1+3*(eD A A t.val).1.2)%5:Nat):Int)=(2*((eD A A t.val).1.1:Int)+3*((eD A A t.val).1.2:Int))%5
   omega
  ·show (eD A A (t.val+1)).2=(eD A A t.val).2.set (((eD A A t.val).1.2:Int)+5*((2*((eD A A t.val).1.1:Int)+3*((eD A A t.val).1.2:Int))%5)).toNat (CR (A.getD (((eD A A t.val).1.1:Int)+5*((eD A A t.val).1.2:Int)).toNat 0) (((t.val:Int)+1)*((t.val:Int)+2)/2))
   rw [hs,e1,e2,hn2,Bj _ hn (by omega)]
   rfl
 have h1:=of_decide_eq_false h1
 have ht:=t.2
 rw [show t.val=24 by omega,K_ hA]
 exact ⟨rfl,rfl,trivial⟩
def Oc:GF:=fun l=>match l with
 | [.agg [.vec .u64 25 A]]=>some ⟨[.agg [.vec .u64 25 (eo A)]],[],some (A.length=25)⟩
 |_=>none
theorem CQ:ab 269 (aq Oc):=af aj El Tryz.func269 (by kernel_rfl) rfl (rs:= [.cell 2 284]) Tryz.results269 fun l g h hp=>by
 unfold Oc at h
 split at h
 ·cases h;exact ⟨Nat.le_of_ble_eq_true rfl,rfl,rfl,rfl,RS _ hp⟩
 ·cases h
abbrev S5 (A:List UInt64) (k:Nat):UInt64:=ax A k^^^(~~~ax A ((k%5+1)%5+5*(k/5))&&&ax A ((k%5+2)%5+5*(k/5)))
theorem RO (A:List UInt64) (hA:A.length=25):vc am (ah PH) Tryz.f270.ntmps (ag Tryz.f270) ⟨al 0 [.agg [.vec .u64 25 A]],[],2000⟩ (aD am Tryz.f270.ntmps [.cell 2 284] [.agg [.vec .u64 25 (gk A)]] []):=by
 refine Or.inr ⟨{i:Nat // i≤25},fun i=>⟨[(7,.one (.ob .int (i.val:Int)))],[(2048,.blk 284 [.vec .u64 25 (bx 0 25 (S5 A) A i.val)])]⟩,fun i=>25-i.val,⟨0,by omega⟩,?_⟩
 refine ⟨rfl,rfl,dl hA,fun i=>⟨fun h1=> ?_,fun h1=> ?_⟩⟩
 ·have h1:=of_decide_eq_true h1
  have hi:=i.2
  repeat refine sd ?_
  refine sj ⟨i.val+1,by omega⟩<|sr<|sr ⟨?_,trivial⟩
  refine ((congrArg (fun z=>(bx 0 25 (S5 A) A i.val).set i.val z) ?_).trans bq).symm
  show (bx 0 25 (S5 A) A i.val).getD i.val 0^^^(~~~A.getD ((i.val:Int)-(i.val:Int)%5+((i.val:Int)+1)%5).toNat 0&&&A.getD ((i.val:Int)-(i.val:Int)%5+((i.val:Int)+2)%5).toNat 0)=_
  rw [ce (by omega),if_neg (by omega),show ((i.val:Int)-(i.val:Int)%5+((i.val:Int)+1)%5).toNat=(i.val%5+1)%5+5*(i.val/5) by omega,show ((i.val:Int)-(i.val:Int)%5+((i.val:Int)+2)%5).toNat=(i.val%5+2)%5+5*(i.val/5) by omega]
  rfl
 have h1:=of_decide_eq_false h1
 have hi:=i.2
 rw [show i.val=25 by omega,b7 (by omega)]
 exact ⟨rfl,rfl,trivial⟩
def N7:GF:=fun l=>match l with
 | [.agg [.vec .u64 25 A]]=>some ⟨[.agg [.vec .u64 25 (gk A)]],[],some (A.length=25)⟩
 |_=>none
theorem BR:ab 270 (aq N7):=af aj El Tryz.func270 (by kernel_rfl) rfl (rs:= [.cell 2 284]) Tryz.results270 fun l g h hp=>by
 unfold N7 at h
 split at h
 ·cases h;exact ⟨Nat.le_of_ble_eq_true rfl,rfl,rfl,rfl,RO _ hp⟩
 ·cases h
def Tc (i:Nat):UInt64:=ax (eL [0] (pi [] i).2 7).1 0
def Kj:List UInt64:= [1,32898,9223372036854808714,9223372039002292224,32907,2147483649,9223372039002292353,9223372036854808585,138,136,2147516425,2147483658,2147516555,9223372036854775947,9223372036854808713,9223372036854808579,9223372036854808578,9223372036854775936,32778,9223372039002259466,9223372039002292353,9223372036854808704,2147483649,9223372039002292232]
theorem On:∀i,i<24→Kj.getD i 0=Tc i:=by decide +kernel
theorem Oo (A:List UInt64) (i:Nat):(pi A (i+1)).1=(gk (eo (bS (pi A i).1))).set 0 (ax (gk (eo (bS (pi A i).1))) 0^^^Tc i):=by
 show (eL (gk (eo (bS (pi A i).1))) (pi A i).2 7).1=_
 rw [F8 A [] i,Tc]
 obtain ⟨c,l',h⟩:=rC (pi [] i).2 7
 rw [h _ (by simp [gk]),h [0] (by simp)]
 simp [ax]
theorem Dt:vc am (ah []) Tryz.f271.ntmps (ag Tryz.f271) ⟨al 0 [],[],2000⟩ (aD am Tryz.f271.ntmps [.cell 0 288] [.agg [.vec .u64 24 Kj]] []):=⟨rfl,rfl,trivial⟩
def mD:GF:=fun l=>match l with
 | []=>some ⟨[.agg [.vec .u64 24 Kj]],[],none⟩
 |_=>none
theorem oj:ab 271 (aq mD):=af aj Tt Tryz.func271 (by kernel_rfl) rfl (rs:= [.cell 0 288]) Tryz.results271 fun l g h hp=>by
 unfold mD at h
 split at h
 ·cases h;exact ⟨Nat.le_of_ble_eq_true rfl,rfl,rfl,rfl,Dt⟩
 ·cases h
def Sy:List (Nat×CF):=(268,aq yl)::(269,aq Oc)::(270,aq N7)::(271,aq mD)::PH
theorem P2:∀p∈Sy,ab p.1 p.2:=ae v7<|ae CQ<|ae BR<|ae oj L8
theorem SG:ap am (ah Sy):=az aj (aR P2)
theorem LG (A:List UInt64) (hA:A.length=25):vc am (ah Sy) Tryz.f258.ntmps (ag Tryz.f258) ⟨al 0 [.agg [.vec .u64 25 A]],[],2000⟩ (aD am Tryz.f258.ntmps [.cell 2 260] [.agg [.vec .u64 25 (bh A)]] []):=by
 refine Or.inr ⟨{i:Nat // i≤24},fun i=>⟨[(12,.one (.ob .int (i.val:Int)))],[(2048,.blk 284 [.vec .u64 25 (pi A i.val).1])]⟩,fun i=>24-i.val,⟨0,by omega⟩,?_⟩
 refine ⟨rfl,rfl,rfl,fun i=>⟨fun h1=> ?_,fun h1=> ?_⟩⟩
 ·have h1:=of_decide_eq_true h1
  have hi:=i.2
  have h1':i.val<24:=by omega
  have h25:=lC hA i.val
  have hS:=Oo A i.val
  revert h25 hS
  generalize (pi A i.val).1=S
  intro h25 hS
  repeat refine sd ?_
  refine Or.inl ⟨4,⟨h25,by simp [bS],by rw [jT];rfl,?_⟩⟩
  repeat refine sd ?_
  refine sj ⟨i.val+1,by omega⟩<|sr<|sr ⟨?_,trivial⟩
  show (pi A (i.val+1)).1=(gk (eo (bS S))).set 0 ((gk (eo (bS S))).getD 0 0^^^Kj.getD (i.val:Int).toNat 0)
  rw [hS,Int.toNat_natCast,On _ h1']
  rfl
 have h1:=of_decide_eq_false h1
 have hi:=i.2
 rw [show i.val=24 by omega]
 exact ⟨rfl,rfl,trivial⟩
set_option maxRecDepth 10000
def xW:GF:=fun l=>match l with
 | [.agg [.vec .u64 25 A]]=>some ⟨[.agg [.vec .u64 25 (bh A)]],[],some (A.length=25)⟩
 |_=>none
theorem vq:ab 258 (aq xW):=af aj SG Tryz.func258 (by kernel_rfl) rfl (rs:= [.cell 2 260]) Tryz.results258 fun l g h hp=>by
 unfold xW at h
 split at h
 ·cases h;exact ⟨Nat.le_of_ble_eq_true rfl,rfl,rfl,rfl,LG _ hp⟩
 ·cases h
def R_:List (Nat×CF):= [(258,aq xW),(102,aq jz)]
theorem L9:∀p∈R_,ab p.1 p.2:=ae vq<|ae fU fun p hp=>by cases hp
theorem SH:ap am (ah R_):=az aj (aR L9)
theorem mM {α:Type} (l:List α) (n i:Nat) (d:α):(l.drop n).getD i d=l.getD (n+i) d:=by
 simp [List.getD_eq_getElem?_getD,List.getElem?_drop]
def DO (r:Nat) (x:UInt8) (b:List UInt8):List UInt64:=DN r (ji r x b) ((ji r x b).length/r)
set_option maxHeartbeats 4000000 in
theorem Ik (r:Nat) (x:UInt8) (q:List (List UInt8)) (hr:mT r) (hb:q.flatten.length≤8000000):vc am (ah R_) Tryz.f240.ntmps (ag Tryz.f240) ⟨al 0 [.one (.ob .int (r:Int)),.one (.ob .u8 x),.one (.bb q)],[],2000⟩ (aD am Tryz.f240.ntmps [.tmp 6] [.one (.ptr 0 0)] [(0,.blk 268 [.vec .u64 25 (DO r x q.flatten),.ob .int (r:Int),.ob .int 0])]):=by
 have hr2:72≤r∧r≤168:=by rcases hr with rfl|rfl|rfl<;>omega
 have hl:(q.flatten++ [x]).length=q.flatten.length+1:=by simp
 obtain ⟨hz1,K,hK⟩:=OX (n:=q.flatten.length) hr
 have hz:((r:Int)-((q.flatten++ [x]).length:Int)%(r:Int))%(r:Int)=((lj r q.flatten.length:Nat):Int):=by
  rw [hl];unfold lj
  rcases hr with rfl|rfl|rfl<;>omega
 have hz2:q.flatten++ [x]++List.replicate (lj r q.flatten.length) 0=zy q.flatten x (lj r q.flatten.length):=by simp [zy]
 have hzl:=Bq q.flatten x (lj r q.flatten.length)
 have hm0:0≤((q.flatten++ [x]).length:Int)%(r:Int)∧((q.flatten++ [x]).length:Int)%(r:Int)<r:=⟨Int.emod_nonneg _ (by omega),Int.emod_lt_of_pos _ (by omega)⟩
 refine ⟨by omega,by omega,⟨by omega,by omega⟩,⟨by omega,by omega⟩,⟨by omega,by omega⟩,⟨by rw [hz];omega,by rw [hz,Int.toNat_natCast,hz2,hzl];omega⟩,fun _=> ?_⟩
 rw [hz,Int.toNat_natCast,hz2]
 have hM:=Br r x q.flatten
 have hset:(zy q.flatten x (lj r q.flatten.length)).set (((zy q.flatten x (lj r q.flatten.length)).length:Int)-1).toNat ((zy q.flatten x (lj r q.flatten.length)).getD (((zy q.flatten x (lj r q.flatten.length)).length:Int)-1).toNat 0|||128)=ji r x q.flatten:=by
  rw [hzl,show (((q.flatten.length+1+lj r q.flatten.length:Nat):Int)-1).toNat=q.flatten.length+lj r q.flatten.length by omega]
  rfl
 refine ⟨⟨by omega,by omega⟩,⟨by omega,by omega⟩,by omega,⟨by omega,by omega⟩,by omega,?_⟩
 refine fun _=> ?_
 refine Or.inr ⟨{k:Nat // k≤K},fun k=>⟨[(7,.one (.ro .u8 ((ji r x q.flatten).drop (r*k.val))))],[(2464,.blk 268 [.vec .u64 25 (DN r (ji r x q.flatten) k.val),.ob .int (r:Int),.ob .int 0])]⟩,fun k=>K-k.val,⟨0,by omega⟩,?_⟩
 refine ⟨?_,rfl,rfl,rfl,rfl,fun k hl3=>⟨fun h1=> ?_,fun h1=> ?_⟩⟩
 ·show (ji r x q.flatten).drop (r*0)=(zy q.flatten x (lj r q.flatten.length)).set (((zy q.flatten x (lj r q.flatten.length)).length:Int)-1).toNat ((zy q.flatten x (lj r q.flatten.length)).getD (((zy q.flatten x (lj r q.flatten.length)).length:Int)-1).toNat 0|||128)
  rw [hset,Nat.mul_zero];rfl
 ·have h1:=of_decide_eq_true h1
  have hk:=k.2
  have hd:((ji r x q.flatten).drop (r*k.val)).length=(ji r x q.flatten).length-r*k.val:=List.length_drop
  have h4:k.val<K:=by
   rcases Nat.lt_or_ge k.val K with h|h
   ·exact h
   ·have:r*K≤r*k.val:=Nat.mul_le_mul_left r h
    omega
  have h5:r*k.val+r≤(ji r x q.flatten).length:=by
   rw [hM,hK,←Nat.mul_succ]
   exact Nat.mul_le_mul_left r h4
  generalize hO:r*k.val=O at h5 hd
  refine Or.inr ⟨{i:Nat // i≤r},fun i=>⟨[(43,.one (.ob .int (i.val:Int)))],[(2464,.blk 268 [.vec .u64 25 (DP (DN r (ji r x q.flatten) k.val) (ji r x q.flatten) O i.val),.ob .int (r:Int),.ob .int 0])]⟩,fun i=>r-i.val,⟨0,by omega⟩,?_⟩
  refine ⟨rfl,rfl,rfl,rfl,rfl,fun i=>⟨fun h7=> ?_,fun h7=> ?_⟩⟩
  ·have h7:=of_decide_eq_true h7
   have hi:=i.2
   repeat refine sd ?_
   refine sj ⟨i.val+1,by omega⟩<|sr<|sr ⟨?_,rfl,rfl,trivial⟩
   show DP (DN r (ji r x q.flatten) k.val) (ji r x q.flatten) O (i.val+1)=(DP (DN r (ji r x q.flatten) k.val) (ji r x q.flatten) O i.val).set ((i.val:Int)/8).toNat ((DP (DN r (ji r x q.flatten) k.val) (ji r x q.flatten) O i.val).getD ((i.val:Int)/8).toNat 0^^^j3 (UInt8.toUInt64 (((ji r x q.flatten).drop O).getD (i.val:Int).toNat 0)) (8*((i.val:Int)%8)).toNat)
   rw [Th,TD,Int.toNat_natCast,mM]
   rfl
  have h7:=of_decide_eq_false h7
  have hi:=i.2
  rw [show i.val=r by omega]
  refine ⟨lS (sJ _ _ _) _ _ _,?_⟩
  have hO2:r*(k.val+1)=O+r:=by rw [Nat.mul_succ,hO]
  refine ⟨⟨by show (0:Int)≤(r:Int);omega,by show (r:Int)≤(((ji r x q.flatten).drop O).length:Nat);omega⟩,sj ⟨k.val+1,by omega⟩ ⟨?_,rfl,?_,rfl,rfl,trivial⟩⟩
  ·show (ji r x q.flatten).drop (r*(k.val+1))=((ji r x q.flatten).drop O).drop (r:Int).toNat
   rw [hO2,List.drop_drop,Int.toNat_natCast]
  ·show DN r (ji r x q.flatten) (k.val+1)=_
   rw [DN,hO]
 have h1:=of_decide_eq_false h1
 have hk:=k.2
 have hd:((ji r x q.flatten).drop (r*k.val)).length=(ji r x q.flatten).length-r*k.val:=List.length_drop
 have h4:k.val=K:=by
  rcases Nat.lt_or_ge k.val K with h|h
  ·have:r*k.val<r*K:=Nat.mul_lt_mul_of_pos_left h (by omega)
   omega
  ·omega
 have hS:DO r x q.flatten=DN r (ji r x q.flatten) K:=by
  unfold DO
  rw [hM,hK,Nat.mul_div_cancel_left _ (by omega)]
 rw [hS,h4]
 exact ⟨rfl,rfl,rfl,rfl,trivial⟩
theorem sK (r:Nat) (x:UInt8) (b:List UInt8):(DO r x b).length=25:=sJ _ _ _
def rq:GF:=fun l=>match l with
 | [.one (.ob .int r),.one (.ob .u8 x),.one (.bb q)]=>some ⟨[.one (.ptr 0 0)],[(0,.blk 268 [.vec .u64 25 (DO r.toNat x q.flatten),.ob .int (r.toNat:Int),.ob .int 0])],some (mT r.toNat∧q.flatten.length≤8000000)⟩
 |_=>none
theorem sI:ab 240 (aq rq):=af aj SH Tryz.func240 (by kernel_rfl) rfl (rs:= [.tmp 6]) Tryz.results240 fun l g h hp=>by
 unfold rq at h
 split at h
 ·rename_i r x q
  cases h
  obtain ⟨h1,h2⟩:=hp
  obtain ⟨r,rfl⟩:∃m:Nat,r=(m:Int):=⟨r.toNat,v8 (by rcases h1 with h|h|h<;>rw [h]<;>decide)⟩
  exact ⟨Nat.le_of_ble_eq_true rfl,rfl,rfl,rfl,Ik _ _ _ h1 h2⟩
 ·cases h
set_option maxRecDepth 10000
def Sa:List (Nat×CF):=(240,aq rq)::R_
theorem L_:∀p∈Sa,ab p.1 p.2:=ae sI L9
theorem SI:ap am (ah Sa):=az aj (aR L_)
def cO (r at' n:Nat):Nat:=(at'+n-1)/r
def nZ (r:Nat) (s:List UInt64) (a n:Nat):List UInt8:=(List.range n).map fun j=>Dc r s (a+j)
theorem nF {r a i:Nat} (hr:0<r):r*cO r a i≤a+i∧a+i-r*cO r a i≤r:=by
 unfold cO
 have h1:=Nat.div_add_mod (a+i-1) r
 have h2:=Nat.mod_lt (a+i-1) hr
 generalize r*((a+i-1)/r)=O at*
 omega
theorem MS {r a:Nat} (hr:0<r) (h:a≤r):cO r a 0=0:=Nat.div_eq_of_lt (by omega)
theorem G2 {r a i:Nat} (hr:0<r) (h:a+i-r*cO r a i=r):a+i=r*(cO r a i+1)∧cO r a (i+1)=cO r a i+1:=by
 have h1:a+i=r*(cO r a i+1):=by rw [Nat.mul_succ];omega
 refine ⟨h1,?_⟩
 show (a+(i+1)-1)/r=_
 rw [show a+(i+1)-1=a+i by omega,h1,Nat.mul_div_cancel_left _ hr]
theorem G3 {r a i:Nat} (hr:0<r) (h:¬a+i-r*cO r a i=r):cO r a (i+1)=cO r a i:=by
 obtain ⟨h1,h2⟩:=nF (a:=a) (i:=i) hr
 show (a+(i+1)-1)/r=_
 have e:a+(i+1)-1=r*cO r a i+(a+i-r*cO r a i):=by omega
 rw [e,Nat.mul_add_div hr,Nat.div_eq_of_lt (by omega),Nat.add_zero]
theorem vD (r:Nat) (s:List UInt64) (a i:Nat):nZ r s a (i+1)=nZ r s a i++ [Dc r s (a+i)]:=zh _ _
theorem jR (r:Nat) (s:List UInt64) (a i:Nat):(nZ r s a i).length=i:=by simp [nZ]
set_option maxHeartbeats 4000000 in
theorem Pl (r:Nat) (s:List UInt64) (a n:Nat) (hr:mT r) (hs:s.length=25) (ha:a≤r) (hn:n≤65536):vc am (ah Sa) Tryz.f241.ntmps (ag Tryz.f241) ⟨al 0 [.one (.ptr 1000 0),.one (.ob .int (n:Int))],aK 1000 [.blk 268 [.vec .u64 25 s,.ob .int (r:Int),.ob .int (a:Int)]],2000⟩ (br am Tryz.f241.ntmps [.tmp 4] [.one (.rw 0)] [(0,.row 5 .u8 (nZ r s a n)),(1000,.blk 268 [.vec .u64 25 (f_ s (cO r a n)),.ob .int (r:Int),.ob .int ((a+n-r*cO r a n:Nat):Int)])] [.blk 268 [.vec .u64 25 s,.ob .int (r:Int),.ob .int (a:Int)]] []):=by
 have hr2:72≤r∧r≤168:=by rcases hr with rfl|rfl|rfl<;>omega
 refine Or.inr ⟨{i:Nat // i≤n},fun i=>⟨[(4,.one (.rw 0))],[(0,.row 5 .u8 (nZ r s a i.val)),(1000,.blk 268 [.vec .u64 25 (f_ s (cO r a i.val)),.ob .int (r:Int),.ob .int ((a+i.val-r*cO r a i.val:Nat):Int)])]⟩,fun i=>n-i.val,⟨0,by omega⟩,?_⟩
 refine ⟨rfl,rfl,by rw [show cO r a 0=0 from MS (by omega) ha];rfl,rfl,?_,fun i hl=>⟨fun h1=>⟨fun h2=> ?_,fun h2=> ?_⟩,fun h1=> ?_⟩⟩
 ·show [((a+0-r*cO r a 0:Nat):Int)]= [(a:Int)]
  rw [MS (by omega) ha];simp
 ·have h1:=of_decide_eq_true h1
  have h2:=of_decide_eq_true h2
  rw [jR] at h1
  have h2:a+i.val-r*cO r a i.val=r:=by omega
  obtain ⟨f1,f2⟩:=G2 (by omega) h2
  have hQ:=dX hs (cO r a i.val)
  have hb:nZ r s a (i.val+1)=nZ r s a i.val++ [(iI ((bh (f_ s (cO r a i.val))).getD 0 0) 0).toUInt8]:=by
   rw [vD,f1,show r*(cO r a i.val+1)=r*(cO r a i.val+1)+0 from rfl,zA _ (by omega)];rfl
  refine ⟨hQ,⟨?_,sj ⟨i.val+1,by omega⟩ ⟨hb,rfl,?_,rfl,?_,trivial⟩⟩⟩
  ·show (nZ r s a i.val++ [(iI ((bh (f_ s (cO r a i.val))).getD 0 0) 0).toUInt8]).length≤16777216
   rw [←hb,jR];omega
  ·show f_ s (cO r a (i.val+1))=bh (f_ s (cO r a i.val))
   rw [f2];rfl
  ·show [((a+(i.val+1)-r*cO r a (i.val+1):Nat):Int)]= [(1:Int)]
   rw [f2,←f1]
   exact congrArg (fun z:Int=> [z]) (by omega)
 ·have h1:=of_decide_eq_true h1
  have h2:=of_decide_eq_false h2
  rw [jR] at h1
  have h2:¬a+i.val-r*cO r a i.val=r:=by omega
  obtain ⟨s1,s2⟩:=nF (r:=r) (a:=a) (i:=i.val) (by omega)
  have f2:=G3 (by omega) h2
  obtain ⟨A,hA⟩:∃A,a+i.val-r*cO r a i.val=A:=⟨_,rfl⟩
  rw [hA] at h2 s2
  have hb:nZ r s a (i.val+1)=nZ r s a i.val++ [(iI ((f_ s (cO r a i.val)).getD ((A:Int)/8).toNat 0) (8*((A:Int)%8)).toNat).toUInt8]:=by
   rw [vD,show a+i.val=r*cO r a i.val+A by omega,zA _ (by omega),Th,TD];rfl
  have f3:a+(i.val+1)-r*cO r a (i.val+1)=A+1:=by rw [f2];omega
  have hl2:=jR r s a (i.val+1)
  rw [hA]
  refine ⟨⟨⟨by omega,by omega⟩,by omega,by omega⟩,⟨by omega,by show (A:Int)/8<25;omega⟩,by omega,?_⟩
  repeat refine sd ?_
  refine ⟨?_,?_⟩
  ·show (nZ r s a i.val++ [(iI ((f_ s (cO r a i.val)).getD ((A:Int)/8).toNat 0) (8*((A:Int)%8)).toNat).toUInt8]).length≤16777216
   rw [←hb,hl2];omega
  refine ⟨⟨by omega,by omega⟩,sj ⟨i.val+1,by omega⟩ ⟨hb,rfl,?_,rfl,?_,trivial⟩⟩
  ·show f_ s (cO r a (i.val+1))=f_ s (cO r a i.val)
   rw [f2]
  ·show [((a+(i.val+1)-r*cO r a (i.val+1):Nat):Int)]= [(A:Int)+1]
   rw [f3];rfl
 ·have h1:=of_decide_eq_false h1
  have hi:=i.2
  rw [jR] at h1
  rw [show i.val=n by omega]
  exact ⟨rfl,rfl,rfl,rfl,rfl,trivial⟩
def Rt (r a n:Int) (s:List UInt64):Prop:=mT r.toNat∧s.length=25∧0≤a∧a≤r∧DH 0 n 65536
def FB:fb:=fun l cs=>match l,cs with
 | [.one (.ptr 1000 0),.one (.ob .int n)],[.blk 268 [.vec .u64 25 s,.ob .int r,.ob .int a]]=>some ⟨[.one (.rw 0)],[(0,.row 5 .u8 (nZ r.toNat s a.toNat n.toNat)),(1000,.blk 268 [.vec .u64 25 (f_ s (cO r.toNat a.toNat n.toNat)),.ob .int r,.ob .int ((a.toNat+n.toNat-r.toNat*cO r.toNat a.toNat n.toNat:Nat):Int)])],[],some (Rt r a n s)⟩
 |_,_=>none
theorem zi:ab 241 (gB FB):=aQ aj SI Tryz.func241 (by kernel_rfl) rfl (rs:= [.tmp 4]) Tryz.results241 fun l cs g h hp=>by
 unfold FB at h
 split at h
 ·rename_i n s r a
  cases h
  obtain ⟨h1,h2,h3,h4,h5,h6⟩:=hp
  obtain ⟨n,rfl⟩:=Int.eq_ofNat_of_zero_le h5
  obtain ⟨a,rfl⟩:=Int.eq_ofNat_of_zero_le h3
  obtain ⟨r,rfl⟩:∃m:Nat,r=(m:Int):=⟨r.toNat,v8 (by rcases h1 with h|h|h<;>rw [h]<;>decide)⟩
  exact ⟨Nat.le_of_ble_eq_true rfl,rfl,rfl,rfl,Pl _ _ _ _ h1 h2 (by omega) (by omega)⟩
 ·cases h
def M3:List (Nat×CF):=(241,gB FB)::Sa
theorem P3:∀p∈M3,ab p.1 p.2:=ae zi L_
theorem Em:ap am (ah M3):=az aj (aR P3)
theorem su (r:Nat) (s:List UInt64) (n:Nat):nZ r s 0 n=(List.range n).map (Dc r s):=by
 unfold nZ
 refine List.map_congr_left fun j _=> ?_
 rw [Nat.zero_add]
theorem RT (n:Int) (q:List (List UInt8)) (hn:0≤n) (hq:q.flatten.length≤8000000):vc am (ah M3) Tryz.f259.ntmps (ag Tryz.f259) ⟨al 0 [.one (.ob .int n),.one (.bb q)],[],2000⟩ (aD am Tryz.f259.ntmps [.tmp 4] [.one (.rw 0)] [(0,.row 5 .u8 (eS 136 31 q.flatten (min n 65536).toNat))]):=by
 refine ⟨⟨.inr (.inl rfl),hq⟩,⟨.inr (.inl rfl),sK _ _ _,by decide,by decide,?_,?_⟩,?_,trivial⟩
 ·show 0≤min n 65536;omega
 ·show min n 65536≤65536;omega
 ·show eS 136 31 q.flatten (min n 65536).toNat=nZ 136 (DO 136 31 q.flatten) 0 (min n 65536).toNat
  rw [su];rfl
def Od:GF:=fun l=>match l with
 | [.one (.ob .int n),.one (.bb q)]=>some ⟨[.one (.rw 0)],[(0,.row 5 .u8 (eS 136 31 q.flatten (min n 65536).toNat))],some (0≤n∧q.flatten.length≤8000000)⟩
 |_=>none
theorem Da:ab 259 (aq Od):=af aj Em Tryz.func259 (by kernel_rfl) rfl (rs:= [.tmp 4]) Tryz.results259 fun l g h hp=>by
 unfold Od at h
 split at h
 ·cases h;exact ⟨Nat.le_of_ble_eq_true rfl,rfl,rfl,rfl,RT _ _ hp.1 hp.2⟩
 ·cases h
theorem Po (q:List (List UInt8)) (hq:q.flatten.length≤8000000):vc am (ah M3) Tryz.f212.ntmps (ag Tryz.f212) ⟨al 0 [.one (.bb q)],[],2000⟩ (aD am Tryz.f212.ntmps [.tmp 2] [.one (.rw 0)] [(0,.row 5 .u8 (gi 32 q.flatten))]):=by
 refine ⟨⟨.inr (.inl rfl),hq⟩,⟨.inr (.inl rfl),sK _ _ _,by decide,by decide,by decide,by decide⟩,?_,trivial⟩
 show gi 32 q.flatten=nZ 136 (DO 136 6 q.flatten) 0 32
 rw [su];rfl
def FI:GF:=fun l=>match l with
 | [.one (.bb q)]=>some ⟨[.one (.rw 0)],[(0,.row 5 .u8 (gi 32 q.flatten))],some (q.flatten.length≤8000000)⟩
 |_=>none
theorem zp:ab 212 (aq FI):=af aj Em Tryz.func212 (by kernel_rfl) rfl (rs:= [.tmp 2]) Tryz.results212 fun l g h hp=>by
 unfold FI at h
 split at h
 ·cases h;exact ⟨Nat.le_of_ble_eq_true rfl,rfl,rfl,rfl,Po _ hp⟩
 ·cases h
theorem Pp (q:List (List UInt8)) (hq:q.flatten.length≤8000000):vc am (ah M3) Tryz.f204.ntmps (ag Tryz.f204) ⟨al 0 [.one (.bb q)],[],2000⟩ (aD am Tryz.f204.ntmps [.tmp 2] [.one (.rw 0)] [(0,.row 5 .u8 (gi 64 q.flatten))]):=by
 refine ⟨⟨.inl rfl,hq⟩,⟨.inl rfl,sK _ _ _,by decide,by decide,by decide,by decide⟩,?_,trivial⟩
 show gi 64 q.flatten=nZ 72 (DO 72 6 q.flatten) 0 64
 rw [su];rfl
def FJ:GF:=fun l=>match l with
 | [.one (.bb q)]=>some ⟨[.one (.rw 0)],[(0,.row 5 .u8 (gi 64 q.flatten))],some (q.flatten.length≤8000000)⟩
 |_=>none
theorem zq:ab 204 (aq FJ):=af aj Em Tryz.func204 (by kernel_rfl) rfl (rs:= [.tmp 2]) Tryz.results204 fun l g h hp=>by
 unfold FJ at h
 split at h
 ·cases h;exact ⟨Nat.le_of_ble_eq_true rfl,rfl,rfl,rfl,Pp _ hp⟩
 ·cases h
theorem LF (q:List (List UInt8)) (hq:q.flatten.length≤8000000):vc am (ah M3) Tryz.f261.ntmps (ag Tryz.f261) ⟨al 0 [.one (.bb q)],[],2000⟩ (aD am Tryz.f261.ntmps [.tmp 2] [.one (.ptr 0 0)] [(0,.blk 291 [.ptr 1 0]),(1,.blk 268 [.vec .u64 25 (DO 168 31 q.flatten),.ob .int 168,.ob .int 0])]):=by
 exact ⟨⟨.inr (.inr rfl),hq⟩,rfl,rfl,rfl,rfl,trivial⟩
def xV:GF:=fun l=>match l with
 | [.one (.bb q)]=>some ⟨[.one (.ptr 0 0)],[(0,.blk 291 [.ptr 1 0]),(1,.blk 268 [.vec .u64 25 (DO 168 31 q.flatten),.ob .int 168,.ob .int 0])],some (q.flatten.length≤8000000)⟩
 |_=>none
theorem uN:ab 261 (aq xV):=af aj Em Tryz.func261 (by kernel_rfl) rfl (rs:= [.tmp 2]) Tryz.results261 fun l g h hp=>by
 unfold xV at h
 split at h
 ·cases h;exact ⟨Nat.le_of_ble_eq_true rfl,rfl,rfl,rfl,LF _ hp⟩
 ·cases h
theorem Ig (s:List UInt64) (a n:Int) (hs:s.length=25) (ha:0≤a∧a≤168) (hn:1≤n∧n≤65536):vc am (ah M3) Tryz.f262.ntmps (ag Tryz.f262) ⟨al 0 [.one (.ptr 1000 0),.one (.ob .int n)],aK 1000 [.blk 291 [.ptr 1001 0],.blk 268 [.vec .u64 25 s,.ob .int 168,.ob .int a]],2000⟩ (br am Tryz.f262.ntmps [.tmp 4] [.one (.rw 0)] [(0,.row 5 .u8 (nZ 168 s a.toNat n.toNat)),(1001,.blk 268 [.vec .u64 25 (f_ s (cO 168 a.toNat n.toNat)),.ob .int 168,.ob .int ((a.toNat+n.toNat-168*cO 168 a.toNat n.toNat:Nat):Int)])] [.blk 291 [.ptr 1001 0],.blk 268 [.vec .u64 25 s,.ob .int 168,.ob .int a]] []):=by
 refine ⟨fun h=>absurd (of_decide_eq_true h) (by omega),fun h=>⟨h,fun h2=>absurd (of_decide_eq_true h2) (by show ¬65536<n;omega),fun h2=> ?_⟩⟩
 exact ⟨⟨.inr (.inr rfl),hs,ha.1,ha.2,by omega,hn.2⟩,rfl,rfl,rfl,rfl,rfl,trivial⟩
def ra:fb:=fun l cs=>match l,cs with
 | [.one (.ptr 1000 0),.one (.ob .int n)],[.blk 291 [.ptr 1001 0],.blk 268 [.vec .u64 25 s,.ob .int 168,.ob .int a]]=>some ⟨[.one (.rw 0)],[(0,.row 5 .u8 (nZ 168 s a.toNat n.toNat)),(1001,.blk 268 [.vec .u64 25 (f_ s (cO 168 a.toNat n.toNat)),.ob .int 168,.ob .int ((a.toNat+n.toNat-168*cO 168 a.toNat n.toNat:Nat):Int)])],[],some (s.length=25∧(0≤a∧a≤168)∧1≤n∧n≤65536)⟩
 |_,_=>none
theorem sv:ab 262 (gB ra):=aQ aj Em Tryz.func262 (by kernel_rfl) rfl (rs:= [.tmp 4]) Tryz.results262 fun l cs g h hp=>by
 unfold ra at h
 split at h
 ·cases h;exact ⟨Nat.le_of_ble_eq_true rfl,rfl,rfl,rfl,Ig _ _ _ hp.1 hp.2.1 hp.2.2⟩
 ·cases h
set_option maxRecDepth 10000
def Sz:List (Nat×CF):= [(261,aq xV),(262,gB ra)]
theorem P4:∀p∈Sz,ab p.1 p.2:=ae uN<|ae sv fun p hp=>by cases hp
theorem SJ:ap am (ah Sz):=az aj (aR P4)
theorem Le (r:Nat) (s:List UInt64) (hr:0<r) (q j:Nat):Dc r (f_ s q) j=Dc r s (r*q+j):=by
 unfold Dc
 rw [iz,Nat.mul_add_div hr,Nat.mul_add_mod]
theorem K1 (s:List UInt64) (k:Nat) {A Q:Nat} (hA:504*k-168*cO 168 0 (504*k)=A) (hQ:cO 168 0 (504*k)=Q):nZ 168 (f_ s Q) A 504=(List.range 504).map (fun j=>Dc 168 s (504*k+j))∧Q+cO 168 A 504=cO 168 0 (504*(k+1))∧A+504-168*cO 168 A 504=504*(k+1)-168*cO 168 0 (504*(k+1))∧A≤168:=by
 obtain ⟨h1,h2⟩:=nF (r:=168) (a:=0) (i:=504*k) (by omega)
 rw [hQ] at h1 h2 hA
 have e:504*k=168*Q+A:=by omega
 refine ⟨?_,?_,?_,by omega⟩
 ·refine List.map_congr_left fun j _=> ?_
  rw [Le _ _ (by omega),e,Nat.add_assoc]
 ·unfold cO
  omega
 ·unfold cO
  omega
def cT (seed:List UInt8) (i j:UInt8):List UInt8:=seed++ [i,j]
set_option maxHeartbeats 4000000 in
theorem RV (seed:List UInt8) (i j:UInt8) (hs:seed.length=32):vc am (ah Sz) Tryz.f245.ntmps (ag Tryz.f245) ⟨al 0 [.one (.ro .u8 seed),.one (.ob .u8 i),.one (.ob .u8 j)],[],2000⟩ (aD am Tryz.f245.ntmps [.cell 6 141] [.agg [.vec .u16 256 (nP (cT seed i j))]] []):=by
 have hb:(cT seed i j).length=34:=by simp [cT,hs]
 obtain ⟨m,hm0,_,hm⟩:=Hq hb
 have hf: [seed,[i,j]].flatten=cT seed i j:=by simp [cT]
 refine ⟨by rw [hf];omega,?_⟩
 have hS:DO 168 31 [seed,[i,j]].flatten=bh (DQ (cT seed i j)):=by
  rw [hf]
  unfold DO
  rw [Br,hb,show (34+1+lj 168 34)/168=0+1 by decide]
  rfl
 rw [hS]
 have hS2:(bh (DQ (cT seed i j))).length=25:=fX (Bx _)
 have hB:∀n,Di (cT seed i j) n=Dc 168 (bh (DQ (cT seed i j))) n:=fun _=>rfl
 have hfin:∀k,(uS (Di (cT seed i j)) k).2=256→(uS (Di (cT seed i j)) k).1=nP (cT seed i j):=fun k h=>Lj h hb
 generalize bh (DQ (cT seed i j))=S at hS2 hB
 generalize Di (cT seed i j)=B at hB hm hfin
 refine Or.inr ⟨{k:Nat // k≤256*m},fun k=>⟨[(8,.one (.ob .int ((uS B (168*k.val)).2:Int)))],[(2000,.blk 141 [.vec .u16 256 (uS B (168*k.val)).1]),(2097,.blk 268 [.vec .u64 25 (f_ S (cO 168 0 (504*k.val))),.ob .int 168,.ob .int ((504*k.val-168*cO 168 0 (504*k.val):Nat):Int)])]⟩,fun k=>256*m-k.val,⟨0,by omega⟩,?_⟩
 have h0:cO 168 0 (504*0)=0:=by decide
 refine ⟨rfl,rfl,rfl,rfl,by show f_ S (cO 168 0 (504*0))=S;rw [h0];rfl,rfl,by show [((504*0-168*cO 168 0 (504*0):Nat):Int)]= [0];rw [h0];rfl,fun k=>⟨fun h1=> ?_,fun h1=> ?_⟩⟩
 ·have h1:=of_decide_eq_true h1
  obtain ⟨A,hA⟩:∃A,504*k.val-168*cO 168 0 (504*k.val)=A:=⟨_,rfl⟩
  obtain ⟨Q,hQ⟩:∃Q,cO 168 0 (504*k.val)=Q:=⟨_,rfl⟩
  obtain ⟨r1,r2,r3,r4⟩:=K1 S k.val hA hQ
  have hk:k.val+1≤256*m:=by
   rcases Nat.lt_or_ge k.val (256*m) with h|h
   ·exact h
   ·have:=lW B (256*m) (168*k.val-256*m)
    rw [show 256*m+(168*k.val-256*m)=168*k.val by omega] at this
    omega
  rw [hA,hQ]
  obtain ⟨C,hC⟩:∃C,(List.range 504).map (fun j=>Dc 168 S (504*k.val+j))=C:=⟨_,rfl⟩
  have hC1:C.length=504:=by rw [←hC];simp
  have hC2:∀t,t<504→C.getD t 0=B (504*k.val+t):=fun t ht=>by rw [←hC,aZ ht,hB]
  rw [hC] at r1
  clear hC
  refine ⟨⟨dX hS2 _,⟨Int.natCast_nonneg _,by show (A:Int)≤168;omega⟩,by decide,by decide⟩,Or.inr ⟨{t:Nat // t≤168},fun t=>⟨[(9,.one (.ro .u8 (C.drop (3*t.val)))),(8,.one (.ob .int ((uS B (168*k.val+t.val)).2:Int)))],[(2000,.blk 141 [.vec .u16 256 (uS B (168*k.val+t.val)).1])]⟩,fun t=>168-t.val,⟨0,by omega⟩,?_⟩⟩
  refine ⟨?_,rfl,rfl,rfl,fun t hl=>⟨fun h2=> ?_,fun h2=> ?_⟩⟩
  ·show C.drop (3*0)=nZ 168 (f_ S Q) (A:Int).toNat 504
   rw [Int.toNat_natCast,r1];rfl
  ·have h2:=of_decide_eq_true h2
   have ht:=t.2
   have hd:(C.drop (3*t.val)).length=C.length-3*t.val:=List.length_drop
   have hg:∀x,x<3→t.val<168→(C.drop (3*t.val)).getD x 0=B (3*(168*k.val+t.val)+x):=fun x hx ht=>by
    rw [mM,hC2 _ (by omega)];congr 1;omega
   have h3:t.val<168:=by omega
   have hd2:(C.drop (3*t.val)).length=504-3*t.val:=by rw [hd,hC1]
   have g0:0<(C.drop (3*t.val)).length:=by rw [hd2];omega
   have g1:1<(C.drop (3*t.val)).length:=by rw [hd2];omega
   have g2:2<(C.drop (3*t.val)).length:=by rw [hd2];omega
   obtain ⟨V,hV0,hV2,hV⟩:∃V:Nat→List UInt16×Nat,V 0=uS B (168*k.val+t.val)∧V 2=uS B (168*k.val+(t.val+1))∧∀i,i<2→V (i+1)=dT ([O1 ((C.drop (3*t.val)).getD 0 0) ((C.drop (3*t.val)).getD 1 0),PS ((C.drop (3*t.val)).getD 1 0) ((C.drop (3*t.val)).getD 2 0)].getD i 0) (V i):=by
    refine ⟨fun i=>match i with |0=>uS B (168*k.val+t.val)|1=>dT (O1 ((C.drop (3*t.val)).getD 0 0) ((C.drop (3*t.val)).getD 1 0)) (uS B (168*k.val+t.val))|_=>uS B (168*k.val+(t.val+1)),rfl,rfl,fun i hi=> ?_⟩
    rcases i with _|_|i
    ·rfl
    ·show uS B (168*k.val+(t.val+1))=dT (PS _ _) (dT (O1 _ _) _)
     rw [hg 0 (by omega) h3,hg 1 (by omega) h3,hg 2 (by omega) h3]
     rfl
    ·omega
   have hV1:∀i,i≤2→(V i).2≤256:=fun i hi=>by
    have u0:=iQ B (168*k.val+t.val)
    have u2:=iQ B (168*k.val+(t.val+1))
    rcases i with _|_|_|i
    ·rw [hV0];exact u0.le
    ·rw [hV 0 (by omega),hV0];exact (dJ u0).1.le
    ·rw [hV2];exact u2.le
    ·omega
   refine ⟨g0,g1,g1,g2,fun _=> ?_⟩
   refine Or.inr ⟨{i:Nat // i≤2},fun i=>⟨[(51,.one (.ob .int (i.val:Int))),(8,.one (.ob .int ((V i.val).2:Int)))],[(2000,.blk 141 [.vec .u16 256 (V i.val).1])]⟩,fun i=>2-i.val,⟨0,by omega⟩,?_⟩
   refine ⟨rfl,by show [((V 0).2:Int)]= [_];rw [hV0],rfl,by show (V 0).1=_;rw [hV0],fun i=>⟨fun h4=> ?_,fun h4=> ?_⟩⟩
   ·have h4:=of_decide_eq_true h4
    have hi:=i.2
    have hi2:i.val<2:=by
     have h4:(i.val:Int)<((2:Nat):Int):=h4
     omega
    have hv1:=hV1 i.val (by omega)
    have hvs:=hV i.val hi2
    obtain ⟨x,hx⟩:∃x,[O1 ((C.drop (3*t.val)).getD 0 0) ((C.drop (3*t.val)).getD 1 0),PS ((C.drop (3*t.val)).getD 1 0) ((C.drop (3*t.val)).getD 2 0)].getD i.val 0=x:=⟨_,rfl⟩
    have hxx:∀p:UInt16→Prop,p ([O1 ((C.drop (3*t.val)).getD 0 0) ((C.drop (3*t.val)).getD 1 0),PS ((C.drop (3*t.val)).getD 1 0) ((C.drop (3*t.val)).getD 2 0)].getD i.val 0)→p x:=fun p h=>by rw [hx] at h;exact h
    rw [hx] at hvs
    refine ⟨⟨by omega,h4⟩,by show i.val<2;exact hi2,fun h5=> ?_,fun h5=> ?_⟩
    ·have h5':x<3329:=hxx (fun x=>x<3329) (of_decide_eq_true h5)
     refine ⟨h5,fun h6=> ?_,fun h6=> ?_⟩
     ·have h6':(V i.val).2<256:=by
       have:((V i.val).2:Int)<256:=of_decide_eq_true h6
       omega
      rw [dT,if_pos ⟨h5',h6'⟩] at hvs
      refine ⟨⟨by omega,by show ((V i.val).2:Int)<256;omega⟩,by show ((V i.val).2:Int).toNat<256;omega,⟨by omega,by omega⟩,⟨by omega,by omega⟩,⟨i.val+1,by omega⟩,?_,rfl,?_,rfl,?_,trivial⟩
      ·show 2-(i.val+1)<2-i.val;omega
      ·show [((V (i.val+1)).2:Int)]= [((V i.val).2:Int)+1]
       rw [hvs];rfl
      ·show (V (i.val+1)).1=(V i.val).1.set ((V i.val).2:Int).toNat ([O1 ((C.drop (3*t.val)).getD 0 0) ((C.drop (3*t.val)).getD 1 0),PS ((C.drop (3*t.val)).getD 1 0) ((C.drop (3*t.val)).getD 2 0)].getD i.val 0)
       rw [hx,hvs];rfl
     ·have h6':¬(V i.val).2<256:=by
       have:¬((V i.val).2:Int)<256:=of_decide_eq_false h6
       omega
      rw [dT,if_neg fun c=>h6' c.2] at hvs
      refine ⟨⟨by omega,by omega⟩,⟨i.val+1,by omega⟩,?_,rfl,?_,rfl,?_,trivial⟩
      ·show 2-(i.val+1)<2-i.val;omega
      ·show [((V (i.val+1)).2:Int)]= [((V i.val).2:Int)]
       rw [hvs]
      ·show (V (i.val+1)).1=(V i.val).1
       rw [hvs]
    ·have h5':¬x<3329:=hxx (fun x=>¬x<3329) (of_decide_eq_false h5)
     rw [dT,if_neg fun c=>h5' c.1] at hvs
     refine ⟨h5,⟨by omega,by omega⟩,⟨i.val+1,by omega⟩,?_,rfl,?_,rfl,?_,trivial⟩
     ·show 2-(i.val+1)<2-i.val;omega
     ·show [((V (i.val+1)).2:Int)]= [((V i.val).2:Int)]
      rw [hvs]
     ·show (V (i.val+1)).1=(V i.val).1
      rw [hvs]
   ·have h4:¬(i.val:Int)<((2:Nat):Int):=of_decide_eq_false h4
    have hi:=i.2
    rw [show i.val=2 by omega,hV2]
    refine ⟨⟨by decide,by show (3:Int)≤((C.drop (3*t.val)).length:Nat);omega⟩,⟨t.val+1,by omega⟩,?_,?_,rfl,rfl,rfl,trivial⟩
    ·show 168-(t.val+1)<168-t.val;omega
    ·show C.drop (3*(t.val+1))=(C.drop (3*t.val)).drop 3
     rw [List.drop_drop];congr 1
  ·have h2:¬(0:Int)<((C.drop (3*t.val)).length:Nat):=of_decide_eq_false h2
   have ht:=t.2
   have hd:(C.drop (3*t.val)).length=C.length-3*t.val:=List.length_drop
   have e:t.val=168:=by omega
   rw [e]
   have hu:168*(k.val+1)=168*k.val+168:=by omega
   refine ⟨⟨k.val+1,hk⟩,?_,?_,rfl,?_,rfl,?_,rfl,?_,trivial⟩
   ·show 256*m-(k.val+1)<256*m-k.val;omega
   ·show [((uS B (168*(k.val+1))).2:Int)]= [((uS B (168*k.val+168)).2:Int)]
    rw [hu]
   ·show (uS B (168*(k.val+1))).1=(uS B (168*k.val+168)).1
    rw [hu]
   ·show f_ S (cO 168 0 (504*(k.val+1)))=f_ (f_ S Q) (cO 168 (A:Int).toNat 504)
    rw [iz,Int.toNat_natCast,r2]
   ·show [((504*(k.val+1)-168*cO 168 0 (504*(k.val+1)):Nat):Int)]= [(((A:Int).toNat+504-168*cO 168 (A:Int).toNat 504:Nat):Int)]
    rw [Int.toNat_natCast,r3]
 ·have h1:¬((uS B (168*k.val)).2:Int)<256:=of_decide_eq_false h1
  have h2:=(iQ B (168*k.val)).le
  rw [←hfin (168*k.val) (by omega)]
  exact ⟨rfl,rfl,trivial⟩
def Og:GF:=fun l=>match l with
 | [.one (.ro .u8 seed),.one (.ob .u8 i),.one (.ob .u8 j)]=>some ⟨[.agg [.vec .u16 256 (nP (cT seed i j))]],[],some (seed.length=32)⟩
 |_=>none
theorem Dg:ab 245 (aq Og):=af aj SJ Tryz.func245 (by kernel_rfl) rfl (rs:= [.cell 6 141]) Tryz.results245 fun l g h hp=>by
 unfold Og at h
 split at h
 ·cases h;exact ⟨Nat.le_of_ble_eq_true rfl,rfl,rfl,rfl,RV _ _ _ hp⟩
 ·cases h
set_option maxRecDepth 10000
def Sb:List (Nat×CF):=(259,aq Od)::Eh
theorem Ma:∀p∈Sb,ab p.1 p.2:=ae Da wG
theorem SK:ap am (ah Sb):=az aj (aR Ma)
theorem pM (x:UInt32) (k:Nat):(ll x k&&&1).toNat=x.toNat/2^k%2:=by
 have h:=Nat.lt_of_le_of_lt (Nat.div_le_self x.toNat (2^k)) x.toNat_lt
 rw [UInt32.toNat_and,ll,UInt32.toNat_ofNat',Nat.mod_eq_of_lt h]
 exact Nat.and_one_is_mod _
theorem OE {y0 y1 y2 y3:UInt32} (b0:y0.toNat<2) (b1:y1.toNat<2) (b2:y2.toNat<2) (b3:y3.toNat<2):(y0+y1+UInt32.ofNat 3329-y2-y3).toNat=y0.toNat+y1.toNat+3329-y2.toNat-y3.toNat:=by
 rw [UInt32.toNat_sub,UInt32.toNat_sub,UInt32.toNat_add,UInt32.toNat_add,show (UInt32.ofNat 3329).toNat=3329 from rfl]
 omega
theorem OF (x:UInt32):ja ((x&&&1)+(ll x 1&&&1)+UInt32.ofNat 3329-(ll x 2&&&1)-(ll x 3&&&1))=UInt16.ofNat ((x.toNat/2^0%2+x.toNat/2^1%2+3329-x.toNat/2^2%2-x.toNat/2^3%2)%3329):=by
 have e0:(x&&&1).toNat=x.toNat/2^0%2:=by
  rw [UInt32.toNat_and,Nat.pow_zero,Nat.div_one]
  exact Nat.and_one_is_mod _
 rw [ic,OE (by rw [e0];exact Nat.mod_lt _ (by omega)) (by rw [pM];exact Nat.mod_lt _ (by omega)) (by rw [pM];exact Nat.mod_lt _ (by omega)) (by rw [pM];exact Nat.mod_lt _ (by omega)),e0,pM,pM,pM]
theorem rU (D:List UInt8) (i k:Nat) (hk:k<4):cI D (4*i+k)=(ll (UInt8.toUInt32 (D.getD (i/2) 0)) (i%2*4)).toNat/2^k%2:=by
 have hb:=(D.getD (i/2) 0).toNat_lt
 have h:=Nat.lt_of_le_of_lt (Nat.div_le_self (D.getD (i/2) 0).toNat (2^(i%2*4))) (show _<2^32 by omega)
 rw [cI,show (4*i+k)/8=i/2 by omega,show (4*i+k)%8=i%2*4+k by omega,ll,UInt32.toNat_ofNat',UInt8.toNat_toUInt32,Nat.mod_eq_of_lt h,Nat.pow_add,Nat.div_div_eq_div_mul]
set_option maxHeartbeats 2000000 in
theorem Dy (s:List UInt8) (n:UInt8) (h:s.length≤1000):vc am (ah Sb) Tryz.f242.ntmps (ag Tryz.f242) ⟨al 0 [.one (.ro .u8 s),.one (.ob .u8 n)],[],2000⟩ (aD am Tryz.f242.ntmps [.cell 4 141] [.agg [.vec .u16 256 (dn s n)]] []):=by
 have e1: [s,[n]].flatten=s++ [n]:=by simp
 refine ⟨⟨by decide,by rw [e1];simp;omega⟩,?_⟩
 rw [e1]
 have hD:(ep 32 128 (s++ [n])).length=128:=gZ _ _ _ _
 have hN:dn s n=(List.range 256).map fun i=>UInt16.ofNat ((cI (ep 32 128 (s++ [n])) (4*i)+cI (ep 32 128 (s++ [n])) (4*i+1)+3329-cI (ep 32 128 (s++ [n])) (4*i+2)-cI (ep 32 128 (s++ [n])) (4*i+3))%3329):=rfl
 have hk:eS 136 31 (s++ [n]) (min 128 65536:Int).toNat=ep 32 128 (s++ [n]):=rfl
 rw [hk]
 generalize ep 32 128 (s++ [n])=D at hD hN ⊢
 rw [hN]
 refine Or.inr ⟨{i:Nat // i≤256},fun i=>⟨[(13,.one (.ob .int (i.val:Int)))],[(2000,.blk 141 [.vec .u16 256 (bx 0 256 (fun i=>UInt16.ofNat ((cI D (4*i)+cI D (4*i+1)+3329-cI D (4*i+2)-cI D (4*i+3))%3329)) (List.replicate 256 0) i.val)])]⟩,fun i=>256-i.val,⟨0,by omega⟩,?_⟩
 refine ⟨rfl,rfl,dl List.length_replicate,fun i=>⟨fun h1=> ?_,fun h1=> ?_⟩⟩
 ·have h1:=of_decide_eq_true h1
  have hi:=i.2
  repeat refine sd ?_
  refine sj ⟨i.val+1,by omega⟩<|sr<|sr ⟨?_,trivial⟩
  refine ((congrArg (List.set _ i.val) ?_).trans bq).symm
  show ja ((ll (UInt8.toUInt32 (D.getD ((i.val:Int)/2).toNat 0)) ((i.val:Int)%2*4).toNat&&&1)+(ll (ll (UInt8.toUInt32 (D.getD ((i.val:Int)/2).toNat 0)) ((i.val:Int)%2*4).toNat) 1&&&1)+UInt32.ofNat 3329-(ll (ll (UInt8.toUInt32 (D.getD ((i.val:Int)/2).toNat 0)) ((i.val:Int)%2*4).toNat) 2&&&1)-(ll (ll (UInt8.toUInt32 (D.getD ((i.val:Int)/2).toNat 0)) ((i.val:Int)%2*4).toNat) 3&&&1))=_
  rw [show ((i.val:Int)/2).toNat=i.val/2 by omega,show ((i.val:Int)%2*4).toNat=i.val%2*4 by omega,OF,←rU D i.val 0 (by omega),←rU D i.val 1 (by omega),←rU D i.val 2 (by omega),←rU D i.val 3 (by omega)]
  rfl
 have h1:=of_decide_eq_false h1
 have hi:=i.2
 rw [show i.val=256 by omega,b7 (by omega)]
 exact ⟨rfl,rfl,trivial⟩
def mI:GF:=fun l=>match l with
 | [.one (.ro .u8 s),.one (.ob .u8 n)]=>some ⟨[.agg [.vec .u16 256 (dn s n)]],[],some (s.length≤1000)⟩
 |_=>none
theorem oz:ab 242 (aq mI):=af aj SK Tryz.func242 (by kernel_rfl) rfl (rs:= [.cell 4 141]) Tryz.results242 fun l g h hp=>by
 unfold mI at h
 split at h
 ·cases h;exact ⟨Nat.le_of_ble_eq_true rfl,rfl,rfl,rfl,Dy _ _ hp⟩
 ·cases h
theorem pP (a:Nat):∀b,aX (a+b)=aX a*aX b%3329
 |0=>by have:=fC a;rw [Nat.add_zero,aX,Nat.mul_one,Nat.mod_eq_of_lt this]
 |b+1=>by
  show aX (a+b)*17%3329=aX a*(aX b*17%3329)%3329
  rw [pP a b,Nat.mod_mul_mod,Nat.mul_mod_mod,Nat.mul_assoc]
theorem TT (r:Nat):(UInt32.ofNat (aX r)*UInt32.ofNat (aX r)%UInt32.ofNat 3329*UInt32.ofNat 17%UInt32.ofNat 3329)=UInt32.ofNat (aX (2*r+1)):=by
 have h1:=fC r
 have h2:=fC (2*r+1)
 have h3:aX r*aX r≤3329*3329:=Nat.mul_le_mul (by omega) (by omega)
 have e:aX (2*r+1)=aX r*aX r%3329*17%3329:=by
  show aX (2*r)*17%3329=_
  rw [Nat.two_mul,pP]
 apply UInt32.toNat_inj.1
 rw [e]
 generalize aX r=z at*
 rw [UInt32.toNat_mod,UInt32.toNat_mul,UInt32.toNat_mod,UInt32.toNat_mul,UInt32.toNat_ofNat',UInt32.toNat_ofNat',UInt32.toNat_ofNat',UInt32.toNat_ofNat',show 17%2^32=17 from rfl,show 3329%2^32=3329 from rfl,Nat.mod_eq_of_lt (show z<2^32 by omega)]
 generalize z*z=y at*
 have hv:=Nat.mod_lt y (show 3329>0 by omega)
 have hw:=Nat.mod_lt (y%3329*17) (show 3329>0 by omega)
 rw [Nat.mod_eq_of_lt (show y<2^32 by omega),Nat.mod_eq_of_lt (show y%3329*17<2^32 by omega),Nat.mod_eq_of_lt (show y%3329*17%3329<2^32 by omega)]
def si (f g b:List UInt16):Nat→List UInt16
 |0=>b
 |i+1=>((si f g b i).set (2*i) (UInt16.ofNat ((sh f (2*i)*sh g (2*i)+sh f (2*i+1)*sh g (2*i+1)%3329*aX (2*cm i 7+1))%3329))).set (2*i+1) (UInt16.ofNat ((sh f (2*i)*sh g (2*i+1)+sh f (2*i+1)*sh g (2*i))%3329))
theorem MO (f g:List UInt16):∀i,si f g (List.replicate 256 0) i=eP f g i
 |0=>rfl
 |i+1=>by rw [si,MO f g i];rfl
theorem iq (f g b:List UInt16):∀i,(si f g b i).length=b.length
 |0=>rfl
 |i+1=>by rw [si,List.length_set,List.length_set,iq f g b i]
theorem fi (l:List UInt16) (i j:Nat) (x:UInt16):(l.set i x).getD j 0=if i=j∧j<l.length then x else l.getD j 0:=by
 rw [List.getD_eq_getElem?_getD,List.getElem?_set]
 by_cases h:i=j
 ·subst h
  by_cases h2:i<l.length
  ·simp [h2]
  ·simp [h2]
 ·simp [h]
theorem zb (f g b:List UInt16):∀i j,2*i≤j→(si f g b i).getD j 0=b.getD j 0
 |0,j,_=>rfl
 |i+1,j,h=>by rw [si,fi,fi,if_neg (by omega),if_neg (by omega),zb f g b i j (by omega)]
theorem GT (f g b b':List UInt16) (hb:b.length=b'.length):∀i j,j<2*i→2*i≤b.length→(si f g b i).getD j 0=(si f g b' i).getD j 0
 |0,j,h,_=>by omega
 |i+1,j,h,hl=>by
  have l1:=iq f g b i
  have l2:=iq f g b' i
  rw [si,si,fi,fi,fi,fi]
  simp only [List.length_set,l1,l2,hb]
  split
  ·rfl
  ·split
   ·rfl
   ·exact GT f g b b' hb i j (by omega) (by omega)
theorem KQ (f g b:List UInt16) (hb:b.length=256):si f g b 128=eP f g 128:=by
 rw [←MO]
 apply List.ext_getElem (by rw [iq,iq,hb];rfl)
 intro j h1 h2
 have:=GT f g b (List.replicate 256 0) (by rw [hb];rfl) 128 j (by rw [iq] at h1;omega) (by omega)
 rw [List.getD_eq_getElem?_getD,List.getD_eq_getElem?_getD,List.getElem?_eq_getElem h1,List.getElem?_eq_getElem h2] at this
 exact this
theorem rx (f:List UInt16) {i:Nat} (h:i<256):(eC f).getD i 0=UInt16.ofNat (sh f i):=by
 unfold eC ou
 rw [aZ h]
 show UInt16.ofNat ((gu f i+gu (List.replicate 256 0) i)%3329)=_
 rw [show gu (List.replicate 256 0) i=0 by unfold gu;rw [List.getD_eq_getElem?_getD,List.getElem?_replicate];split<;>rfl,Nat.add_zero,sh]
theorem sT {n:Nat} (h:n<3329):(UInt16.ofNat n).toUInt32=UInt32.ofNat n:=by
 apply UInt32.toNat_inj.1
 rw [UInt16.toNat_toUInt32,UInt16.toNat_ofNat',UInt32.toNat_ofNat',Nat.mod_eq_of_lt (by omega),Nat.mod_eq_of_lt (by omega)]
theorem dM (f:List UInt16) (i:Nat):sh f i<3329:=Nat.mod_lt _ (by omega)
theorem uM {x y:Nat} (hx:x<3329) (hy:y<3329):x*y≤11082241:=Nat.mul_le_mul (show x≤3329 by omega) (show y≤3329 by omega)
theorem Gr {x y:Nat} (hx:x<3329) (hy:y<3329):(UInt32.ofNat x*UInt32.ofNat y).toNat=x*y:=by
 have:=uM hx hy
 rw [UInt32.toNat_mul,UInt32.toNat_ofNat',UInt32.toNat_ofNat',Nat.mod_eq_of_lt (show x<2^32 by omega),Nat.mod_eq_of_lt (show y<2^32 by omega),Nat.mod_eq_of_lt (by omega)]
theorem T7 {a b c d z:Nat} (ha:a<3329) (hb:b<3329) (hc:c<3329) (hd:d<3329) (hz:z<3329):ja (UInt32.ofNat a*UInt32.ofNat c+UInt32.ofNat b*UInt32.ofNat d%UInt32.ofNat 3329*UInt32.ofNat z)=UInt16.ofNat ((a*c+b*d%3329*z)%3329):=by
 have h1:=uM ha hc
 have hv:=Nat.mod_lt (b*d) (show 3329>0 by omega)
 have h2:=uM hv hz
 have e:UInt32.ofNat b*UInt32.ofNat d%UInt32.ofNat 3329=UInt32.ofNat (b*d%3329):=by
  apply UInt32.toNat_inj.1
  rw [UInt32.toNat_mod,Gr hb hd,UInt32.toNat_ofNat',UInt32.toNat_ofNat',Nat.mod_eq_of_lt (show b*d%3329<2^32 by omega)]
 rw [ic,e,UInt32.toNat_add,Gr ha hc,Gr hv hz,Nat.mod_eq_of_lt (show a*c+b*d%3329*z<2^32 by omega)]
theorem T8 {a b c d:Nat} (ha:a<3329) (hb:b<3329) (hc:c<3329) (hd:d<3329):ja (UInt32.ofNat a*UInt32.ofNat d+UInt32.ofNat b*UInt32.ofNat c)=UInt16.ofNat ((a*d+b*c)%3329):=by
 have h1:=uM ha hd
 have h2:=uM hb hc
 rw [ic,UInt32.toNat_add,Gr ha hd,Gr hb hc,Nat.mod_eq_of_lt (show a*d+b*c<2^32 by omega)]
set_option maxHeartbeats 4000000 in
theorem LN (f g:List UInt16) (hf:f.length=256) (hg:g.length=256):vc am (ah Ej) Tryz.f247.ntmps (ag Tryz.f247) ⟨al 0 [.agg [.vec .u16 256 f],.agg [.vec .u16 256 g]],[],2000⟩ (aD am Tryz.f247.ntmps [.cell 4 141] [.agg [.vec .u16 256 (eP f g 128)]] []):=by
 refine ⟨hf,hg,?_⟩
 have hrl:(eC f).length=256:=jL _ _
 refine Or.inr ⟨{c:Nat // c≤128},fun c=>⟨[(6,.one (.ob .int ((2*c.val:Nat):Int)))],[(2000,.blk 141 [.vec .u16 256 (si f g (eC f) c.val)])]⟩,fun c=>128-c.val,⟨0,by omega⟩,?_⟩
 refine ⟨rfl,rfl,rfl,fun c=>⟨fun h1=> ?_,fun h1=> ?_⟩⟩
 ·have h1:=of_decide_eq_true h1
  have hc:=c.2
  have hc2:c.val<128:=by omega
  repeat first |refine sd ?_|refine ⟨by decide,?_⟩
  refine sj ⟨c.val+1,by omega⟩ ⟨congrArg (fun z:Int=> [z]) ?_,rfl,?_,trivial⟩
  ·show ((2*(c.val+1):Nat):Int)=((2*c.val:Nat):Int)+2
   omega
  have hz:=fC (2*cm c.val 7+1)
  show si f g (eC f) (c.val+1)=((si f g (eC f) c.val).set ((2*c.val:Nat):Int).toNat (ja (UInt16.toUInt32 ((si f g (eC f) c.val).getD ((2*c.val:Nat):Int).toNat 0)*UInt16.toUInt32 ((eC g).getD ((2*c.val:Nat):Int).toNat 0)+UInt16.toUInt32 ((si f g (eC f) c.val).getD (((2*c.val:Nat):Int)+1).toNat 0)*UInt16.toUInt32 ((eC g).getD (((2*c.val:Nat):Int)+1).toNat 0)%UInt32.ofNat 3329*(zS.getD (((2*c.val:Nat):Int)/2).toNat 0*zS.getD (((2*c.val:Nat):Int)/2).toNat 0%UInt32.ofNat 3329*UInt32.ofNat 17%UInt32.ofNat 3329)))).set (((2*c.val:Nat):Int)+1).toNat (ja (UInt16.toUInt32 ((si f g (eC f) c.val).getD ((2*c.val:Nat):Int).toNat 0)*UInt16.toUInt32 ((eC g).getD (((2*c.val:Nat):Int)+1).toNat 0)+UInt16.toUInt32 ((si f g (eC f) c.val).getD (((2*c.val:Nat):Int)+1).toNat 0)*UInt16.toUInt32 ((eC g).getD ((2*c.val:Nat):Int).toNat 0)))
  rw [show ((2*c.val:Nat):Int).toNat=2*c.val by omega,show (((2*c.val:Nat):Int)+1).toNat=2*c.val+1 by omega,show (((2*c.val:Nat):Int)/2).toNat=c.val by omega,BC hc2,TT,zb _ _ _ _ _ (Nat.le_refl _),zb _ _ _ _ _ (Nat.le_succ _),rx f (by omega),rx f (by omega),rx g (by omega),rx g (by omega),sT (dM _ _),sT (dM _ _),sT (dM _ _),sT (dM _ _),T7 (dM _ _) (dM _ _) (dM _ _) (dM _ _) hz,T8 (dM _ _) (dM _ _) (dM _ _) (dM _ _)]
  rfl
 have h1:=of_decide_eq_false h1
 have hc:=c.2
 rw [show c.val=128 by omega,KQ _ _ _ hrl]
 exact ⟨rfl,rfl,trivial⟩
def yc:GF:=fun l=>match l with
 | [.agg [.vec .u16 256 f],.agg [.vec .u16 256 g]]=>some ⟨[.agg [.vec .u16 256 (eP f g 128)]],[],some (f.length=256∧g.length=256)⟩
 |_=>none
theorem vH:ab 247 (aq yc):=af aj Er Tryz.func247 (by kernel_rfl) rfl (rs:= [.cell 4 141]) Tryz.results247 fun l g h hp=>by
 unfold yc at h
 split at h
 ·cases h;exact ⟨Nat.le_of_ble_eq_true rfl,rfl,rfl,rfl,LN _ _ hp.1 hp.2⟩
 ·cases h
theorem Gm (g:Nat) {d k:Nat} (hk:k<d):g%2^d/2^k%2=g/2^k%2:=by
 have h:=Nat.testBit_mod_two_pow g d k
 rw [Nat.testBit_eq_decide_div_mod_eq,Nat.testBit_eq_decide_div_mod_eq,decide_eq_true hk,Bool.true_and,Bool.eq_iff_iff,decide_eq_true_iff,decide_eq_true_iff] at h
 have a:=Nat.mod_lt (g%2^d/2^k) (show 2>0 by omega)
 have b:=Nat.mod_lt (g/2^k) (show 2>0 by omega)
 omega
theorem Jb (x:UInt16) (k:Nat):(OS x k&&&1).toUInt8=UInt8.ofNat (x.toNat/2^k&&&1):=by
 have h:=Nat.lt_of_le_of_lt (Nat.div_le_self x.toNat (2^k)) x.toNat_lt
 apply UInt8.toNat_inj.1
 rw [UInt16.toNat_toUInt8,UInt16.toNat_and,OS,UInt16.toNat_ofNat',UInt8.toNat_ofNat',Nat.mod_eq_of_lt h]
 rfl
set_option maxHeartbeats 2000000 in
theorem LM (f:List UInt16) (d:Nat) (hd:1≤d∧d≤12):vc am (ah Ej) Tryz.f248.ntmps (ag Tryz.f248) ⟨al 0 [.agg [.vec .u16 256 f],.one (.ob .int (d:Int))],[],2000⟩ (aD am Tryz.f248.ntmps [.tmp 4,.tmp 5] [.one (.rw 0),.one (.ob .int 0)] [(0,.row 5 .u8 (bN d f))]):=by
 refine ⟨fun h1=> ?_,fun h1=>⟨h1,fun h2=> ?_,fun h2=> ?_⟩⟩
 ·have h1:=of_decide_eq_true h1;omega
 ·have h2:=of_decide_eq_true h2;omega
 refine sd<|⟨⟨show (0:Int)≤32*(d:Int) by omega,rfl,show 32*(d:Int)≤16777216 by omega⟩,?_⟩
 refine Or.inr ⟨{i:Nat // i≤256},fun i=>⟨[(21,.one (.ob .int (i.val:Int)))],[(2176,.row 5 .u8 (aV (32*d) (gm d f%2^(d*i.val))))]⟩,fun i=>256-i.val,⟨0,by omega⟩,?_⟩
 refine ⟨rfl,?_,fun i=>⟨fun h3=> ?_,fun h3=> ?_⟩⟩
 ·show aV (32*d) (gm d f%2^(d*0))=List.replicate (32*(d:Int)).toNat 0
  rw [Nat.mul_zero,Nat.pow_zero,Nat.mod_one,Ga,show (32*(d:Int)).toNat=32*d by omega]
 ·have h3:=of_decide_eq_true h3
  have hi:=i.2
  have hL:(aV (32*d) (gm d f%2^(d*i.val))).length=32*d:=ar _ _
  have m1:(i.val:Int)*(d:Int)=((d*i.val:Nat):Int):=by rw [Nat.mul_comm];rfl
  have m2:d*i.val+d≤d*256:=by rw [←Nat.mul_succ];exact Nat.mul_le_mul_left _ (by omega)
  have m3:d*256≤12*256:=Nat.mul_le_mul_right _ hd.2
  have b1:0≤(i.val:Int)*(d:Int):=by rw [m1];exact Int.natCast_nonneg _
  have b2:(i.val:Int)*(d:Int)+(d:Int)≤256*(d:Int):=by rw [m1];omega
  have hbit:=fun k hk=>tZ (d:=d) f (i:=i.val) (k:=k) (by omega) hk
  repeat refine sd ?_
  refine ⟨fun h4=> ?_,fun h4=> ?_⟩
  all_goals
   first
    |(have h4:d=12:=by have:=of_decide_eq_true h4;omega
      have hx:∀k,k<d→(f.getD (i.val:Int).toNat 0%UInt16.ofNat 3329).toNat/2^k%2=pv d f i.val/2^k%2:=fun k _=>by
       rw [pv,if_pos h4,UInt16.toNat_mod];rfl
      refine ⟨by decide,?_⟩
      revert hx
      show (∀k,k<d→(f.getD (i.val:Int).toNat (Kd.df .u16)%UInt16.ofNat 3329).toNat/2^k%2=pv d f i.val/2^k%2)→_
      generalize f.getD (i.val:Int).toNat (Kd.df .u16)%UInt16.ofNat 3329=x)
    |(have h4:¬d=12:=by have:=of_decide_eq_false h4;omega
      have hx:∀k,k<d→(f.getD (i.val:Int).toNat 0).toNat/2^k%2=pv d f i.val/2^k%2:=fun k hk=>by
       rw [pv,if_neg h4,Gm _ hk];rfl
      revert hx
      show (∀k,k<d→(f.getD (i.val:Int).toNat (Kd.df .u16)).toNat/2^k%2=pv d f i.val/2^k%2)→_
      generalize f.getD (i.val:Int).toNat (Kd.df .u16)=x)
   intro hx
   refine Or.inr ⟨{k:Nat // k≤d},fun k=>⟨[(30,.one (.ob .int (k.val:Int)))],[(2176,.row 5 .u8 (aV (32*d) (gm d f%2^(d*i.val+k.val))))]⟩,fun k=>d-k.val,⟨0,Nat.zero_le _⟩,?_⟩
   refine ⟨rfl,rfl,fun k=>⟨fun h5=> ?_,fun h5=> ?_⟩⟩
   ·have h5:=of_decide_eq_true h5
    have hk:=k.2
    have hX:=Kr (gm d f) (d*i.val+k.val)
    rw [hbit k.val (by omega),←hx k.val (by omega)] at hX
    have hXl:=Nat.mod_lt (gm d f) (Nat.two_pow_pos (d*i.val+k.val))
    have hl:(aV (32*d) (gm d f%2^(d*i.val+k.val))).length=32*d:=ar _ _
    refine sd<|sd ?_
    rw [m1,show ((d*i.val:Nat):Int)+(k.val:Int)=((d*i.val+k.val:Nat):Int) from rfl]
    have m4:d*i.val+k.val+1=d*i.val+(k.val+1):=rfl
    rw [m4] at hX
    generalize hE:gm d f%2^(d*i.val+(k.val+1))=X' at hX
    generalize gm d f%2^(d*i.val+k.val)=X at hX hXl hl ⊢
    generalize hA:d*i.val+k.val=a at hX hXl hl ⊢
    repeat refine sd ?_
    refine sj ⟨k.val+1,by omega⟩<|sr ⟨?_,trivial⟩
    show aV (32*d) (gm d f%2^(d*i.val+(k.val+1)))=(aV (32*d) X).set ((a:Int)/8).toNat ((aV (32*d) X).getD ((a:Int)/8).toNat 0|||s8 (OS x (k.val:Int).toNat&&&1).toUInt8 ((a:Int)%8).toNat)
    rw [hE,hX,Th,show ((a:Int)%8).toNat=a%8 by omega,Int.toNat_natCast,Jb,Nat.and_one_is_mod]
    exact (Kk hXl (Nat.lt_succ_iff.1 (Nat.mod_lt _ (by omega)))).symm
   have h5:=of_decide_eq_false h5
   have hk:=k.2
   refine sd<|sj ⟨i.val+1,by omega⟩<|sr ⟨?_,trivial⟩
   show aV (32*d) (gm d f%2^(d*(i.val+1)))=aV (32*d) (gm d f%2^(d*i.val+k.val))
   rw [show d*(i.val+1)=d*i.val+k.val by rw [Nat.mul_succ];omega]
 ·have h3:=of_decide_eq_false h3
  have hi:=i.2
  refine ⟨rfl,?_,trivial⟩
  show aV (32*d) (gm d f)=aV (32*d) (gm d f%2^(d*i.val))
  rw [show i.val=256 by omega,Nat.mod_eq_of_lt (JQ d f)]
def yb:GF:=fun l=>match l with
 | [.agg [.vec .u16 256 f],.one (.ob .int d)]=>some ⟨[.one (.rw 0),.one (.ob .int 0)],[(0,.row 5 .u8 (bN d.toNat f))],some (DH 1 d 12)⟩
 |_=>none
theorem vG:ab 248 (aq yb):=af aj Er Tryz.func248 (by kernel_rfl) rfl (rs:= [.tmp 4,.tmp 5]) Tryz.results248 fun l g h hp=>by
 unfold yb at h
 split at h
 ·rename_i f d
  cases h
  obtain ⟨h1,h2⟩:=hp
  obtain ⟨d,rfl⟩:=Int.eq_ofNat_of_zero_le (show (0:Int)≤d by omega)
  exact ⟨Nat.le_of_ble_eq_true rfl,rfl,rfl,rfl,LM _ _ ⟨by omega,by omega⟩⟩
 ·cases h
set_option maxRecDepth 10000
def DS:List (Nat×CF):=(208,aq rg)::(248,aq yb)::(247,aq yc)::(242,aq mI)::(207,aq yd)::Sb
theorem DT:∀p∈DS,ab p.1 p.2:=ae k_<|ae vG<|ae vH<|ae oz<|ae vI Ma
theorem Ml:ap am (ah DS):=az aj (aR DT)
@[reducible] def jS (a b c:List UInt16):AV:= .agg [.vec .u16 256 a,.vec .u16 256 b,.vec .u16 256 c]
def oq (f:List UInt16):List UInt16:=ni (eC f) 7
theorem H_ (a b c:List UInt16) (ha:a.length=256) (hb:b.length=256) (hc:c.length=256):vc am (ah DS) Tryz.f206.ntmps (ag Tryz.f206) ⟨al 0 [jS a b c,.one (.fv 207 [] [])],[],2000⟩ (aD am Tryz.f206.ntmps [.cell 4 143] [jS (oq a) (oq b) (oq c)] []):=by
 refine Or.inl ⟨4,?_⟩
 exact ⟨ha,hb,hc,rfl,rfl,rfl,rfl,rfl,rfl,trivial⟩
def q6:GF:=fun l=>match l with
 | [.agg [.vec .u16 256 a,.vec .u16 256 b,.vec .u16 256 c],.one (.fv 207 [] [])]=>some ⟨[jS (oq a) (oq b) (oq c)],[],some (a.length=256∧b.length=256∧c.length=256)⟩
 |_=>none
theorem rE:ab 206 (aq q6):=af aj Ml Tryz.func206 (by kernel_rfl) rfl (rs:= [.cell 4 143]) Tryz.results206 fun l g h hp=>by
 unfold q6 at h
 split at h
 ·cases h;exact ⟨Nat.le_of_ble_eq_true rfl,rfl,rfl,rfl,H_ _ _ _ hp.1 hp.2.1 hp.2.2⟩
 ·cases h
theorem Ib (a b c x y z:List UInt16) (ha:a.length=256) (hb:b.length=256) (hc:c.length=256) (hx:x.length=256) (hy:y.length=256) (hz:z.length=256):vc am (ah DS) Tryz.f246.ntmps (ag Tryz.f246) ⟨al 0 [jS a b c,jS x y z,.one (.fv 247 [] [])],[],2000⟩ (aD am Tryz.f246.ntmps [.cell 6 143] [jS (eP a x 128) (eP b y 128) (eP c z 128)] []):=by
 refine Or.inl ⟨4,?_⟩
 exact ⟨⟨ha,hx⟩,⟨hb,hy⟩,⟨hc,hz⟩,rfl,rfl,rfl,rfl,rfl,rfl,trivial⟩
def q8:GF:=fun l=>match l with
 | [.agg [.vec .u16 256 a,.vec .u16 256 b,.vec .u16 256 c],.agg [.vec .u16 256 x,.vec .u16 256 y,.vec .u16 256 z],.one (.fv 247 [] [])]=>some ⟨[jS (eP a x 128) (eP b y 128) (eP c z 128)],[],some ((a.length=256∧b.length=256∧c.length=256)∧x.length=256∧y.length=256∧z.length=256)⟩
 |_=>none
theorem rG:ab 246 (aq q8):=af aj Ml Tryz.func246 (by kernel_rfl) rfl (rs:= [.cell 6 143]) Tryz.results246 fun l g h hp=>by
 unfold q8 at h
 split at h
 ·cases h;exact ⟨Nat.le_of_ble_eq_true rfl,rfl,rfl,rfl,Ib _ _ _ _ _ _ hp.1.1 hp.1.2.1 hp.1.2.2 hp.2.1 hp.2.2.1 hp.2.2.2⟩
 ·cases h
def BE:List (Nat×CF):=(246,aq q8)::(206,aq q6)::DS
theorem DU:∀p∈BE,ab p.1 p.2:=ae rG<|ae rE DT
theorem Ek:ap am (ah BE):=az aj (aR DU)
def NW (a b c x y z:List UInt16):List UInt16:=ou (ou (ou (List.replicate 256 0) (eP a x 128)) (eP b y 128)) (eP c z 128)
theorem LD (a b c x y z:List UInt16) (ha:a.length=256) (hb:b.length=256) (hc:c.length=256) (hx:x.length=256) (hy:y.length=256) (hz:z.length=256):vc am (ah BE) Tryz.f210.ntmps (ag Tryz.f210) ⟨al 0 [jS a b c,jS x y z],[],2000⟩ (aD am Tryz.f210.ntmps [.cell 4 141] [.agg [.vec .u16 256 (NW a b c x y z)]] []):=by
 refine ⟨⟨⟨ha,hb,hc⟩,hx,hy,hz⟩,?_⟩
 refine Or.inl ⟨4,?_⟩
 exact ⟨rfl,jL _ _,jL _ _,rfl,rfl,trivial⟩
def xT:GF:=fun l=>match l with
 | [.agg [.vec .u16 256 a,.vec .u16 256 b,.vec .u16 256 c],.agg [.vec .u16 256 x,.vec .u16 256 y,.vec .u16 256 z]]=>some ⟨[.agg [.vec .u16 256 (NW a b c x y z)]],[],some ((a.length=256∧b.length=256∧c.length=256)∧x.length=256∧y.length=256∧z.length=256)⟩
 |_=>none
theorem uA:ab 210 (aq xT):=af aj Ek Tryz.func210 (by kernel_rfl) rfl (rs:= [.cell 4 141]) Tryz.results210 fun l g h hp=>by
 unfold xT at h
 split at h
 ·cases h;exact ⟨Nat.le_of_ble_eq_true rfl,rfl,rfl,rfl,LD _ _ _ _ _ _ hp.1.1 hp.1.2.1 hp.1.2.2 hp.2.1 hp.2.2.1 hp.2.2.2⟩
 ·cases h
theorem zJ (a b c:List UInt16):vc am (ah BE) Tryz.f211.ntmps (ag Tryz.f211) ⟨al 0 [jS a b c],[],2000⟩ (aD am Tryz.f211.ntmps [.tmp 2] [.one (.rw 0)] [(0,.row 5 .u8 (bN 12 a++bN 12 b++bN 12 c))]):=by
 refine Or.inl ⟨4,?_⟩
 have h:=fun f=>ff 12 f
 have i12:DH 1 (12:Int) 12:=⟨by decide,by decide⟩
 exact ⟨i12,by show ([]++bN 12 a).length≤16777216;simp [h],i12,by show ([]++bN 12 a++bN 12 b).length≤16777216;simp [h],i12,by show ([]++bN 12 a++bN 12 b++bN 12 c).length≤16777216;simp [h],rfl,trivial⟩
def kq:GF:=fun l=>match l with
 | [.agg [.vec .u16 256 a,.vec .u16 256 b,.vec .u16 256 c]]=>some ⟨[.one (.rw 0)],[(0,.row 5 .u8 (bN 12 a++bN 12 b++bN 12 c))],none⟩
 |_=>none
theorem m5:ab 211 (aq kq):=af aj Ek Tryz.func211 (by kernel_rfl) rfl (rs:= [.tmp 2]) Tryz.results211 fun l g h hp=>by
 unfold kq at h
 split at h
 ·cases h;exact ⟨Nat.le_of_ble_eq_true rfl,rfl,rfl,rfl,zJ _ _ _⟩
 ·cases h
theorem Du (s:List UInt8) (n:Nat) (hs:s.length≤1000) (hn:n≤200):vc am (ah BE) Tryz.f205.ntmps (ag Tryz.f205) ⟨al 0 [.one (.ro .u8 s),.one (.ob .int (n:Int))],[],2000⟩ (aD am Tryz.f205.ntmps [.cell 4 143] [jS (dn s (UInt8.ofNat n)) (dn s (UInt8.ofNat (n+1))) (dn s (UInt8.ofNat (n+2)))] []):=by
 have h:=fun k:Nat=>fun hk:k≤2=>show jq ((n:Int)+(k:Int)) from ⟨by omega,by omega⟩
 exact Or.inl ⟨4,h 0 (by omega),by show (0:Int)≤(n:Int)+0;omega,hs,h 1 (by omega),by show (0:Int)≤(n:Int)+1;omega,hs,h 2 (by omega),by show (0:Int)≤(n:Int)+2;omega,hs,rfl,rfl,rfl,rfl,rfl,rfl,trivial⟩
def mE:GF:=fun l=>match l with
 | [.one (.ro .u8 s),.one (.ob .int n)]=>some ⟨[jS (dn s (UInt8.ofNat n.toNat)) (dn s (UInt8.ofNat (n.toNat+1))) (dn s (UInt8.ofNat (n.toNat+2)))],[],some (s.length≤1000∧DH 0 n 200)⟩
 |_=>none
theorem oi:ab 205 (aq mE):=af aj Ek Tryz.func205 (by kernel_rfl) rfl (rs:= [.cell 4 143]) Tryz.results205 fun l g h hp=>by
 unfold mE at h
 split at h
 ·rename_i s n
  cases h
  obtain ⟨h0,h1,h2⟩:=hp
  obtain ⟨n,rfl⟩:=Int.eq_ofNat_of_zero_le h1
  exact ⟨Nat.le_of_ble_eq_true rfl,rfl,rfl,rfl,Du _ _ h0 (by omega)⟩
 ·cases h
def IG:List (Nat×CF):=(245,aq Og)::(205,aq mE)::BE
theorem DV:∀p∈IG,ab p.1 p.2:=ae Dg<|ae oi DU
theorem Qb:ap am (ah IG):=az aj (aR DV)
def IE (s:List UInt8) (i:UInt8) (b:Bool) (j:UInt8):List UInt16:=match b with
 |false=>nP (cT s j i)
 |true=>nP (cT s i j)
theorem zI (s:List UInt8) (n:Nat) (b:Bool) (hs:s.length=32):vc am (ah IG) Tryz.f209.ntmps (ag Tryz.f209) ⟨al 0 [.one (.ro .u8 s),.one (.ob .int (n:Int)),.one (.ob .bool b)],[],2000⟩ (aD am Tryz.f209.ntmps [.cell 6 143] [jS (IE s (UInt8.ofNat n) b 0) (IE s (UInt8.ofNat n) b 1) (IE s (UInt8.ofNat n) b 2)] []):=by
 refine Or.inl ⟨4,?_⟩
 have h0:0≤(n:Int):=Int.natCast_nonneg n
 cases b
 ·iterate 3
   refine ⟨by decide,h0,?_⟩
   refine ⟨fun h=> ?_,fun _=> ?_⟩
   ·cases h
   refine ⟨hs,?_⟩
  exact ⟨rfl,rfl,rfl,rfl,rfl,rfl,trivial⟩
 ·iterate 3
   refine ⟨by decide,h0,?_⟩
   refine ⟨fun _=> ?_,fun h=> ?_⟩
   rotate_left
   ·cases h
   refine ⟨hs,?_⟩
  exact ⟨rfl,rfl,rfl,rfl,rfl,rfl,trivial⟩
def ko:GF:=fun l=>match l with
 | [.one (.ro .u8 s),.one (.ob .int n),.one (.ob .bool b)]=>some ⟨[jS (IE s (UInt8.ofNat n.toNat) b 0) (IE s (UInt8.ofNat n.toNat) b 1) (IE s (UInt8.ofNat n.toNat) b 2)],[],some (s.length=32∧0≤n)⟩
 |_=>none
theorem m0:ab 209 (aq ko):=af aj Qb Tryz.func209 (by kernel_rfl) rfl (rs:= [.cell 6 143]) Tryz.results209 fun l g h hp=>by
 unfold ko at h
 split at h
 ·rename_i s n b
  cases h
  obtain ⟨h0,h1⟩:=hp
  obtain ⟨n,rfl⟩:=Int.eq_ofNat_of_zero_le h1
  exact ⟨Nat.le_of_ble_eq_true rfl,rfl,rfl,rfl,zI _ _ _ h0⟩
 ·cases h
def M1:List (Nat×CF):=(209,aq ko)::(210,aq xT)::(211,aq kq)::(212,aq FI)::(204,aq FJ)::(102,aq jz)::IG
theorem M2:∀p∈M1,ab p.1 p.2:=ae m0<|ae uA<|ae m5<|ae zp<|ae zq<|ae fU DV
theorem Qc:ap am (ah M1):=az aj (aR M2)
theorem uQ (l:List UInt16) (z n st:Nat):∀i,(gr l z n st i).length=l.length
 |0=>rfl
 |i+1=>by rw [gr,List.length_set,List.length_set,uQ l z n st i]
theorem uP (l:List UInt16) (n k:Nat):∀c,(oo l n k c).length=l.length
 |0=>rfl
 |c+1=>by rw [oo,uQ,uP l n k c]
theorem uR (l:List UInt16):∀m,(ni l m).length=l.length
 |0=>rfl
 |m+1=>by rw [ni,uP,uR l m]
theorem Gx (l:List UInt16):(oq l).length=256:=by rw [oq,uR];exact jL _ _
theorem rP (s:List UInt8) (i:UInt8) (j:UInt8):(IE s i false j).length=256:=(Lk _).1
def pS (d:List UInt8) (i:UInt8):List UInt16:=oq (dn (B9 d) i)
def pT (d:List UInt8) (i:UInt8):List UInt16:=ou (pS d (i+3)) (NW (nP (cT (mW d) 0 i)) (nP (cT (mW d) 1 i)) (nP (cT (mW d) 2 i)) (pS d 0) (pS d 1) (pS d 2))
def cE (d:List UInt8):List UInt8:=bN 12 (pT d 0)++bN 12 (pT d 1)++bN 12 (pT d 2)++mW d
def GL (d:List UInt8):List UInt8:=bN 12 (pS d 0)++bN 12 (pS d 1)++bN 12 (pS d 2)
def MM (d z:List UInt8):List UInt8:=GL d++cE d++gi 32 (cE d)++z
theorem fS (d:List UInt8):(cE d).length=1184:=by simp only [cE,List.length_append,ff,mX]
theorem GM (d:List UInt8):(GL d).length=1152:=by simp only [GL,List.length_append,ff]
set_option maxHeartbeats 4000000 in
theorem Ia (d z:List UInt8) (hd:d.length=32) (hz:z.length=32):vc am (ah M1) Tryz.f126.ntmps (ag Tryz.f126) ⟨al 0 [.one (.ro .u8 d),.one (.ro .u8 z)],[],2000⟩ (aD am Tryz.f126.ntmps [.tmp 4,.tmp 5,.tmp 6] [.one (.rw 0),.one (.rw 1),.one (.ob .int 0)] [(0,.row 5 .u8 (cE d)),(1,.row 5 .u8 (MM d z))]):=by
 have e1: [d,[UInt8.ofNat 3]].flatten=d++ [3]:=by simp
 refine ⟨fun h1=> ?_,fun h1=>⟨h1,fun _ _=>⟨fun h2=> ?_,fun h2=> ?_⟩⟩⟩
 ·have h1:=of_decide_eq_true h1;omega
 ·have h2:=of_decide_eq_true h2;omega
 refine ⟨by rw [e1];simp;omega,?_⟩
 rw [e1]
 have hg2:gi 64 (d++ [3])=kG d:=rfl
 rw [hg2]
 have hl:=yA d
 have hk1:(mW d).length=32:=mX d
 have hk2:(B9 d).length≤1000:=by rw [F7];decide
 have hn:∀i,(dn (B9 d) i).length=256:=fun i=>by simp [dn]
 have hlo:(0:Int)≤32∧(32:Int)≤((kG d).length:Int):=⟨by decide,by omega⟩
 have hS:∀i,(oq (dn (B9 d) i)).length=256:=fun i=>Gx _
 have hSS:=And.intro (hS (UInt8.ofNat (Int.toNat 0))) (And.intro (hS (UInt8.ofNat (Int.toNat 0+1))) (hS (UInt8.ofNat (Int.toNat 0+2))))
 have hM:∀i,(IE (mW d) i false 0).length=256∧(IE (mW d) i false 1).length=256∧(IE (mW d) i false 2).length=256:=fun i=>⟨rP _ _ _,rP _ _ _,rP _ _ _⟩
 refine ⟨⟨hlo,trivial⟩,hlo,⟨hk2,by decide,by decide⟩,⟨hn _,hn _,hn _⟩,⟨hk2,by decide,by decide⟩,⟨hn _,hn _,hn _⟩,?_⟩
 refine Or.inl ⟨4,?_⟩
 refine ⟨⟨hk1,by decide⟩,⟨hM _,hSS⟩,hS _,⟨hk1,by decide⟩,⟨hM _,hSS⟩,hS _,⟨hk1,by decide⟩,⟨hM _,hSS⟩,hS _,?_⟩
 refine ⟨?_,?_⟩
 ·show (cE d).length≤_
  rw [fS];decide
 have e2: [cE d].flatten=cE d:=by simp
 refine ⟨?_,?_,rfl,?_,?_,trivial⟩
 ·show [cE d].flatten.length≤_
  rw [e2,fS];decide
 ·show [GL d,cE d,gi 32 [cE d].flatten,z].flatten.length≤_
  simp only [List.flatten_cons,List.flatten_nil,List.length_append,List.length_nil,GM,fS,gi,gZ,hz]
  decide
 ·show cE d= [bN 12 (pT d 0)++bN 12 (pT d 1)++bN 12 (pT d 2),mW d].flatten
  simp [cE]
 ·show MM d z= [GL d,cE d,gi 32 [cE d].flatten,z].flatten
  rw [e2]
  simp [MM]
def q7:GF:=fun l=>match l with
 | [.one (.ro .u8 d),.one (.ro .u8 z)]=>some ⟨[.one (.rw 0),.one (.rw 1),.one (.ob .int 0)],[(0,.row 5 .u8 (cE d)),(1,.row 5 .u8 (MM d z))],some (d.length=32∧z.length=32)⟩
 |_=>none
theorem rF:ab 126 (aq q7):=af aj Qc Tryz.func126 (by kernel_rfl) rfl (rs:= [.tmp 4,.tmp 5,.tmp 6]) Tryz.results126 fun l g h hp=>by
 unfold q7 at h
 split at h
 ·cases h;exact ⟨Nat.le_of_ble_eq_true rfl,rfl,rfl,rfl,Ia _ _ hp.1 hp.2⟩
 ·cases h
set_option maxRecDepth 10000
theorem EE {L N a:Nat} (h:a<8*L):cI (aV L N) a=N/2^a%2:=by
 have hd:a/8<L:=by omega
 have e:((aV L N).getD (a/8) 0).toNat=N/2^(8*(a/8))%256:=by
  rw [List.getD_eq_getElem?_getD,List.getElem?_eq_getElem (by rw [ar];exact hd)]
  simp [aV]
 rw [cI,e]
 have e2:2^a=2^(8*(a/8))*2^(a%8):=by rw [←Nat.pow_add];congr 1;omega
 rw [e2,←Nat.div_div_eq_div_mul]
 generalize N/2^(8*(a/8))=M
 have hr:a%8<8:=Nat.mod_lt _ (by omega)
 generalize a%8=r at*
 have hc:r=0∨r=1∨r=2∨r=3∨r=4∨r=5∨r=6∨r=7:=by omega
 rcases hc with rfl|rfl|rfl|rfl|rfl|rfl|rfl|rfl<;>omega
theorem A7 {c:List UInt8} {i v:Nat}:∀ {m:Nat},(∀k,k<m→cI c (12*i+k)=v/2^k%2)→eY c i m=v%2^m
 |0,_=>by simp [eY,Nat.mod_one]
 |m+1,h=>by
  rw [eY,A7 fun k hk=>h k (by omega),h m (by omega),Nat.mod_pow_succ,Nat.mul_comm]
theorem rK {b:List UInt8} {i:Nat} {f:List UInt16} (h:∀j,j<384→(b.drop (384*i)).getD j 0=(bN 12 f).getD j 0):eg (ek b i)=true:=by
 rw [eg,List.all_eq_true]
 intro j hj
 have hj:j<256:=List.mem_range.1 hj
 refine decide_eq_true ?_
 have e:eY (b.drop (384*i)) j 12=pv 12 f j%2^12:=A7 fun k hk=>by
  rw [cI,h _ (by omega),←cI,bN,EE (by omega),tZ f hj hk]
 have hv:pv 12 f j<3329:=by
  unfold pv
  rw [if_pos rfl]
  exact Nat.mod_lt _ (by omega)
 rw [ek,aZ hj,PT,e,Nat.mod_eq_of_lt (by omega),UInt16.toNat_ofNat',Nat.mod_eq_of_lt (by omega)]
 exact hv
theorem Ju (f g h:List UInt16) {r:List UInt8} (hr:r.length=32):tJ (bN 12 f++bN 12 g++bN 12 h++r)=0:=by
 have l0:(bN 12 f).length=384:=ff _ _
 have l1:(bN 12 g).length=384:=ff _ _
 have l2:(bN 12 h).length=384:=ff _ _
 have h0:eg (ek (bN 12 f++bN 12 g++bN 12 h++r) 0)=true:=rK (f:=f) fun j hj=>by
  rw [List.getD_eq_getElem?_getD,List.getD_eq_getElem?_getD,List.getElem?_drop,List.append_assoc,List.append_assoc,List.getElem?_append_left (by omega)]
  simp
 have h1:eg (ek (bN 12 f++bN 12 g++bN 12 h++r) 1)=true:=rK (f:=g) fun j hj=>by
  rw [List.getD_eq_getElem?_getD,List.getD_eq_getElem?_getD,List.getElem?_drop,List.append_assoc,List.append_assoc,List.getElem?_append_right (by omega),List.getElem?_append_left (by omega),l0,show 384*1+j-384=j by omega]
 have h2:eg (ek (bN 12 f++bN 12 g++bN 12 h++r) 2)=true:=rK (f:=h) fun j hj=>by
  rw [List.getD_eq_getElem?_getD,List.getD_eq_getElem?_getD,List.getElem?_drop,List.append_assoc,List.getElem?_append_right (by rw [List.length_append];omega),List.getElem?_append_left (by rw [List.length_append];omega),List.length_append,l0,l1,show 384*2+j-(384+384)=j by omega]
 rw [tJ,if_pos (by simp only [List.length_append,l0,l1,l2,hr]),if_pos h0,if_pos h1,if_pos h2]
theorem Jv (d:List UInt8):tJ (cE d)=0:=Ju _ _ _ (mX d)
theorem F5 {n:Int} (h0:0≤n) (h1:n≤1000):Kf n=tt (UInt64.ofNat n.toNat) 4 4:=by
 have e1:(UInt32.ofNat n.toNat).toUInt64=UInt64.ofNat n.toNat:=by
  apply UInt64.toNat_inj.1
  rw [UInt32.toNat_toUInt64,UInt32.toNat_ofNat',UInt64.toNat_ofNat',Nat.mod_eq_of_lt (by omega),Nat.mod_eq_of_lt (by omega)]
 rw [Kf,e1,ED,fF,show (8:Nat)=4+4 from rfl,fP,List.reverse_append,List.drop_append_of_le_length (by rw [List.length_reverse,ar];exact Nat.le_refl _),List.drop_of_length_le (by rw [List.length_reverse,ar];exact Nat.le_refl _),List.nil_append,List.take_of_length_le (by rw [List.length_reverse,ar];exact Nat.le_refl _)]
structure Sv (E:List UInt8→List UInt8):Prop where
 len:∀d,(E d).length=1184
 ck:∀d,tJ (E d)=0
theorem TR:Sv cE:=⟨fS,Jv⟩
def yB (E:List UInt8→List UInt8) (seed:List UInt8) (v n:Int):List UInt8:=match decide (v=2) with |true=>E (dz seed n).1|false=> []
def Cc (E:List UInt8→List UInt8) (seed:List UInt8) (v n:Int):List UInt8:=match decide (v=2) with |true=>eQ (bB seed) (yC v n (decide (n=0)) (E (dz seed n).1))|false=> []
def bd (E:List UInt8→List UInt8) (seed:List UInt8) (v n m:Int):Bn:=⟨dV (bB seed),gg (mU seed),gg (mV seed),eQ (bB seed) (Cj v (gg (mV seed))),n,KD seed n,Cb v m,yB E seed v m,Cc E seed v m,Cd v m,v⟩
def MP (v n m:Int):Prop:=1≤v∧v≤2∧0≤n∧n≤1000∧0≤m∧m≤1000
section
variable {E:List UInt8→List UInt8}
theorem CL (hE:Sv E) (seed:List UInt8) {v n m:Int} (h:MP v n m):b9 (bd E seed v n m)=false:=by
 obtain ⟨hv1,hv2,hn0,hn1,hm0,hm1⟩:=h
 have a1:decide (((bd E seed v n m).sign.length:Int)=32)=true:=decide_eq_true (by rw [show (bd E seed v n m).sign.length=32 from gV _];rfl)
 have a2:decide (((bd E seed v n m).ident.length:Int)=32)=true:=decide_eq_true (by rw [show (bd E seed v n m).ident.length=32 from nV _];rfl)
 have a3:decide (((bd E seed v n m).medium.length:Int)=32)=true:=decide_eq_true (by rw [show (bd E seed v n m).medium.length=32 from nV _];rfl)
 have a4:decide (((bd E seed v n m).medsig.length:Int)≠64)=false:=decide_eq_false (by rw [show (bd E seed v n m).medsig.length=64 from kL _ _];simp)
 have a5:decide ((bd E seed v n m).onceId<0)=false:=decide_eq_false (Int.not_lt.2 hn0)
 have a6:decide (((bd E seed v n m).once.length:Int)≠pO (bd E seed v n m))=false:=decide_eq_false (by
  rw [Decidable.not_not]
  show ((KD seed n).length:Int)=match decide (0<n) with |true=>32|false=>0
  unfold KD
  cases decide (0<n) with
  |true=>show ((gg (MJ seed n)).length:Int)=32;rw [nV];rfl
  |false=>rfl)
 have a7:kN (bd E seed v n m)=true:=by
  rw [kN]
  split
  ·rename_i e
   have e:v=1:=of_decide_eq_true e
   have e2:decide (v=2)=false:=decide_eq_false (by omega)
   simp [bd,Cb,yB,Cc,Cd,e2]
  ·rename_i e
   have e:¬v=1:=of_decide_eq_false e
   have e1:v=2:=by omega
   have e2:decide (v=2)=true:=decide_eq_true e1
   simp [bd,Cb,yB,Cc,Cd,e1,hE.len,kL,hm0]
 rw [b9,a1,a2,a3,a4,a5,a6,a7];rfl
theorem DB (hE:Sv E) (seed:List UInt8) {v n m:Int} (h:MP v n m) {least:Int} (hl:least≤v):bn (bd E seed v n m) least=0:=by
 have hm:oF (bd E seed v n m)=0:=wi (bB seed) (Cj v (gg (mV seed)))
 have h8:decide ((bd E seed v n m).version<least)=false:=decide_eq_false (Int.not_lt.2 hl)
 rw [bn,CL hE seed h,h8,hm]
 by_cases e:v=1
 ·rw [show decide ((0:Int)≠0)=false from rfl,show decide ((bd E seed v n m).version=1)=true from decide_eq_true e]
 ·obtain ⟨hv1,hv2,hn0,hn1,hm0,hm1⟩:=h
  have e1:v=2:=by omega
  have e2:decide (v=2)=true:=decide_eq_true e1
  have hk:wh (bd E seed v n m)=0:=by
   have k1:(bd E seed v n m).kemsig=eQ (bB seed) (yC v m (decide (m=0)) (E (dz seed m).1)):=by show Cc E seed v m=_;rw [Cc,e2]
   have k2:(uw (bd E seed v n m)).flatten=yC v m (decide (m=0)) (E (dz seed m).1):=by
    rw [uw,show (bd E seed v n m).kemId=m by show Cb v m=m;rw [Cb,e2],show (bd E seed v n m).last=decide (m=0) by show Cd v m=_;rw [Cd,e2],show (bd E seed v n m).kem=E (dz seed m).1 by show yB E seed v m=_;rw [yB,e2],F5 hm0 hm1]
    rfl
   rw [wh,k1,k2]
   exact wi _ _
  rw [show decide ((0:Int)≠0)=false from rfl,show decide ((bd E seed v n m).version=1)=false from decide_eq_false e,hk,show (bd E seed v n m).kem=E (dz seed m).1 by show yB E seed v m=_;rw [yB,e2],hE.ck]
  rfl
end
inductive GD where
 |no
 |ok (g:PV)
 |dec (p:Bool) (a b:GD)
def GD.to (k:PV→R aG):GD→R aG
 | .no=> .fail
 | .ok g=>k g
 | .dec p a b=> .dec p fun x=>match x with |true=>a.to k|false=>b.to k
def GD.at (g:PV):GD→Prop
 | .no=>False
 | .ok g'=>g=g'
 | .dec p a b=>(p=true∧a.at g)∨(p=false∧b.at g)
abbrev L6:Type:=List AV→List Ch→GD
def Mw (G:L6):CF:=fun nx args=>uk args [] fun l ns=>J7 (fun ns cs=>match uU (cK l) ns cs with
 |true=>(G (cK l) cs).to fun g=>wz (cY nx ns) g.outs fun o=>wA (cY nx ns) g.us fun u=>JX (cY nx ns) g.d fun d=> .pure ⟨o,d++u,g.pre,none⟩
 |false=> .fail) 40 0 ns []
section
variable {ty:Nat→TE} {ct:Nat→Option CF} {H:Nat→Option Ch} {η:aY} {w:World} {nx:Nat} {sl:Nat→List AV} {res:aG}
theorem GD.to_run {k:PV→R aG} (G:GD):∀ {ds:List Bool} {rd:List cu} {qs:List (Bool×Bool)},(G.to k).run sl H ds= .ok res rd qs→(∀q∈qs,q.1=q.2)→∃g ds' rd' qs',G.at g∧(k g).run sl H ds'= .ok res rd' qs':=by
 induction G with
 |no=>intro ds rd qs h _;cases h
 |ok g=>intro ds rd qs h _;exact ⟨g,ds,rd,qs,rfl,h⟩
 |dec p a b iha ihb=>
  intro ds rd qs h hq
  cases ds with
  |nil=>cases h
  |cons d ds=>
   unfold GD.to at h
   rw [R.run] at h
   generalize hr:R.run sl H _ ds=r at h
   cases r with
   |ok x rd1 q1=>
    simp only [RR.asm,RR.ok.injEq] at h
    obtain ⟨rfl,rfl,rfl⟩:=h
    have hp:p=d:=hq (p,d) (by simp)
    have hq1:∀q∈q1,q.1=q.2:=fun q hm=>hq q (by simp [hm])
    cases d with
    |true=>
     obtain ⟨g,ds',rd',qs',h1,h2⟩:=iha hr hq1
     exact ⟨g,ds',rd',qs',.inl ⟨hp,h1⟩,h2⟩
    |false=>
     obtain ⟨g,ds',rd',qs',h1,h2⟩:=ihb hr hq1
     exact ⟨g,ds',rd',qs',.inr ⟨hp,h1⟩,h2⟩
   |need p=>cases h
   |fail=>cases h
theorem j_ (hT : a8 ty) (hO : ap ty ct) {f : Nat} {fn : Func} {c : Code} {rs : List ResultVar} (hf : Tryz.prog.funcs[f]? = some fn) (hn : (fn.name == "runtime.NumGoroutine") = false) (hb : fn.body = some c) (hr : fn.results = rs.toArray) {G : L6}
  (hG:∀l cs g,(G l cs).at g→aW g.pre→l.length≤fn.ntmps∧g.outs.length=rs.length∧cG cs.length g.outs=true∧gG cs.length g.us=true∧vc ty ct fn.ntmps c ⟨al 0 l,aK 1000 cs,2000⟩ (br ty fn.ntmps rs g.outs g.us cs g.d)):ab f (Mw G):=by
 refine ⟨⟨fn,c,hf,hn,hb⟩,fun nx args sl H ds res rd qs h hq hp η w vs hH hv hfree=> ?_⟩
 obtain ⟨l',n1,e1,e2,e3⟩:=ib nx args []
 unfold Mw at h
 rw [e1] at h
 obtain ⟨ns,cs,rd',g1,g2,g3,g4⟩:=mL nx h rfl
 split at g1
 ·rename_i hok
  obtain ⟨⟨outs,us,d,p⟩,ds',rd2,qs',e4,g5⟩:=GD.to_run _ g1 hq
  have:=qj g5
  subst this
  unfold uU at hok
  split at hok
  ·rename_i k1 k2 k3 k4
   obtain ⟨q1,q2,q3,q4,q5⟩:=hG _ _ _ e4 hp
   refine qh cA hT hO hf hb hr (bU hok) k1 k2 q1 (aL k3) k4 (fun j c hc=>g4 j c (Nat.zero_le _) hc) q2 q3 q4 q5 hH hfree (A0:=ay H η) (fun g ha j hj=>ha _ (by rw [g4 j cs[j] (Nat.zero_le _) (List.getElem?_eq_getElem hj)];simp)) ?_
   rw [←ij,e3 ns g2]
   exact cR hv
  ·cases hok
 ·cases g1
end
set_option maxRecDepth 10000
set_option linter.unusedVariables false
def ui:fb:=fun l cs=>match l,cs with
 | [.one (.cv (.pointer none))],[]=>some ⟨[.one (.ob .bool true)],[],[],none⟩
 | [.one (.ptr 1000 0)],[.blk 84 [.rw 1001,.ob .int v,.ptr 1002 0,.sub 1003 0 32,.sub 1004 0 32,.rw 1005,.rw 1006],.row 5 .u8 seed,.blk 157 [.ob (.x 2) a,.sub 1007 32 32,.rw 1008],.row 5 .u8 I,.row 5 .u8 M,.row 4 .bool o,.row 4 .bool k,.row 5 .u8 S,.row 5 .u8 P]=>some ⟨[.one (.ob .bool false)],[],[],none⟩
 |_,_=>none
theorem Ls:vc am (ah BH) Tryz.f58.ntmps (ag Tryz.f58) ⟨al 0 [.one (.cv (.pointer none))],aK 1000 [],2000⟩ (br am Tryz.f58.ntmps [.tmp 2] [.one (.ob .bool true)] [] [] []):=by
 exact ⟨rfl,trivial⟩
set_option maxHeartbeats 8000000 in
theorem iV:ab 58 (gB ui):=aQ aj Mm Tryz.func58 (by kernel_rfl) rfl (rs:= [.tmp 2]) Tryz.results58 fun l cs g h hp=>by
 unfold ui at h
 split at h
 ·cases h
  exact ⟨Nat.le_of_ble_eq_true rfl,rfl,rfl,rfl,Ls⟩
 ·cases h
  exact ⟨Nat.le_of_ble_eq_true rfl,rfl,rfl,rfl,Bz _ _ _ _ _ _ _ _ _⟩
 ·cases h
def wF:List (Nat×CF):=(58,gB ui)::(56,aq q_)::(55,aq jA)::(126,aq q7)::BH
theorem D_:∀p∈wF,ab p.1 p.2:=ae iV<|ae rS<|ae fW<|ae rF<|wE
theorem Mo:ap am (ah wF):=az aj (aR D_)
def uK (n:Int):List Bool:=List.replicate (n+1).toNat false
def rM (v n:Int):List Bool:=match decide (v=2) with |true=>uK n|false=> [false]
theorem AI (seed:List UInt8):(aT seed 0).take 32=bB seed:=by rw [fm seed (by decide) (by decide)];rfl
theorem B_ (seed:List UInt8):(bB seed).length=32:=by rw [←AI,List.length_take,fo];decide
set_option maxHeartbeats 8000000 in
theorem O6 (seed:List UInt8) (v n:Int) (hl:seed.length=32) (hr:decide (1≤v∧v≤2∧0≤n∧n≤10)=true):vc am (ah wF) Tryz.f18.ntmps (ag Tryz.f18) ⟨al 0 [.one (.rw 1000),.one (.ob .int v),.one (.ob .int n)],aK 1000 [.row 5 .u8 seed],2000⟩ (br am Tryz.f18.ntmps [.tmp 6,.tmp 7] [.one (.ptr 0 0),.one (.ob .int 0)] [(0,.blk 84 [.rw 1,.ob .int v,.ptr 2 0,.sub 3 0 32,.sub 4 0 32,.rw 5,.rw 6]),(1,.row 5 .u8 seed),(2,.blk 157 [.ob (.x 2) (qA (bB seed)),.sub 7 32 32,.rw 8]),(3,.row 5 .u8 (dH seed 1)),(4,.row 5 .u8 (dH seed 2)),(5,.row 4 .bool (uK n)),(6,.row 4 .bool (rM v n)),(7,.row 5 .u8 (aM (bB seed))),(8,.row 5 .u8 (dV (bB seed)))] [.row 5 .u8 seed] []):=by
 have hv:=of_decide_eq_true hr
 have hS:List.take 32 (List.drop 0 (aT seed 0))=bB seed:=AI seed
 have hlen:(List.take 32 (List.drop 0 (aT seed 0))).length=32:=by rw [hS];exact B_ seed
 have hq1: [qA (bB seed)]= [qA (List.take 32 (List.drop 0 (aT seed 0)))]:=by rw [hS]
 have hq2:aM (bB seed)=aM (List.take 32 (List.drop 0 (aT seed 0))):=by rw [hS]
 have hq3:dV (bB seed)=dV (List.take 32 (List.drop 0 (aT seed 0))):=by rw [hS]
 have hp1:dH seed 1=aT seed 1:=(fm seed (by decide) (by decide)).symm
 have hp2:dH seed 2=aT seed 2:=(fm seed (by decide) (by decide)).symm
 refine ⟨fun h0=>absurd hl (fun e=>of_decide_eq_true h0 (by omega)),fun h0=>⟨fun h1=>absurd (of_decide_eq_true h1) (by omega),fun h1=>⟨fun h2=>absurd (of_decide_eq_true h2) (by omega),fun h2=>⟨fun h3=>absurd (of_decide_eq_true h3) (by omega),fun h3=> ?_⟩⟩⟩⟩
 refine ⟨h0,h1,h2,h3,fun _=>⟨fun h4=>absurd (of_decide_eq_true h4) (by omega),fun h4=> ?_⟩⟩
 refine ⟨by omega,⟨by omega,by omega⟩,⟨by show 0≤n+1;omega,rfl,by show n+1≤16777216;omega⟩,⟨by decide,rfl,by decide⟩,fun h5=> ?_,fun h5=> ?_⟩
 ·refine ⟨⟨by omega,by omega⟩,⟨by show 0≤n+1;omega,rfl,by show n+1≤16777216;omega⟩,⟨by omega,by decide⟩,hlen,⟨by omega,by decide⟩,⟨by omega,by decide⟩,rfl,rfl,rfl,rfl,rfl,rfl,rfl,⟨rfl,hq1⟩,rfl,rfl,hp1,hp2,rfl,?_,hq2,hq3,trivial⟩
  show rM v n=List.replicate (n+1).toNat false
  rw [rM,h5]
  rfl
 ·refine ⟨⟨by omega,by decide⟩,hlen,⟨by omega,by decide⟩,⟨by omega,by decide⟩,rfl,rfl,rfl,rfl,rfl,rfl,rfl,⟨rfl,hq1⟩,rfl,rfl,hp1,hp2,rfl,?_,hq2,hq3,trivial⟩
  show rM v n=List.replicate 1 false
  rw [rM,h5]
  rfl
set_option maxHeartbeats 8000000 in
theorem Hw (seed:List UInt8) (v n:Int) (hr:decide (1≤v∧v≤2∧0≤n∧n≤10)=false):vc am (ah wF) Tryz.f18.ntmps (ag Tryz.f18) ⟨al 0 [.one (.rw 1000),.one (.ob .int v),.one (.ob .int n)],aK 1000 [.row 5 .u8 seed],2000⟩ (br am Tryz.f18.ntmps [.tmp 6,.tmp 7] [.one (.cv (.pointer none)),.one (.ob .int 1)] [] [.row 5 .u8 seed] []):=by
 have hv:=of_decide_eq_false hr
 refine ⟨fun h0=>⟨h0,fun _=>⟨rfl,rfl,trivial⟩⟩,fun h0=>⟨fun h1=>⟨h0,h1,fun _=>⟨rfl,rfl,trivial⟩⟩,fun h1=>⟨fun h2=>⟨h0,h1,h2,fun _=>⟨rfl,rfl,trivial⟩⟩,fun h2=>⟨fun h3=>⟨h0,h1,h2,h3,fun _=>⟨rfl,rfl,trivial⟩⟩,fun h3=>⟨h0,h1,h2,h3,fun _=>⟨fun h4=>⟨rfl,rfl,trivial⟩,fun h4=> ?_⟩⟩⟩⟩⟩⟩
 have h1:=of_decide_eq_false h1
 have h2:=of_decide_eq_false h2
 have h3:=of_decide_eq_false h3
 have h4:=of_decide_eq_false h4
 exact absurd ⟨by omega,by omega,by omega,by omega⟩ hv
theorem Dk (v n:Int):vc am (ah wF) Tryz.f18.ntmps (ag Tryz.f18) ⟨al 0 [.one (.cv (.slice none 0 0)),.one (.ob .int v),.one (.ob .int n)],aK 1000 [],2000⟩ (br am Tryz.f18.ntmps [.tmp 6,.tmp 7] [.one (.cv (.pointer none)),.one (.ob .int 1)] [] [] []):=by
 exact ⟨rfl,rfl,trivial⟩
def Fg:L6:=fun l cs=>match l,cs with
 | [.one (.cv (.slice none 0 0)),.one (.ob .int _),.one (.ob .int _)],[]=> .ok ⟨[.one (.cv (.pointer none)),.one (.ob .int 1)],[],[],none⟩
 | [.one (.rw 1000),.one (.ob .int v),.one (.ob .int n)],[.row 5 .u8 seed]=> .dec (decide (1≤v∧v≤2∧0≤n∧n≤10)) (.ok ⟨[.one (.ptr 0 0),.one (.ob .int 0)],[(0,.blk 84 [.rw 1,.ob .int v,.ptr 2 0,.sub 3 0 32,.sub 4 0 32,.rw 5,.rw 6]),(1,.row 5 .u8 seed),(2,.blk 157 [.ob (.x 2) (qA (bB seed)),.sub 7 32 32,.rw 8]),(3,.row 5 .u8 (dH seed 1)),(4,.row 5 .u8 (dH seed 2)),(5,.row 4 .bool (uK n)),(6,.row 4 .bool (rM v n)),(7,.row 5 .u8 (aM (bB seed))),(8,.row 5 .u8 (dV (bB seed)))],[],some (seed.length=32)⟩) (.ok ⟨[.one (.cv (.pointer none)),.one (.ob .int 1)],[],[],none⟩)
 |_,_=> .no
set_option maxHeartbeats 8000000 in
theorem wT:ab 18 (Mw Fg):=j_ aj Mo Tryz.func18 (by kernel_rfl) rfl (rs:= [.tmp 6,.tmp 7]) Tryz.results18 fun l cs g h hp=>by
 unfold Fg at h
 split at h
 ·cases h
  exact ⟨Nat.le_of_ble_eq_true rfl,rfl,rfl,rfl,Dk _ _⟩
 ·rcases h with ⟨h1,h2⟩|⟨h1,h2⟩
  ·cases h2
   exact ⟨Nat.le_of_ble_eq_true rfl,rfl,rfl,rfl,O6 _ _ _ hp h1⟩
  ·cases h2
   exact ⟨Nat.le_of_ble_eq_true rfl,rfl,rfl,rfl,Hw _ _ _ h1⟩
 ·cases h
def jj (l:List Bool) (n:Int):Bool:=match decide (0<n) with |false=>false|true=>match decide ((l.length:Int)≤n) with |true=>true|false=>l.getD n.toNat false
theorem LR (l:List Bool) (n:Int):vc am (ah wF) Tryz.f121.ntmps (ag Tryz.f121) ⟨al 0 [.one (.ro .bool l),.one (.ob .int n)],[],2000⟩ (aD am Tryz.f121.ntmps [.tmp 4] [.one (.ob .bool (jj l n))] []):=by
 refine ⟨fun h0=>⟨fun h1=> ?_,fun h1=> ?_⟩,fun h0=> ?_⟩
 ·refine ⟨h0,h1,fun _=>⟨?_,trivial⟩⟩
  show [jj l n]= [_]
  rw [jj,h0,h1]
 ·have e0:=of_decide_eq_true h0
  have e1:=of_decide_eq_false h1
  refine ⟨h0,h1,⟨by omega,by omega⟩,fun _=>⟨?_,trivial⟩⟩
  show [jj l n]= [_]
  rw [jj,h0,h1]
  rfl
 ·refine ⟨h0,?_,trivial⟩
  show [jj l n]= [_]
  rw [jj,h0]
def Of:GF:=fun l=>match l with
 | [.one (.ro .bool l),.one (.ob .int n)]=>some ⟨[.one (.ob .bool (jj l n))],[],none⟩
 |_=>none
theorem Dd:ab 121 (aq Of):=af aj Mo Tryz.func121 (by kernel_rfl) rfl (rs:= [.tmp 4]) Tryz.results121 fun l g h hp=>by
 unfold Of at h
 split at h
 ·cases h;exact ⟨Nat.le_of_ble_eq_true rfl,rfl,rfl,rfl,LR _ _⟩
 ·cases h
def Ea:List (Nat×CF):=(121,aq Of)::(120,gB xG)::wF
theorem Eb:∀p∈Ea,ab p.1 p.2:=ae Dd<|ae kR<|D_
theorem Mp:ap am (ah Ea):=az aj (aR Eb)
def dN (o k:List Bool) (n m:Int):Bool:=match jj o n with |true=>true|false=>jj k m
set_option maxHeartbeats 8000000 in
theorem H6 (seed:List UInt8) (v:Int) (o k:List Bool) (a:Nat) (S P I M:List UInt8) (n m:Int):vc am (ah Ea) Tryz.f59.ntmps (ag Tryz.f59) ⟨al 0 [.one (.ptr 1000 0),.one (.ob .int n),.one (.ob .int m)],aK 1000 (fD seed v o k a S P I M),2000⟩ (br am Tryz.f59.ntmps [.tmp 6] [.one (.ob .bool (dN o k n m))] [] (fD seed v o k a S P I M) []):=by
 refine ⟨fun h0=>⟨h0,?_,trivial⟩,fun h0=>⟨h0,?_,trivial⟩⟩
 ·show [dN o k n m]= [_]
  rw [dN,h0]
 ·show [dN o k n m]= [_]
  rw [dN,h0]
def lz:fb:=fun l cs=>match l,cs with
 | [.one (.ptr 1000 0),.one (.ob .int n),.one (.ob .int m)],[.blk 84 [.rw 1001,.ob .int v,.ptr 1002 0,.sub 1003 0 32,.sub 1004 0 32,.rw 1005,.rw 1006],.row 5 .u8 seed,.blk 157 [.ob (.x 2) a,.sub 1007 32 32,.rw 1008],.row 5 .u8 I,.row 5 .u8 M,.row 4 .bool o,.row 4 .bool k,.row 5 .u8 S,.row 5 .u8 P]=>some ⟨[.one (.ob .bool (dN o k n m))],[],[],none⟩
 |_,_=>none
set_option maxHeartbeats 8000000 in
theorem js:ab 59 (gB lz):=aQ aj Mp Tryz.func59 (by kernel_rfl) rfl (rs:= [.tmp 6]) Tryz.results59 fun l cs g h hp=>by
 unfold lz at h
 split at h
 ·cases h
  exact ⟨Nat.le_of_ble_eq_true rfl,rfl,rfl,rfl,H6 _ _ _ _ _ _ _ _ _ _ _⟩
 ·cases h
set_option maxHeartbeats 8000000 in
theorem O5 (seed:List UInt8) (v:Int) (o k:List Bool) (a:Nat) (S P I M:List UInt8) (n:Int) (hp:seed.length≤65536∧0≤n∧n≤1000000):vc am (ah Ea) Tryz.f63.ntmps (ag Tryz.f63) ⟨al 0 [.one (.ptr 1000 0),.one (.ob .int n)],aK 1000 (fD seed v o k a S P I M),2000⟩ (br am Tryz.f63.ntmps [.tmp 4,.tmp 5] [.one (.rw 0),.one (.rw 1)] [(0,.row 5 .u8 (cE (dz seed n).1)),(1,.row 5 .u8 (MM (dz seed n).1 (dz seed n).2))] (fD seed v o k a S P I M) []):=by
 obtain ⟨hs,hn,hn2⟩:=hp
 have hl:(aT seed (200+n)).length=64:=fo seed _
 have hd:(dz seed n).1=List.take 32 (List.drop 0 (aT seed (200+n))):=by rw [fm seed (by omega) (by omega)];rfl
 have hz:(dz seed n).2=List.take ((aT seed (200+n)).length-32) (List.drop 32 (aT seed (200+n))):=by rw [hl,fm seed (by omega) (by omega)];rfl
 have h1:(List.take 32 (List.drop 0 (aT seed (200+n)))).length=32:=by rw [List.length_take,List.length_drop,hl];rfl
 have h2:(List.take ((aT seed (200+n)).length-32) (List.drop 32 (aT seed (200+n)))).length=32:=by rw [List.length_take,List.length_drop,hl];rfl
 have h3:cE (dz seed n).1=cE (List.take 32 (List.drop 0 (aT seed (200+n)))):=by rw [hd]
 have h4:MM (dz seed n).1 (dz seed n).2=MM (List.take 32 (List.drop 0 (aT seed (200+n)))) (List.take ((aT seed (200+n)).length-32) (List.drop 32 (aT seed (200+n)))):=by rw [hd,hz]
 have h5:yG (some (Nm.lit 32)) (aT seed (200+n)).length:=⟨by decide,by show (32:Int)≤((aT seed (200+n)).length:Nat);omega⟩
 exact ⟨⟨by omega,by omega⟩,⟨hs,TK (by decide) hn⟩,⟨h5,trivial⟩,h5,⟨h1,h2⟩,h3,h4,trivial⟩
def Ff:fb:=fun l cs=>match l,cs with
 | [.one (.ptr 1000 0),.one (.ob .int n)],[.blk 84 [.rw 1001,.ob .int v,.ptr 1002 0,.sub 1003 0 32,.sub 1004 0 32,.rw 1005,.rw 1006],.row 5 .u8 seed,.blk 157 [.ob (.x 2) a,.sub 1007 32 32,.rw 1008],.row 5 .u8 I,.row 5 .u8 M,.row 4 .bool o,.row 4 .bool k,.row 5 .u8 S,.row 5 .u8 P]=>some ⟨[.one (.rw 0),.one (.rw 1)],[(0,.row 5 .u8 (cE (dz seed n).1)),(1,.row 5 .u8 (MM (dz seed n).1 (dz seed n).2))],[],some (seed.length≤65536∧0≤n∧n≤1000000)⟩
 |_,_=>none
set_option maxHeartbeats 8000000 in
theorem wR:ab 63 (gB Ff):=aQ aj Mp Tryz.func63 (by kernel_rfl) rfl (rs:= [.tmp 4,.tmp 5]) Tryz.results63 fun l cs g h hp=>by
 unfold Ff at h
 split at h
 ·cases h
  exact ⟨Nat.le_of_ble_eq_true rfl,rfl,rfl,rfl,O5 _ _ _ _ _ _ _ _ _ _ hp⟩
 ·cases h
def MB {α:Type} (x:Cl) (k:Cl→α):α:=match x with
 | .any=>k .any| .un=>k .un| .cv v=>k (.cv v)| .ob q x=>k (.ob q x)| .vec q n l=>k (.vec q n l)| .ptr b o=>k (.ptr b o)| .pix b o i=>k (.pix b o i)| .pro q x=>k (.pro q x)| .sl b o n c=>k (.sl b o n c)| .rw b=>k (.rw b)| .sub b l n=>k (.sub b l n)| .ro q l=>k (.ro q l)| .bb l=>k (.bb l)| .pbb l=>k (.pbb l)| .ln v n=>k (.ln v n)| .mp v f=>k (.mp v f)| .rv v l=>k (.rv v l)| .fv f l m=>k (.fv f l m)
theorem Fc {α:Type} (x:Cl) (k:Cl→α):MB x k=k x:=by cases x<;>rfl
def mw {α:Type}:List AV→(List AV→α)→α
 | [],k=>k []
 | .one x::r,k=>MB x fun x=>mw r fun r=>k (.one x::r)
 | .agg l::r,k=>mw r fun r=>k (.agg l::r)
theorem jy {α:Type}:∀(l:List AV) (k:List AV→α),mw l k=k l
 | [],_=>rfl
 | .one x::r,k=>by rw [mw,Fc,jy r]
 | .agg l::r,k=>by rw [mw,jy r]
def pa {α:Type}:List Ch→(List Ch→α)→α
 | [],k=>k []
 | .blk E l::r,k=>pa r fun r=>k (.blk E l::r)
 | .row E q l::r,k=>pa r fun r=>k (.row E q l::r)
theorem mz {α:Type}:∀(l:List Ch) (k:List Ch→α),pa l k=k l
 | [],_=>rfl
 | .blk E l::r,k=>by rw [pa,mz r]
 | .row E q l::r,k=>by rw [pa,mz r]
def B6 (k:List Nat→List Ch→R aG):Nat→Nat→List Nat→(List Ch→List Ch)→R aG
 |0,_,_,_=> .fail
 |m+1,j,ns,f=>match Cs ns j with
  |none=>pa (f []) fun cs=>k ns cs
  |some b=> .hp b fun c=>match c with
   |none=> .fail
   |some (.row E q l)=>B6 k m (j+1) ns fun r=>f (.row E q l::r)
   |some (.blk E l)=>pc l ns fun l ns=>B6 k m (j+1) ns fun r=>f (.blk E l::r)
theorem lB (k:List Nat→List Ch→R aG):∀(m j:Nat) (ns:List Nat) (f:List Ch→List Ch),(∀r,f r=f []++r)→B6 k m j ns f=J7 k m j ns (f [])
 |0,_,_,_,_=>rfl
 |m+1,j,ns,f,hf=>by
  unfold B6 J7
  rw [mz]
  cases Cs ns j with
  |none=>rfl
  |some b=>
   dsimp only
   congr 1
   funext c
   cases c with
   |none=>rfl
   |some c=>
    cases c with
    |row E q l=>
     dsimp only
     rw [lB k m (j+1) ns (fun r=>f (.row E q l::r)) fun r=>by rw [hf (_::r),hf [_]];simp]
     exact congrArg _ (hf _)
    |blk E l=>
     dsimp only
     obtain ⟨l',ns',h,_,_⟩:=fN 0 l ns
     rw [h,h,lB k m (j+1) ns' (fun r=>f (.blk E l'::r)) fun r=>by rw [hf (_::r),hf [_]];simp]
     exact congrArg _ (hf _)
def wY (G:fb):CF:=fun nx args=>uk args [] fun l ns=>mw (cK l) fun l=>B6 (fun ns cs=>match uU l ns cs with
 |true=>match G l cs with
  |some ⟨outs,us,d,p⟩=>wz (cY nx ns) outs fun o=>wA (cY nx ns) us fun u=>JX (cY nx ns) d fun d=> .pure ⟨o,d++u,p,none⟩
  |none=> .fail
 |false=> .fail) 40 0 ns fun r=>r
theorem Nw (G:fb):wY G=gB G:=by
 funext nx args
 unfold wY gB
 congr 1
 funext l ns
 rw [jy,lB _ _ _ _ _ fun r=>by simp]
 try rfl
def PO (G:L6):CF:=fun nx args=>uk args [] fun l ns=>mw (cK l) fun l=>B6 (fun ns cs=>match uU l ns cs with
 |true=>(G l cs).to fun g=>wz (cY nx ns) g.outs fun o=>wA (cY nx ns) g.us fun u=>JX (cY nx ns) g.d fun d=> .pure ⟨o,d++u,g.pre,none⟩
 |false=> .fail) 40 0 ns fun r=>r
theorem Nv (G:L6):PO G=Mw G:=by
 funext nx args
 unfold PO Mw
 congr 1
 funext l ns
 rw [jy,lB _ _ _ _ _ fun r=>by simp]
 try rfl
theorem ab.q {f:Nat} {G:fb} (h:ab f (gB G)):ab f (wY G):=by rw [Nw];exact h
theorem ab.e {f:Nat} {G:L6} (h:ab f (Mw G)):ab f (PO G):=by rw [Nv];exact h
def Sp (x:Cl):Cl:=match x with | .cv (.int .i64 z)=> .ob .int z| .cv (.bool b)=> .ob .bool b|x=>x
def Rn:List AV→List AV
 | []=> []
 | .agg l::r=> .agg (l.map Sp)::Rn r
 | .one x::r=> .one x::Rn r
theorem OC {η:aY} {A:Nat→Prop} {w:World} {x:Cl} {cs:List Value} (h:x.H η A w cs):(Sp x).H η A w cs:=by
 unfold Sp
 split
 ·exact h.1
 ·exact h.1
 ·exact h
theorem A1 {η:aY} {A:Nat→Prop} {w:World}:∀ {l:List Cl} {cs:List Value},aO η A w l cs→aO η A w (l.map Sp) cs
 | [],_,h=>h
 |_::_,_,⟨h,t,e,hx,hr⟩=>⟨h,t,e,OC hx,A1 hr⟩
theorem yS {η:aY} {A:Nat→Prop} {w:World}:∀ {l:List AV} {vs:List Value},bp η A w l vs→bp η A w (Rn l) vs
 | [],_,h=>h
 | .agg _::_,_,⟨v,t,e,⟨cs,e2,hc,ho⟩,hr⟩=>⟨v,t,e,⟨cs,e2,A1 hc,ho⟩,yS hr⟩
 | .one _::_,_,⟨v,t,e,hx,hr⟩=>⟨v,t,e,hx,yS hr⟩
def Tw (C:CF):CF:=fun nx args=>C nx (Rn args)
theorem ab.m {f:Nat} {C:CF} (h:ab f C):ab f (Tw C):=⟨h.fn,fun nx l sl H ds res rd qs h1 h2 h3 η w vs hH hv hf=>h.call nx (Rn l) sl H ds res rd qs h1 h2 h3 η w vs hH (yS hv) hf⟩
end Go.Proofs.YtnlhpncaldcllaaGreat
