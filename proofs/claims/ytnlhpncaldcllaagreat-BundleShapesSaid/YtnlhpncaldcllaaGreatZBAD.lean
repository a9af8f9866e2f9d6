/- What BA rests on, part 4 of 5: my own texts, put together (merge.py). -/
import Derived.Deep.RegionHeld3
import Derived.WalkKit
import Derived.ProofKit
import Derived.Lib.Hide
import Derived.OpenShut
import Derived.Deep.MidRow
import Derived.Test.YtnlhpncaldcllaaGreatRows
import Derived.WalkSpells
import Derived.StillTactics
import Derived.Laws.Pointers
import Derived.Laws.CopyOwn
import Derived.Laws.AppendOwnNone
import Derived.RowKit3
import Derived.BigQuiet
import Derived.Deep.QuietTactic
import Derived.Deep.LoopGhost
import Derived.Deep.DeepFit
import Derived.WalkLawsBesides
import Derived.Shelf.Spec.BitsCarry
import Derived.Laws.IdiomStrings
import Derived.Maps.RangeWalk
import Derived.Great.BuildSlice
import Derived.Lib.AppendZerosOnto
import Derived.Deep.DeepCutAuto
import Derived.Lib.SliceRun
import Derived.ShutString
import Derived.ChangeOld
import Derived.Test.YtnlhpncaldcllaaGreatZBAC
set_option maxRecDepth 100000
namespace Go.Proofs.YtnlhpncaldcllaaGreat
open Go Go.RowKit
set_option maxRecDepth 10000
theorem AN (b:List UInt8):b++ [UInt8.ofNat 128]++List.replicate ((2*128-128/8-((b++ [UInt8.ofNat 128]).length:Int)%128)%128).toNat 0++List.replicate ((128:Int)/8-8).toNat 0++fD (UInt64.ofNat 8*UInt64.ofNat b.length)=dH b:=by
 have e1:((2*128-128/8-((b++ [UInt8.ofNat 128]).length:Int)%128)%128).toNat=(240-(b.length+1)%128)%128:=by
  rw [List.length_append,List.length_singleton]
  omega
 have e2:UInt64.ofNat 8*UInt64.ofNat b.length=UInt64.ofNat (8*b.length):=by
  refine UInt64.toNat_inj.1 ?_
  rw [UInt64.toNat_mul,UInt64.toNat_ofNat',UInt64.toNat_ofNat',UInt64.toNat_ofNat']
  omega
 rw [e1,e2,show ((128:Int)/8-8).toNat=8 from rfl]
 simp only [dH,List.append_assoc,List.singleton_append,List.cons_append]
 rfl
theorem Rd (b:List UInt8) (hb:b.length≤8388608):vc bF (ai O8) Tryz.f189.ntmps (ag Tryz.f189) ⟨al 0 [.one (.ro .u8 b),.one (.ob .u64 (UInt64.ofNat b.length)),.one (.ob .int 128)],[],2000⟩ (aD bF Tryz.f189.ntmps [.tmp 6] [.one (.rw 0)] [(0,.row 5 .u8 (dH b))]):=by
 have hl:(b++ [UInt8.ofNat 128]).length=b.length+1:=by rw [List.length_append];rfl
 have hp:=tj b
 refine ⟨by show b.length≤16777216;omega,by show (b++ [UInt8.ofNat 128]).length≤_;omega,?_⟩
 repeat refine sd ?_
 refine fun _=> ?_
 repeat refine sd ?_
 exact ⟨Nat.le_trans (Nat.le_of_eq (congrArg List.length (AN b))) (by omega),(AN b).symm,trivial⟩
def NA:GF:=fun l=>match l with
 | [.one (.ro .u8 b),.one (.ob .u64 n),.one (.ob .int k)]=>some ⟨[.one (.rw 0)],[(0,.row 5 .u8 (dH b))],some (n=UInt64.ofNat b.length∧k=(128:Int)∧b.length≤8388608)⟩
 |_=>none
theorem B6:ab 189 (ap NA):=af aG MJ Tryz.func189 (by kernel_rfl) rfl (rs:= [.tmp 6]) Tryz.results189 fun l g h hp=>by
 unfold NA at h
 split at h
 ·rename_i b n k
  cases h
  obtain ⟨h1,h2,h3⟩:=hp
  subst h1 h2
  exact ⟨Nat.le_of_ble_eq_true rfl,rfl,rfl,rfl,Rd _ h3⟩
 ·cases h
def RA:List (Nat×CF):=(189,ap NA)::(190,ap Ff)::O8
theorem LM:∀p∈RA,ab p.1 p.2:=ae B6<|ae uT LL
theorem Sf:aq bF (ai RA):=aA aG (aS LM)
set_option maxHeartbeats 1000000 in
theorem OI (q:List (List UInt8)) (hq:q.flatten.length≤8388608):vc bF (ai RA) Tryz.f116.ntmps (ag Tryz.f116) ⟨al 0 [.one (.bb q)],[],2000⟩ (aD bF Tryz.f116.ntmps [.tmp 2] [.one (.rw 0)] [(0,.row 5 .u8 (aM q.flatten))]):=by
 have hp:=tj q.flatten
 refine ⟨by show q.flatten.length≤16777216;omega,Int.natCast_nonneg _,⟨rfl,rfl,hq⟩,fun _=> ?_⟩
 generalize q.flatten=m at hq hp ⊢
 refine Or.inr ⟨{i:Nat // 128*i≤(dH m).length},fun i=>⟨[(5,.one (.ro .u8 ((dH m).drop (128*i.val))))],[(2080,.blk 178 [.vec .u64 8 (NH (dH m) i.val)])]⟩,fun i=>8388864-i.val,⟨0,by omega⟩,?_⟩
 refine ⟨rfl,rfl,rfl,fun i hl2=>⟨fun h1=> ?_,fun h1=> ?_⟩⟩
 ·have h1:=of_decide_eq_true h1
  have hi:=i.2
  obtain ⟨i,hi0⟩:=i
  dsimp only at hi h1 ⊢
  have hd:((dH m).drop (128*i)).length=(dH m).length-128*i:=List.length_drop
  rw [hd] at h1
  have hl64:128*i+128≤(dH m).length:=by rw [hp] at h1 ⊢;omega
  refine ⟨⟨JF _ _,by rw [hd];omega,by rw [hd];omega⟩,?_⟩
  refine ⟨⟨by decide,by show (128:Int)≤(((dH m).drop (128*i)).length:Nat);rw [hd];omega⟩,⟨i+1,by omega⟩,(by show 8388864-(i+1)<8388864-i;omega),?_,rfl,rfl,trivial⟩
  show (dH m).drop (128*(i+1))=((dH m).drop (128*i)).drop 128
  rw [List.drop_drop]
  rfl
 have h1:=of_decide_eq_false h1
 have hi:=i.2
 have hd:((dH m).drop (128*i.val)).length=(dH m).length-128*i.val:=List.length_drop
 rw [hd] at h1
 rw [show i.val=(dH m).length/128 by omega]
 refine Or.inr ⟨{t:Nat // t≤8},fun t=>⟨[(25,.one (.ob .int (t.val:Int))),(2,.one (.rw 0))],[(0,.row 5 .u8 (i8 m t.val))]⟩,fun t=>8-t.val,⟨0,by omega⟩,?_⟩
 refine ⟨rfl,rfl,fun t=>⟨fun h1=> ?_,fun h1=> ?_⟩⟩
 ·have h1:=of_decide_eq_true h1
  have ht:=t.2
  repeat refine sd ?_
  have e4:i8 m (t.val+1)=i8 m t.val++fD ((NH (dH m) ((dH m).length/128)).getD t.val 0):=i_ _ _
  refine ⟨?_,sd<|sj ⟨t.val+1,by omega⟩<|sr ⟨e4,trivial⟩⟩
  have:=nn m (t.val+1)
  show (i8 m t.val++fD ((NH (dH m) ((dH m).length/128)).getD t.val 0)).length≤_
  rw [←e4];omega
 have h1:=of_decide_eq_false h1
 have ht:=t.2
 refine ⟨?_,trivial⟩
 show aM m=i8 m t.val
 rw [show t.val=8 by omega]
 rfl
def E4:GF:=fun l=>match l with
 | [.one (.bb q)]=>some ⟨[.one (.rw 0)],[(0,.row 5 .u8 (aM q.flatten))],some (q.flatten.length≤8388608)⟩
 |_=>none
theorem yH:ab 116 (ap E4):=af aG Sf Tryz.func116 (by kernel_rfl) rfl (rs:= [.tmp 2]) Tryz.results116 fun l g h hp=>by
 unfold E4 at h
 split at h
 ·cases h;exact ⟨Nat.le_of_ble_eq_true rfl,rfl,rfl,rfl,OI _ hp⟩
 ·cases h
def wn:List Nat→List Nat→List Nat
 | [],m=>m
 |a::r,m=>a::wn r m
theorem gE {b:Nat}:∀ {l m:List Nat},b∈wn l m↔b∈l∨b∈m
 | [],m=>by simp [wn]
 |a::r,m=>by simp [wn,gE (l:=r),or_assoc]
def RO (a:AV) (k:List UInt8→List Nat→R aH):R aH:=match a with
 | .one (.cv (.slice none 0 0))=>k [] []
 | .one (.ro .u8 l)=>k l []
 | .one (.rv _ l)=>k l []
 | .one (.rw b)=> .hp b fun c=>match c with
  |some (.row _ .u8 l)=>k l [b]
  |_=> .fail
 | .one (.sub b lo n)=> .hp b fun c=>match c with
  |some (.row _ .u8 l)=>k ((l.drop lo).take n) [b]
  |_=> .fail
 |_=> .fail
def A9:List Cl→(List (List UInt8)→List Nat→R aH)→R aH
 | [],k=>k [] []
 |x::r,k=>RO (.one x) fun l h=>A9 r fun q hs=>k (l::q) (wn h hs)
def SK (a:AV) (k:AV→List Nat→R aH):R aH:=match a with
 | .one (.bb q)=>k (.one (.bb q)) []
 | .one (.sl b 0 n c)=> .hp b fun h=>match h with
  |some (.blk _ l)=>match l with
   | [.vec .u8 m q]=>match Nat.beq m n,Nat.ble c 16777216,Nat.ble n c with
    |true,true,true=>k (.one (.ro .u8 q)) [b]
    |_,_,_=> .fail
   |l=>match Nat.beq l.length n,Nat.ble c 16777216,Nat.ble n c with
    |true,true,true=>A9 l fun q hs=>k (.one (.bb q)) (b::hs)
    |_,_,_=> .fail
  |_=> .fail
 |a=>RO a fun l h=>k (.one (.ro .u8 l)) h
def C8:List Bool→List AV→(List AV→List Nat→R aH)→R aH
 |true::m,a::r,k=>SK a fun a h=>C8 m r fun r hs=>k (a::r) (wn h hs)
 |false::m,a::r,k=>C8 m r fun r hs=>k (a::r) hs
 |_,l,k=>k l []
def zS:List Nat→List Nat→Bool
 | [],_=>true
 |a::r,m=>match bh a m with |true=>false|false=>zS r m
theorem oQ:∀ {l m:List Nat},zS l m=true→∀b∈l,bh b m=false
 |a::r,m,h,b,hb=>by
  unfold zS at h
  split at h
  ·cases h
  ·rename_i e
   rcases List.mem_cons.1 hb with rfl|hb
   ·exact e
   ·exact oQ h b hb
def wq (mask:List Bool) (G:fB):CF:=fun nx args=>C8 mask args fun args hs=>tY args [] fun l ns=>JB (fun ns cs=>match zS hs ns,uz (cM l) ns cs with
 |true,true=>match G (cM l) cs with
  |some ⟨outs,us,d,p⟩=>vT (cX nx ns) outs fun o=>vU (cX nx ns) us fun u=>Jr (cX nx ns) d fun d=> .pure ⟨o,d++u,p,none⟩
  |none=> .fail
 |_,_=> .fail) 40 0 ns []
section
variable {ty:Nat→TE} {ct:Nat→Option CF} {H:Nat→Option Ch} {η:a8} {w:World} {nx:Nat} {sl:Nat→List AV} {ds:List Bool} {res:aH} {qs:List (Bool×Bool)}
def Dd (H:Nat→Option Ch) (η:a8) (hs:List Nat) (g:Nat):Prop:=ay H η g∨∃b∈hs,H b≠none∧bg η b=some g
theorem Dd.mono {hs hs':List Nat} (h:∀b∈hs,b∈hs') {g:Nat}:Dd H η hs g→Dd H η hs' g
 | .inl a=> .inl a
 | .inr ⟨b,hb,h1,h2⟩=> .inr ⟨b,h b hb,h1,h2⟩
theorem eS.mono {A A':Nat→Prop} {k:Kd} {l:List k.T} {v:Value} (hA:∀g,A g→A' g) (h:eS A w k l v):eS A' w k l v:=eS.later (η:=fun _=>none) (η':=fun _=>none) ⟨fun _ _ h=>h,fun g _ a=>⟨rfl,hA g a⟩⟩ h
theorem AV.H.mono {A A':Nat→Prop} {x:AV} {v:Value} (hA:∀g,A g→A' g) (h:x.H η A w v):x.H η A' w v:=AV.H.later ⟨fun _ _ h=>h,fun g _ a=>⟨rfl,hA g a⟩⟩ h
theorem Hy (hH:bY H η w) {x:AV} {k:List UInt8→List Nat→R aH} {rd:List cz} (h:(RO x k).run sl H ds= .ok res rd qs) {v:Value} (hx:x.H η (ay H η) w v):∃l hs rd',(k l hs).run sl H ds= .ok res rd' qs∧eS (Dd H η hs) w .u8 l v:=by
 unfold RO at h
 split at h
 ·exact ⟨_,_,_,h,by rw [ah hx.1];exact yp .u8⟩
 ·obtain ⟨u,e,hr⟩:=hx
  rw [ah e]
  exact ⟨_,_,_,h,hr.mono fun g a=> .inl a⟩
 ·obtain ⟨e,hr⟩:=hx
  rw [ah e]
  exact ⟨_,_,_,h,hr.mono fun g a=> .inl a⟩
 ·rename_i b
  obtain ⟨rd',h1⟩:=bl h
  split at h1
  ·rename_i E l hb
   obtain ⟨u,hu1,hu2,_⟩:=hx
   obtain ⟨u',e1,hr⟩:=sp (hH.chunk b _ hb) (A':=Dd H η [b]) (fun g hg=> .inr ⟨b,by simp,by rw [hb];simp,hg⟩)
   rw [hu1] at e1;cases e1
   exact ⟨_,_,_,h1,by rw [ah hu2];exact hr⟩
  ·cases h1
 ·rename_i b lo n
  obtain ⟨rd',h1⟩:=bl h
  split at h1
  ·rename_i E l hb
   obtain ⟨u,e1,hr⟩:=sH rfl (hH.chunk b _ hb) hx (A':=Dd H η [b]) (fun g hg=> .inr ⟨b,by simp,by rw [hb];simp,hg⟩)
   exact ⟨_,_,_,h1,by rw [ah e1];exact hr⟩
  ·cases h1
 ·cases h
theorem vK (hH:bY H η w):∀ {l:List Cl} {k:List (List UInt8)→List Nat→R aH} {rd:List cz} {cs:List Value},(A9 l k).run sl H ds= .ok res rd qs→aO η (ay H η) w l cs→∃q hs rd',(k q hs).run sl H ds= .ok res rd' qs∧cs.length=l.length∧q.length=l.length∧∀i (h:i<q.length) (h':i<cs.length),eS (Dd H η hs) w .u8 q[i] cs[i]
 | [],k,rd,cs,h,hc=>by cases hc;exact ⟨[],[],rd,h,rfl,rfl,fun i h=>(by cases h)⟩
 |x::r,k,rd,cs,h,⟨c1,t,e,hx,hr⟩=>by
  unfold A9 at h
  have h1:∃v,c1= [v]:=by
   cases x
   case ob q z=>cases h
   case vec q n z=>cases h
   case any=>cases h
   case un=>cases h
   case cv u=>exact ⟨_,hx.1⟩
   case ptr b o=>cases h
   case pix b o i=>cases h
   case pro q z=>cases h
   case sl b o n c=>cases h
   case rw b=>obtain ⟨v,h2,h3,_⟩:=hx;exact ⟨_,h3⟩
   case sub b lo n=>obtain ⟨v,a,c,h2,h3,_⟩:=hx;exact ⟨_,h3⟩
   case ro q z=>obtain ⟨v,h2,_⟩:=hx;exact ⟨_,h2⟩
   case bb z=>cases h
   case pbb z=>cases h
   case ln=>cases h
   case mp v f=>cases h
   case rv v l=>exact ⟨_,hx.1⟩
   case fv f l m=>cases h
  obtain ⟨v,rfl⟩:=h1
  obtain ⟨z,h0,rd1,h2,hy⟩:=Hy hH h (show AV.H η (ay H η) w (.one x) v from hx)
  obtain ⟨q,hs,rd2,h3,h4,h5,h6⟩:=vK hH h2 hr
  refine ⟨z::q,wn h0 hs,rd2,h3,by rw [e];simp [h4],by simp [h5],fun i hi hi'=> ?_⟩
  subst e
  cases i with
  |zero=>exact hy.mono fun g a=>a.mono fun b hb=>gE.2 (.inl hb)
  |succ i=>exact (h6 i (by simpa using hi) (by simpa using hi')).mono fun g a=>a.mono fun b hb=>gE.2 (.inr hb)
theorem OW (hH:bY H η w) {x:AV} {k:AV→List Nat→R aH} {rd:List cz} (h:(SK x k).run sl H ds= .ok res rd qs) {v:Value} (hx:x.H η (ay H η) w v):∃y hs rd',(k y hs).run sl H ds= .ok res rd' qs∧y.H η (Dd H η hs) w v:=by
 unfold SK at h
 split at h
 ·exact ⟨_,_,_,h,hx.mono fun g a=> .inl a⟩
 ·rename_i b n c
  obtain ⟨rd',h1⟩:=bl h
  split at h1
  ·rename_i E l hb
   obtain ⟨hnc,g,hg,hv⟩:=hx
   obtain ⟨cs,hB,hc,h1c⟩:=dh hH hb hg
   have g3:=hB.range (q:=0) (n:=cs.length)
   rw [List.drop_zero,List.take_length] at g3
   have hof:∀hs,b∈hs→Dd H η hs g:=fun hs hm=> .inr ⟨b,hm,by rw [hb];simp,by unfold bg;rw [hg];rfl⟩
   split at h1
   ·rename_i m q
    split at h1
    ·have g1:=aL ‹Nat.beq m n=true›
     have g2:=bW ‹Nat.ble c 16777216=true›
     obtain ⟨c1,t,e,⟨e1,e2⟩,e4⟩:=hc
     have e4:t= []:=e4
     subst e4
     rw [List.append_nil] at e
     subst e
     subst g1
     refine ⟨_,_,_,h1,v,rfl,some ⟨g,0,none⟩,c,by rw [ah hv,e1],by omega,by simp only [maxLen];omega,fun h=>(by cases h),fun _=>⟨g,0,cs,rfl,hof _ (by simp),e2,g3⟩⟩
    ·cases h1
   ·split at h1
    ·obtain ⟨q,hs,rd2,h2,h3,h4,h5⟩:=vK hH h1 hc
     have g1:=aL ‹Nat.beq l.length n=true›
     have g2:=bW ‹Nat.ble c 16777216=true›
     refine ⟨_,_,rd2,h2,some ⟨g,0,none⟩,c,by rw [hv,h4,g1],by omega,?_,fun h=>(by cases h),fun _=>⟨g,0,cs,rfl,hof _ (by simp),g3,by omega,fun i hi hi'=>(h5 i hi hi').mono fun g a=>a.mono fun b hb=>List.mem_cons_of_mem _ hb⟩⟩
     simp only [maxLen]
     omega
    ·cases h1
  ·cases h1
 ·obtain ⟨l,hs,rd1,h1,h2⟩:=Hy hH h hx
  exact ⟨_,hs,rd1,h1,v,rfl,h2⟩
theorem sP (hH:bY H η w):∀ {m:List Bool} {args:List AV} {k:List AV→List Nat→R aH} {rd:List cz} {vs:List Value},(C8 m args k).run sl H ds= .ok res rd qs→bp η (ay H η) w args vs→∃l hs rd',(k l hs).run sl H ds= .ok res rd' qs∧bp η (Dd H η hs) w l vs
 | [],args,k,rd,vs,h,hv=>⟨args,[],rd,by cases args<;>exact h,bp.later ⟨fun _ _ h=>h,fun g _ a=>⟨rfl,.inl a⟩⟩ hv⟩
 |true::m,[],k,rd,vs,h,hv=>⟨[],[],rd,h,hv⟩
 |false::m,[],k,rd,vs,h,hv=>⟨[],[],rd,h,hv⟩
 |true::m,x::r,k,rd,vs,h,⟨v,t,e,hx,hr⟩=>by
  unfold C8 at h
  obtain ⟨y,h0,rd1,h1,hy⟩:=OW hH h hx
  obtain ⟨l,hs,rd2,h2,hl⟩:=sP hH h1 hr
  exact ⟨_,_,rd2,h2,v,t,e,hy.mono fun g a=>a.mono fun b hb=>gE.2 (.inl hb),bp.later ⟨fun _ _ h=>h,fun g _ a=>⟨rfl,Dd.mono (fun b hb=>gE.2 (.inr hb)) a⟩⟩ hl⟩
 |false::m,x::r,k,rd,vs,h,⟨v,t,e,hx,hr⟩=>by
  unfold C8 at h
  obtain ⟨l,hs,rd2,h2,hl⟩:=sP hH h hr
  exact ⟨_,_,rd2,h2,v,t,e,hx.mono fun g a=> .inl a,hl⟩
theorem iS (hT : a_ ty) (hO : aq ty ct) {f : Nat} {fn : Func} {c : Code} {rs : List ResultVar} (hf : Tryz.prog.funcs[f]? = some fn) (hn : (fn.name == "runtime.NumGoroutine") = false) (hb : fn.body = some c) (hr : fn.results = rs.toArray) {mask : List Bool} {G : fB}
  (hG:∀l cs g,G l cs=some g→aY g.pre→l.length≤fn.ntmps∧g.outs.length=rs.length∧cD cs.length g.outs=true∧gy cs.length g.us=true∧vc ty ct fn.ntmps c ⟨al 0 l,aQ 1000 cs,2000⟩ (bR ty fn.ntmps rs g.outs g.us cs g.d)):ab f (wq mask G):=by
 refine ⟨⟨fn,c,hf,hn,hb⟩,fun nx args sl H ds res rd qs h hq hp η w vs hH hv hfree=> ?_⟩
 obtain ⟨args',hs,rd0,h,hv⟩:=sP hH h hv
 obtain ⟨l',n1,e1,e2,e3⟩:=g9 nx args' []
 rw [e1] at h
 obtain ⟨ns,cs,rd',g1,g2,g3,g4⟩:=mI nx h rfl
 split at g1
 ·rename_i hdj hok
  split at g1
  ·rename_i outs us d p e4
   have:=qf g1
   subst this
   unfold uz at hok
   split at hok
   ·rename_i k1 k2 k3 k4
    obtain ⟨q1,q2,q3,q4,q5⟩:=hG _ _ _ e4 hp
    have hns:∀j (hj:j<cs.length),H (ns.getD j 0)≠none∧bh (ns.getD j 0) ns=true:=fun j hj=>by
     refine ⟨by rw [g4 j cs[j] (Nat.zero_le _) (List.getElem?_eq_getElem hj)];simp,?_⟩
     have hlen:=aL k3
     rw [cj,List.getD_eq_getElem?_getD,List.getElem?_eq_getElem (by omega)]
     exact List.getElem_mem _
    refine qc cV hT hO hf hb hr (bW hok) k1 k2 q1 (aL k3) k4 (fun j c hc=>g4 j c (Nat.zero_le _) hc) q2 q3 q4 q5 hH hfree (A0:=Dd H η hs) (fun g ha j hj=> ?_) ?_
    ·obtain ⟨n0,n1⟩:=hns j hj
     rcases ha with ha|⟨b,hb,hb1,hb2⟩
     ·exact ha _ n0
     ·exact hH.apart b _ g (fun e=>by have:=oQ hdj b hb;rw [e,n1] at this;cases this) hb1 n0 hb2
    ·rw [←ia,e3 ns g2]
     exact dp hv
   ·cases hok
  ·cases g1
 ·cases g1
end
set_option maxRecDepth 10000
theorem Cn (x:UInt32) (n m:Nat) (h:32-n=m):bits BinOp.or IntKind.u32 (IntKind.u32.wrap ((x.toNat:Int)*2^m)) ((x.toNat:Int)/2^n)=((jc x n).toNat:Int):=by
 subst h
 unfold jc
 rw [show vo (k_ x n) (Lw x (32-n))=vo (Lw x (32-n)) (k_ x n) from UInt32.or_comm _ _,←OV,←Lx,←Lv]
theorem FY (n m:Nat) (h1:1≤n) (h2:n≤31) (h:32-n=m):bits BinOp.and IntKind.u64 (IntKind.u64.wrap (-(n:Int))) 31=(m:Int):=by
 have e:IntKind.u64.wrap (-(n:Int))=((18446744073709551616-n:Nat):Int):=by rw [IntKind.wrap_u64];omega
 have e2:=u64_and_nat (18446744073709551616-n) 31 (by omega) (by omega)
 rw [e]
 refine e2.trans ?_
 rw [show (31:Nat)=2^5-1 from rfl,Nat.and_two_pow_sub_one_eq_mod]
 omega
set_option maxHeartbeats 400000 in
theorem Cm (x:UInt32) (n:Nat) (h1:1≤n) (h2:n≤31) (w:World):Calls Tryz.prog 275 #[.int .u32 (x.toNat:Int),.int .i64 (-(n:Int))] w fun e w'=>e= .returned (.int .u32 ((jc x n).toNat:Int))∧w=w':=by
 obtain ⟨m,hm⟩:∃m:Nat,32-n=m:=⟨_,rfl⟩
 have e1:=FY n m h1 h2 hm
 have HE:=Lib.hid (Cn x n m hm)
 have hw:IntKind.u64.wrap (32-(m:Int))=(n:Int):=by rw [IntKind.wrap_u64];omega
 have hm0:(0:Int)≤(m:Int):=by omega
 have hm1:(m:Int)≤31:=by omega
 have hn0:(0:Int)≤(n:Int):=by omega
 have hn1:(n:Int)≤31:=by omega
 clear hm h1 h2
 go_enter Tryz.func275,Tryz.ntmps275
 go_wp2
 go_ret
 exact ⟨sk (by rw [←HE.out,IntKind.wrap_u32]),rfl⟩
theorem yO (x:UInt32) (k:Int) (hp: -31≤k∧k≤ -1) (w:World):Calls Tryz.prog 275 #[.int .u32 (x.toNat:Int),.int .i64 k] w fun e w'=>e= .returned (.int .u32 ((jc x (-k).toNat).toNat:Int))∧w=w':=by
 obtain ⟨n,rfl⟩:∃n:Nat,k= -(n:Int):=⟨(-k).toNat,by omega⟩
 rw [Int.neg_neg,Int.toNat_natCast]
 exact Cm x n (by omega) (by omega) w
def xA:GF:=fun l=>match l with
 | [.one (.ob .u32 x),.one (.ob .int k)]=>some ⟨[.one (.ob .u32 (jc x (-k).toNat))],[],some (Dc (-31) k (-1))⟩
 |_=>none
theorem u_:ab 275 (ap xA):=aN Tryz.func275 (by kernel_rfl) rfl fun l g h hp=>by
 unfold xA at h
 split at h
 ·rename_i x k
  cases h
  refine ⟨rfl,rfl,fun η w vs ⟨v1,t,e1,h1,v2,t2,e2,h2,e3⟩=> ?_⟩
  subst e3 e2 e1
  cases List.singleton_inj.1 (show [v1]= [_] from h1)
  cases List.singleton_inj.1 (show [v2]= [_] from h2)
  exact (yO x k hp w).mono fun e w' ⟨he,hb⟩=>⟨_,he,by subst hb;exact Below.refl _ _,fun _ _=>rfl⟩
 ·cases h
def Rw:List (Nat×CF):=(275,ap xA)::RA
theorem LE:∀p∈Rw,ab p.1 p.2:=ae u_ LM
theorem R_:aq au (ai Rw):=aA aj (aS LE)
theorem z_ (l:List UInt8) {n:Nat} (hn:n<8) (h:(gb l n).toNat<256^n):∃c,c<256∧(gb l (n+1)).toNat=(gb l n).toNat*256+c:=by
 have hp:256^(n+1)≤256^8:=Nat.pow_le_pow_right (by omega) (by omega)
 have e2:(jY (gb l n) 8).toNat=(gb l n).toNat*256:=by
  rw [jY,UInt64.toNat_ofNat',Nat.mod_eq_of_lt (by rw [Nat.pow_succ] at hp;omega)]
 rw [gb]
 split
 ·have hb:=(l.getD n 0).toNat_lt
  refine ⟨(l.getD n 0).toNat,hb,?_⟩
  rw [UInt64.toNat_or,e2,UInt8.toNat_toUInt64,show (256:Nat)=2^8 from rfl,←Nat.shiftLeft_eq,←Nat.shiftLeft_add_eq_or_of_lt (by simpa using hb)]
 ·exact ⟨0,by omega,by rw [e2];omega⟩
theorem Qk {l:List UInt8} (h:4≤l.length):(iF (gb l 8) 32).toUInt32=MQ (l.take 4):=by
 obtain ⟨h4,l4⟩:=Fj l 4 (by omega) h
 have b4:(gb l 4).toNat<256^4:=by rw [h4];exact l4
 obtain ⟨c4,k4,e5⟩:=z_ l (n:=4) (by omega) b4
 obtain ⟨c5,k5,e6⟩:=z_ l (n:=5) (by omega) (by rw [e5];omega)
 obtain ⟨c6,k6,e7⟩:=z_ l (n:=6) (by omega) (by rw [e6,e5];omega)
 obtain ⟨c7,k7,e8⟩:=z_ l (n:=7) (by omega) (by rw [e7,e6,e5];omega)
 apply UInt32.toNat_inj.1
 rw [MQ,UInt32.toNat_ofNat',UInt64.toNat_toUInt32,iF,UInt64.toNat_ofNat',e8,e7,e6,e5,←h4]
 omega
theorem K2 (b:List UInt8) (hb:4≤b.length):vc au (ai Rw) Tryz.f274.ntmps (ag Tryz.f274) ⟨al 0 [.one (.ro .u8 b)],[],2000⟩ (aD au Tryz.f274.ntmps [.tmp 2] [.one (.ob .u32 (MQ (b.take 4)))] []):=by
 refine ⟨?_,trivial⟩
 show [MQ (b.take 4)]= [(iF (gb b 8) 32).toUInt32]
 rw [Qk hb]
def xh:GF:=fun l=>match l with
 | [.one (.ro .u8 b)]=>some ⟨[.one (.ob .u32 (MQ (b.take 4)))],[],some (4≤b.length)⟩
 |_=>none
theorem tZ:ab 274 (ap xh):=af aj R_ Tryz.func274 (by kernel_rfl) rfl (rs:= [.tmp 2]) Tryz.results274 fun l g h hp=>by
 unfold xh at h
 split at h
 ·cases h;exact ⟨Nat.le_of_ble_eq_true rfl,rfl,rfl,rfl,K2 _ hp⟩
 ·cases h
def Pp:List (Nat×CF):=(274,ap xh)::Rw
theorem LF:∀p∈Pp,ab p.1 p.2:=ae tZ LE
theorem PV:aq au (ai Pp):=aA aj (aS LF)
theorem Rn {b:List UInt8} (hb:64≤b.length) {i:Nat} (hi:i<16):MQ ((b.drop (4*(i:Int)).toNat).take 4)=de (nR (cP b) 64) i:=by
 rw [show (4*(i:Int)).toNat=4*i by omega,OZ _ hi]
 unfold de cP
 rw [a9 (by omega)]
abbrev QF (b:List UInt8) (i:Nat):List UInt32:=bu 0 64 (de (nR (cP b) 64)) (List.replicate 64 0) i
set_option maxHeartbeats 4000000 in
theorem Lm (h:List UInt32) (b:List UInt8) (hh:h.length=8) (hb:64≤b.length) (hb2:b.length≤16777216):vc au (ai Pp) Tryz.f273.ntmps (ag Tryz.f273) ⟨al 0 [.agg [.vec .u32 8 h],.one (.ro .u8 b)],[],2000⟩ (aD au Tryz.f273.ntmps [.cell 4 273] [.agg [.vec .u32 8 (pF h (cP b))]] []):=by
 refine Or.inr ⟨{i:Nat // i≤64},fun i=>⟨[(22,.one (.ob .int (i.val:Int)))],[(2032,.blk 274 [.vec .u32 64 (QF b i.val)])]⟩,fun i=>64-i.val,⟨0,by omega⟩,?_⟩
 refine ⟨rfl,rfl,dl (by simp),fun i=>⟨fun h1=>⟨fun h2=> ?_,fun h2=> ?_⟩,fun h1=> ?_⟩⟩
 ·have h1:=of_decide_eq_true h1
  have h2:=of_decide_eq_true h2
  have hi:=i.2
  have hd:(b.drop (4*(i.val:Int)).toNat).length=b.length-4*i.val:=by rw [List.length_drop];omega
  repeat refine sd ?_
  refine ⟨by show 4≤(b.drop (4*(i.val:Int)).toNat).length;omega,?_⟩
  repeat refine sd ?_
  refine sj ⟨i.val+1,by omega⟩<|sr<|sr ⟨?_,trivial⟩
  exact ((congrArg (fun z=>(QF b i.val).set i.val z) (Rn hb (by omega))).trans bq).symm
 ·have h1:=of_decide_eq_true h1
  have h2:=of_decide_eq_false h2
  have hi:=i.2
  have k:=fun m (h0:0<m) (hm:m≤16)=>show (QF b i.val).getD (Int.toNat ((i.val:Int)-(m:Nat))) 0=de (nR (cP b) 64) (i.val-m) by rw [show Int.toNat ((i.val:Int)-(m:Nat))=i.val-m by omega,cg (by omega),if_pos (by omega)]
  repeat refine sd ?_
  refine sj ⟨i.val+1,by omega⟩<|sr<|sr ⟨?_,trivial⟩
  refine ((congrArg (fun z=>(QF b i.val).set i.val z) ?_).trans bq).symm
  rw [OY _ (by omega) (by omega),←k 16 (by omega) (by omega),←k 15 (by omega) (by omega),←k 7 (by omega) (by omega),←k 2 (by omega) (by omega)]
  rfl
 ·have h1:=of_decide_eq_false h1
  have hi:=i.2
  rw [show i.val=64 by omega,show QF b 64=nR (cP b) 64 from (b9 (by omega)).trans (ja (j1 _ _))]
  refine Or.inr ⟨{t:Nat // t≤64},fun t=>⟨[(75,.one (.ob .int (t.val:Int)))],[(3144,.blk 273 [.vec .u32 8 (QQ h (nR (cP b) 64) t.val)])]⟩,fun t=>64-t.val,⟨0,by omega⟩,?_⟩
  refine ⟨rfl,rfl,rfl,fun t=>⟨fun h1=> ?_,fun h1=> ?_⟩⟩
  ·have h1:=of_decide_eq_true h1
   have ht:=t.2
   repeat refine sd ?_
   refine sj ⟨t.val+1,by omega⟩<|sr<|sr ⟨?_,trivial⟩
   have e3:de RG t.val=(iF (BI.getD t.val 0) 32).toUInt32:=by
    unfold de RG
    rw [FL (d:=0) (by rw [List.length_take,Fz];omega),Qn]
    simp [List.getD_eq_getElem?_getD,show t.val<64 by omega]
   show QS _ (de RG t.val) _=_
   rw [e3]
   rfl
  have h1:=of_decide_eq_false h1
  have ht:=t.2
  rw [show t.val=64 by omega]
  refine Or.inr ⟨{t:Nat // t≤8},fun t=>⟨[(159,.one (.ob .int (t.val:Int)))],[(2000,.blk 273 [.vec .u32 8 (bu 0 8 (fun j=>vp (de h j) (de (QQ h (nR (cP b) 64) 64) j)) h t.val)])]⟩,fun t=>8-t.val,⟨0,by omega⟩,?_⟩
  refine ⟨rfl,rfl,dl hh,fun t=>⟨fun h1=> ?_,fun h1=> ?_⟩⟩
  ·have h1:=of_decide_eq_true h1
   have ht:=t.2
   repeat refine sd ?_
   refine sj ⟨t.val+1,by omega⟩<|sr<|sr ⟨?_,trivial⟩
   refine (congrArg (fun z=>(bu 0 8 (fun j=>vp (de h j) (de (QQ h (nR (cP b) 64) 64) j)) h t.val).set t.val z) ?_).trans bq |>.symm
   show vp ((bu 0 8 _ h t.val).getD t.val 0) _=_
   rw [cg (by omega),if_neg (by omega)]
   rfl
  have h1:=of_decide_eq_false h1
  have ht:=t.2
  rw [show t.val=8 by omega,b9 (by omega)]
  exact ⟨rfl,rfl,trivial⟩
def xJ:GF:=fun l=>match l with
 | [.agg [.vec .u32 8 h],.one (.ro .u8 b)]=>some ⟨[.agg [.vec .u32 8 (pF h (cP b))]],[],some (h.length=8∧64≤b.length∧b.length≤16777216)⟩
 |_=>none
theorem vC:ab 273 (ap xJ):=af aj PV Tryz.func273 (by kernel_rfl) rfl (rs:= [.cell 4 273]) Tryz.results273 fun l g h hp=>by
 unfold xJ at h
 split at h
 ·cases h;exact ⟨Nat.le_of_ble_eq_true rfl,rfl,rfl,rfl,Lm _ _ hp.1 hp.2.1 hp.2.2⟩
 ·cases h
set_option maxRecDepth 10000
theorem oq:ab 176 (ap ju):=dY Tryz.func176 (by kernel_rfl) rfl fun l g h hp=>by
 unfold ju at h
 split at h
 ·rename_i q
  cases h
  refine ⟨_,rfl,rfl,fun η w vs ⟨v1,t,e1,⟨a,c,f1,h1,h2,h3,h4⟩,e3⟩=> ?_⟩
  subst e3 e1
  cases List.singleton_inj.1 f1
  refine ma w ⟨rfl,h1,h2,fun i hi=> ?_⟩ (Nat.le_trans hp (by decide))
  obtain ⟨g,o,us,rfl,_,hr,hl,hi'⟩:=h4 (by omega)
  have hu:=hi' i hi (by omega)
  obtain ⟨ad,c2,e,hR⟩:=hu.rdb
  refine ⟨g,o,ad,_,c2,rfl,?_,hR⟩
  rw [←e]
  exact hr i _ (List.getElem?_eq_getElem (by omega))
 ·cases h
def kv (r:List UInt8) (n:UInt64):List UInt8:=r++(128::List.replicate ((119-r.length%64)%64) 0)++fD (UInt64.ofNat 8*n)
theorem uI (r:List UInt8) (n:UInt64):(kv r n).length=r.length+1+(119-r.length%64)%64+8:=by
 unfold kv
 rw [List.length_append,List.length_append,D6,List.length_cons,List.length_replicate];omega
theorem AO (b:List UInt8) (n:UInt64):b++ [UInt8.ofNat 128]++List.replicate ((2*64-64/8-((b++ [UInt8.ofNat 128]).length:Int)%64)%64).toNat 0++List.replicate ((64:Int)/8-8).toNat 0++fD (UInt64.ofNat 8*n)=kv b n:=by
 have e1:((2*64-64/8-((b++ [UInt8.ofNat 128]).length:Int)%64)%64).toNat=(119-b.length%64)%64:=by
  rw [List.length_append,List.length_singleton]
  omega
 rw [e1,show ((64:Int)/8-8).toNat=0 from rfl]
 simp only [kv,List.append_assoc,List.singleton_append,List.cons_append]
 rfl
theorem OJ (b:List UInt8) (n:UInt64) (hb:b.length≤8388608):vc au (ai Pp) Tryz.f189.ntmps (ag Tryz.f189) ⟨al 0 [.one (.ro .u8 b),.one (.ob .u64 n),.one (.ob .int 64)],[],2000⟩ (aD au Tryz.f189.ntmps [.tmp 6] [.one (.rw 0)] [(0,.row 5 .u8 (kv b n))]):=by
 have hl:(b++ [UInt8.ofNat 128]).length=b.length+1:=by rw [List.length_append];rfl
 have hp:=uI b n
 refine ⟨by show b.length≤16777216;omega,by show (b++ [UInt8.ofNat 128]).length≤_;omega,?_⟩
 repeat refine sd ?_
 refine fun _=> ?_
 repeat refine sd ?_
 exact ⟨Nat.le_trans (Nat.le_of_eq (congrArg List.length (AO b n))) (by omega),(AO b n).symm,trivial⟩
def E5:GF:=fun l=>match l with
 | [.one (.ro .u8 b),.one (.ob .u64 n),.one (.ob .int k)]=>some ⟨[.one (.rw 0)],[(0,.row 5 .u8 (kv b n))],some (k=(64:Int)∧b.length≤8388608)⟩
 |_=>none
theorem yB:ab 189 (ap E5):=af aj PV Tryz.func189 (by kernel_rfl) rfl (rs:= [.tmp 6]) Tryz.results189 fun l g h hp=>by
 unfold E5 at h
 split at h
 ·rename_i b n k
  cases h
  obtain ⟨h2,h3⟩:=hp
  subst h2
  exact ⟨Nat.le_of_ble_eq_true rfl,rfl,rfl,rfl,OJ _ _ h3⟩
 ·cases h
def Ib:List (Nat×CF):=(189,ap E5)::(176,ap ju)::(107,ap mE)::(273,ap xJ)::Pp
theorem Dr:∀p∈Ib,ab p.1 p.2:=ae yB<|ae oq<|ae gM<|ae vC LF
theorem PA:aq au (ai Ib):=aA aj (aS Dr)
def Ql (i:Nat):UInt32:=(iF (Fp.getD i 0) 32).toUInt32
def vV (s:List UInt32):List UInt32:=bu 0 8 (fun i=>s.getD i 0^^^Ql i) s 8
theorem OG (s:List UInt32) (hs:s.length=8):vc au (ai Ib) Tryz.f272.ntmps (ag Tryz.f272) ⟨al 0 [.agg [.vec .u32 8 s]],[],2000⟩ (aD au Tryz.f272.ntmps [.cell 2 273] [.agg [.vec .u32 8 (vV s)]] []):=by
 refine Or.inr ⟨{i:Nat // i≤8},fun i=>⟨[(6,.one (.ob .int (i.val:Int)))],[(2000,.blk 273 [.vec .u32 8 (bu 0 8 (fun i=>s.getD i 0^^^Ql i) s i.val)])]⟩,fun i=>8-i.val,⟨0,by omega⟩,?_⟩
 refine ⟨rfl,rfl,dl hs,fun i=>⟨fun h1=> ?_,fun h1=> ?_⟩⟩
 ·have h1:=of_decide_eq_true h1
  have hi:=i.2
  repeat refine sd ?_
  refine sj ⟨i.val+1,by omega⟩<|sr<|sr ⟨?_,trivial⟩
  refine ((congrArg (List.set _ i.val) ?_).trans bq).symm
  show (bu 0 8 _ s i.val).getD i.val 0^^^Ql i.val=_
  rw [cg (by omega),if_neg (by omega)]
 have h1:=of_decide_eq_false h1
 have hi:=i.2
 rw [show i.val=8 by omega]
 exact ⟨rfl,rfl,trivial⟩
def EZ:GF:=fun l=>match l with
 | [.agg [.vec .u32 8 s]]=>some ⟨[.agg [.vec .u32 8 (vV s)]],[],some (s.length=8)⟩
 |_=>none
theorem yz:ab 272 (ap EZ):=af aj PA Tryz.func272 (by kernel_rfl) rfl (rs:= [.cell 2 273]) Tryz.results272 fun l g h hp=>by
 unfold EZ at h
 split at h
 ·cases h;exact ⟨Nat.le_of_ble_eq_true rfl,rfl,rfl,rfl,OG _ hp⟩
 ·cases h
def Bd:List (Nat×CF):=(272,ap EZ)::Ib
theorem Ds:∀p∈Bd,ab p.1 p.2:=ae yz Dr
theorem DT:aq au (ai Bd):=aA aj (aS Ds)
theorem ie (s:List UInt32):(vV s).length=8:=ui _
def JE (h:List UInt32) (l:List UInt8):Nat→List UInt32
 |0=>h
 |i+1=>pF (JE h l i) (cP (l.drop (64*i)))
theorem rm {h:List UInt32} (hh:h.length=8) (l:List UInt8):∀i,(JE h l i).length=8
 |0=>hh
 |_+1=>pG _ _
def pb (s:List UInt32) (l:List UInt8):List UInt32:=vV (JE (vV s) l (l.length/64))
def kQ (l:List UInt8):List UInt8:=l.drop (64*(l.length/64))
abbrev h2 (s:List UInt32) (r:List UInt8) (n:UInt64):List Ch:= [.blk 278 [.vec .u32 8 s,.rw 1001,.ob .u64 n],.row 5 .u8 r]
theorem Oz (s:List UInt32) (r x:List UInt8) (n:UInt64) (hs:s.length=8) (hl:(r++x).length≤8388608):vc au (ai Bd) Tryz.f265.ntmps (ag Tryz.f265) ⟨al 0 [.one (.ptr 1000 0),.one (.ro .u8 x)],aQ 1000 (h2 s r n),2000⟩ (bR au Tryz.f265.ntmps [] [] [(1000,.blk 278 [.vec .u32 8 (pb s (r++x)),.rw 0,.ob .u64 (n+UInt64.ofNat x.length)]),(0,.row 5 .u8 (kQ (r++x)))] (h2 s r n) []):=by
 have hf: [r,x].flatten=r++x:=by simp
 refine ⟨by omega,fun hx=>⟨by rw [hf];omega,hs,?_⟩⟩
 rw [hf]
 generalize hD:r++x=D at hl
 refine Or.inr ⟨{k:Nat // k≤D.length/64},fun k=>⟨[(4,.one (.ro .u8 (D.drop (64*k.val))))],[(2416,.blk 273 [.vec .u32 8 (JE (vV s) D k.val)])]⟩,fun k=>D.length/64-k.val,⟨0,by omega⟩,?_⟩
 refine ⟨rfl,rfl,rfl,fun k h0=>⟨fun h1=> ?_,fun h1=> ?_⟩⟩
 ·have h1:=of_decide_eq_true h1
  have hk:=k.2
  have hd:(D.drop (64*k.val)).length=D.length-64*k.val:=List.length_drop
  refine ⟨⟨rm (ie _) _ _,by omega,by omega⟩,⟨by decide,by show (64:Int)≤((D.drop (64*k.val)).length:Nat);omega⟩,?_⟩
  refine sj ⟨k.val+1,by omega⟩ ⟨?_,rfl,rfl,trivial⟩
  show D.drop (64*(k.val+1))=(D.drop (64*k.val)).drop 64
  rw [List.drop_drop,Nat.mul_succ]
 have h1:=of_decide_eq_false h1
 have hk:=k.2
 have hd:(D.drop (64*k.val)).length=D.length-64*k.val:=List.length_drop
 have hkK:k.val=D.length/64:=by omega
 refine ⟨rm (ie _) _ _,by omega,rfl,?_,rfl,?_,trivial⟩
 ·rw [hkK];rfl
 ·rw [hkK];rfl
def ET:fB:=fun l cs=>match l,cs with
 | [.one (.ptr 1000 0),.one (.ro .u8 x)],[.blk 278 [.vec .u32 8 s,.rw 1001,.ob .u64 n],.row 5 .u8 r]=>some ⟨[],[(1000,.blk 278 [.vec .u32 8 (pb s (r++x)),.rw 0,.ob .u64 (n+UInt64.ofNat x.length)]),(0,.row 5 .u8 (kQ (r++x)))],[],some (s.length=8∧(r++x).length≤8388608)⟩
 |_,_=>none
theorem xP:ab 265 (wq [false,true] ET):=iS aj DT Tryz.func265 (by kernel_rfl) rfl (rs:= []) Tryz.results265 fun l cs g h hp=>by
 unfold ET at h
 split at h
 ·cases h;exact ⟨Nat.le_of_ble_eq_true rfl,rfl,rfl,rfl,Oz _ _ _ _ hp.1 hp.2⟩
 ·cases h
theorem K4 (s:List UInt32) (r:List UInt8) (n:UInt64) (hr:r.length≤8388608):vc au (ai Bd) Tryz.f266.ntmps (ag Tryz.f266) ⟨al 0 [.one (.ptr 1000 0)],aQ 1000 (h2 s r n),2000⟩ (bR au Tryz.f266.ntmps [.tmp 2] [.one (.ptr 0 0)] [(0,.blk 278 [.vec .u32 8 s,.rw 1,.ob .u64 n]),(1,.row 5 .u8 r)] (h2 s r n) []):=by
 exact ⟨by omega,rfl,rfl,rfl,rfl,trivial⟩
def xk:fB:=fun l cs=>match l,cs with
 | [.one (.ptr 1000 0)],[.blk 278 [.vec .u32 8 s,.rw 1001,.ob .u64 n],.row 5 .u8 r]=>some ⟨[.one (.ptr 0 0)],[(0,.blk 278 [.vec .u32 8 s,.rw 1,.ob .u64 n]),(1,.row 5 .u8 r)],[],some (r.length≤8388608)⟩
 |_,_=>none
theorem t5:ab 266 (iz xk):=aW aj DT Tryz.func266 (by kernel_rfl) rfl (rs:= [.tmp 2]) Tryz.results266 fun l cs g h hp=>by
 unfold xk at h
 split at h
 ·cases h;exact ⟨Nat.le_of_ble_eq_true rfl,rfl,rfl,rfl,K4 _ _ _ hp⟩
 ·cases h
def rV (h:List UInt32) (n:Nat):List UInt8:=((List.range n).map fun i=>IH (de h i)).flatten
theorem pj (h:List UInt32) (n:Nat):rV h (n+1)=rV h n++IH (de h n):=by
 unfold rV
 rw [List.range_succ,List.map_append,List.flatten_append,List.map_singleton,List.flatten_singleton]
theorem np (h:List UInt32):∀n,(rV h n).length=4*n
 |0=>rfl
 |n+1=>by rw [pj,List.length_append,np h n,p7];omega
def BF (s:List UInt32) (r:List UInt8) (n:UInt64):List UInt8:=rV (JE (vV s) (kv r n) ((kv r n).length/64)) 8
theorem wg (x:UInt32):((fD x.toUInt64).drop 4).take 4=IH x:=by
 unfold fD IH
 rw [UInt32.toNat_toUInt64]
 rfl
set_option maxHeartbeats 1000000 in
theorem OA (s:List UInt32) (r:List UInt8) (n:UInt64) (hs:s.length=8) (hr:r.length≤8388608):vc au (ai Bd) Tryz.f267.ntmps (ag Tryz.f267) ⟨al 0 [.one (.ptr 1000 0)],aQ 1000 (h2 s r n),2000⟩ (bR au Tryz.f267.ntmps [.tmp 2] [.one (.rw 0)] [(0,.row 5 .u8 (BF s r n))] (h2 s r n) []):=by
 have hl:=uI r n
 have hl64:(kv r n).length=64*((kv r n).length/64):=by omega
 refine ⟨hs,⟨rfl,hr⟩,?_⟩
 unfold BF
 generalize kv r n=D at hl hl64
 generalize hK:D.length/64=K at hl64
 refine Or.inr ⟨{k:Nat // k≤K},fun k=>⟨[(4,.one (.ro .u8 (D.drop (64*k.val))))],[(2128,.blk 273 [.vec .u32 8 (JE (vV s) D k.val)])]⟩,fun k=>K-k.val,⟨0,by omega⟩,?_⟩
 refine ⟨rfl,rfl,rfl,fun k h0=>⟨fun h1=> ?_,fun h1=> ?_⟩⟩
 ·have h1:=of_decide_eq_true h1
  have hk:=k.2
  have hd:(D.drop (64*k.val)).length=D.length-64*k.val:=List.length_drop
  refine ⟨⟨rm (ie _) _ _,by omega,by omega⟩,⟨by decide,by show (64:Int)≤((D.drop (64*k.val)).length:Nat);omega⟩,?_⟩
  refine sj ⟨k.val+1,by omega⟩ ⟨?_,rfl,rfl,trivial⟩
  show D.drop (64*(k.val+1))=(D.drop (64*k.val)).drop 64
  rw [List.drop_drop,Nat.mul_succ]
 have h1:=of_decide_eq_false h1
 have hk:=k.2
 have hd:(D.drop (64*k.val)).length=D.length-64*k.val:=List.length_drop
 rw [show k.val=K by omega]
 generalize JE (vV s) D K=H
 refine Or.inr ⟨{i:Nat // i≤8},fun i=>⟨[(32,.one (.ob .int (i.val:Int))),(2,.one (.rw 0))],[(0,.row 5 .u8 (rV H i.val))]⟩,fun i=>8-i.val,⟨0,by omega⟩,?_⟩
 refine ⟨rfl,rfl,fun i=>⟨fun h1=> ?_,fun h1=> ?_⟩⟩
 ·have h1:=of_decide_eq_true h1
  have hi:=i.2
  have he:rV H i.val++((fD (H.getD i.val 0).toUInt64).drop 4).take 4=rV H (i.val+1):=by rw [wg,pj];rfl
  have hL:=np H (i.val+1)
  refine ⟨⟨by omega,by show (i.val:Int)<8;omega⟩,?_,⟨by omega,by omega⟩,sj ⟨i.val+1,by omega⟩ ⟨rfl,?_,trivial⟩⟩
  ·show (rV H i.val++((fD (H.getD i.val 0).toUInt64).drop 4).take 4).length≤_
   rw [he];omega
  ·exact he.symm
 have h1:=of_decide_eq_false h1
 have hi:=i.2
 rw [show i.val=8 by omega]
 exact ⟨rfl,trivial⟩
def EU:fB:=fun l cs=>match l,cs with
 | [.one (.ptr 1000 0)],[.blk 278 [.vec .u32 8 s,.rw 1001,.ob .u64 n],.row 5 .u8 r]=>some ⟨[.one (.rw 0)],[(0,.row 5 .u8 (BF s r n))],[],some (s.length=8∧r.length≤8388608)⟩
 |_,_=>none
theorem xT:ab 267 (iz EU):=aW aj DT Tryz.func267 (by kernel_rfl) rfl (rs:= [.tmp 2]) Tryz.results267 fun l cs g h hp=>by
 unfold EU at h
 split at h
 ·cases h;exact ⟨Nat.le_of_ble_eq_true rfl,rfl,rfl,rfl,OA _ _ _ hp.1 hp.2⟩
 ·cases h
def Ic:List (Nat×CF):=(265,wq [false,true] ET)::(266,iz xk)::(267,iz EU)::Bd
theorem Dt:∀p∈Ic,ab p.1 p.2:=ae xP<|ae t5<|ae xT Ds
theorem PB:aq au (ai Ic):=aA aj (aS Dt)
set_option maxRecDepth 10000
theorem Gb (s:List UInt32) {i:Nat} (hi:i<8):(vV s).getD i 0=s.getD i 0^^^Ql i:=by rw [vV,cg hi,if_pos hi]
theorem N6 {s:List UInt32} (hs:s.length=8):vV (vV s)=s:=by
 apply List.ext_getElem (by rw [ie,hs])
 intro i h1 h2
 rw [hs] at h2
 have e:=Gb (vV s) h2
 rw [Gb s h2,UInt32.xor_assoc,UInt32.xor_self,UInt32.xor_zero] at e
 rw [List.getD_eq_getElem?_getD,List.getD_eq_getElem?_getD,List.getElem?_eq_getElem h1,List.getElem?_eq_getElem (by omega)] at e
 exact e
theorem vM {l l':List UInt8} (h:l.take 64=l'.take 64):cP l=cP l':=by
 unfold cP
 refine List.map_congr_left fun i hi=> ?_
 have hi:=List.mem_range.1 hi
 have e:∀m:List UInt8,(m.drop (4*i)).take 4=((m.take 64).drop (4*i)).take 4:=fun m=>by
  rw [List.drop_take,List.take_take,Nat.min_eq_left (by omega)]
 rw [e l,e l',h]
theorem Ad (m x:List UInt8):∀k,64*k≤m.length→Df (m++x) k=Df m k
 |0,_=>rfl
 |k+1,h=>by
  rw [Df,Df,Ad m x k (by omega),vM]
  rw [List.drop_append_of_le_length (by omega),List.take_append_of_le_length (by rw [List.length_drop];omega)]
theorem rl (m x:List UInt8) (k:Nat) (h:64*k≤m.length):∀j,JE (Df m k) (m.drop (64*k)++x) j=Df (m++x) (k+j)
 |0=>(Ad m x k h).symm
 |j+1=>by
  rw [JE,rl m x k h j,←List.drop_append_of_le_length h,List.drop_drop,←Nat.mul_add]
  rfl
def Dh (m:List UInt8):List UInt32:=vV (Df m (m.length/64))
def se (m:List UInt8):List UInt8:=m.drop (64*(m.length/64))
theorem jT (m:List UInt8):(Dh m).length=8:=ie _
theorem lC (m:List UInt8):(se m).length=m.length%64:=by rw [se,List.length_drop];omega
theorem Gc (m:List UInt8):vV (Dh m)=Df m (m.length/64):=N6 (JG _ _)
theorem sG (m x:List UInt8):pb (Dh m) (se m++x)=Dh (m++x):=by
 rw [pb,Gc,se,rl _ _ _ (by omega),List.length_append,List.length_drop,Dh,List.length_append,show m.length/64+(m.length-64*(m.length/64)+x.length)/64=(m.length+x.length)/64 by omega]
theorem lK (m x:List UInt8):kQ (se m++x)=se (m++x):=by
 rw [kQ,se,←List.drop_append_of_le_length (by omega),List.drop_drop,se,List.length_drop,List.length_append,show 64*(m.length/64)+64*((m.length+x.length-64*(m.length/64))/64)=64*((m.length+x.length)/64) by omega]
theorem A3 (m x:List UInt8):UInt64.ofNat m.length+UInt64.ofNat x.length=UInt64.ofNat (m++x).length:=by
 rw [List.length_append,UInt64.ofNat_add]
theorem GS (m:List UInt8):BF (Dh m) (se m) (UInt64.ofNat m.length)=fY m:=by
 have e2:UInt64.ofNat 8*UInt64.ofNat m.length=UInt64.ofNat (8*m.length):=by rw [UInt64.ofNat_mul]
 have hp:kv (se m) (UInt64.ofNat m.length)=m.drop (64*(m.length/64))++((128::List.replicate ((119-m.length%64)%64) 0)++fD (UInt64.ofNat (8*m.length))):=by
  rw [kv,e2,lC,Nat.mod_mod,List.append_assoc]
  rfl
 have hv:B5 m=m++((128::List.replicate ((119-m.length%64)%64) 0)++fD (UInt64.ofNat (8*m.length))):=by
  rw [B5,List.append_assoc]
 rw [BF,Gc,hp,rl _ _ _ (by omega),fY,hv]
 generalize (128::List.replicate ((119-m.length%64)%64) (0:UInt8))++fD (UInt64.ofNat (8*m.length))=T
 rw [List.length_append,List.length_drop,List.length_append,show m.length/64+(m.length-64*(m.length/64)+T.length)/64=(m.length+T.length)/64 by omega]
 rfl
theorem sq:Dh []=List.replicate 8 0:=by decide +kernel
abbrev hB (m:List UInt8) (r:Nat):Ch:= .blk 278 [.vec .u32 8 (Dh m),.rw r,.ob .u64 (UInt64.ofNat m.length)]
abbrev hR (m:List UInt8):Ch:= .row 5 .u8 (se m)
theorem CU (q:List (List UInt8)) (hq:q.flatten.length≤8000000):vc au (ai Ic) Tryz.f264.ntmps (ag Tryz.f264) ⟨al 0 [.one (.bb q)],[],2000⟩ (aD au Tryz.f264.ntmps [.tmp 2] [.one (.rw 0)] [(0,.row 5 .u8 (fY q.flatten))]):=by
 refine fun hq0=> ?_
 have hq1:q.length≤9223372036854775807:=Nat.le_trans hq0 (by unfold maxLen;decide)
 refine Or.inr ⟨{i:Nat // i≤q.length},fun i=>⟨[(10,.one (.ob .int (i.val:Int)))],[(2032,hB (q.take i.val).flatten 0),(0,hR (q.take i.val).flatten)]⟩,fun i=>q.length-i.val,⟨0,Nat.zero_le _⟩,?_⟩
 have hf:∀i,(q.take i).flatten.length≤8000000:=fun i=>by
  have h:=congrArg List.flatten (List.take_append_drop i q)
  rw [List.flatten_append] at h
  have h2:=congrArg List.length h
  rw [List.length_append] at h2
  omega
 have e0:(q.take 0).flatten= []:=by rw [List.take_zero];rfl
 refine ⟨rfl,rfl,?_,?_,?_,fun i=>⟨fun h1=> ?_,fun h1=> ?_⟩⟩
 ·show Dh (q.take 0).flatten=List.replicate 8 0
  rw [e0,sq]
 ·show [UInt64.ofNat (q.take 0).flatten.length]= [(0:UInt64)]
  rw [e0];rfl
 ·show se (q.take 0).flatten= []
  rw [e0];rfl
 ·have h1:=of_decide_eq_true h1
  have hi:=i.2
  have hl:i.val<q.length:=by omega
  have he:(q.take (i.val+1)).flatten=(q.take i.val).flatten++q.getD i.val []:=by
   rw [List.take_add_one,List.flatten_append,List.getElem?_eq_getElem hl,List.getD_eq_getElem?_getD,List.getElem?_eq_getElem hl]
   simp
  have hT:=hf (i.val+1)
  rw [he] at hT
  refine ⟨⟨by omega,by omega⟩,⟨jT _,?_⟩,⟨by omega,by omega⟩,sj ⟨i.val+1,by omega⟩ ⟨rfl,rfl,?_,?_,?_,trivial⟩⟩
  ·show (se (q.take i.val).flatten++q.getD i.val []).length≤_
   rw [List.length_append,lC]
   rw [List.length_append] at hT
   have:=Nat.mod_le (q.take i.val).flatten.length 64
   omega
  ·show Dh (q.take (i.val+1)).flatten=pb (Dh (q.take i.val).flatten) (se (q.take i.val).flatten++q.getD i.val [])
   rw [he,sG]
  ·show [UInt64.ofNat (q.take (i.val+1)).flatten.length]= [UInt64.ofNat (q.take i.val).flatten.length+UInt64.ofNat (q.getD i.val []).length]
   rw [he,A3]
  ·show se (q.take (i.val+1)).flatten=kQ (se (q.take i.val).flatten++q.getD i.val [])
   rw [he,lK]
 have h1:=of_decide_eq_false h1
 have hi:=i.2
 rw [show i.val=q.length by omega,List.take_length]
 refine ⟨⟨jT _,?_⟩,(GS _).symm,trivial⟩
 rw [lC]
 omega
def xl:GF:=fun l=>match l with
 | [.one (.bb q)]=>some ⟨[.one (.rw 0)],[(0,.row 5 .u8 (fY q.flatten))],some (q.flatten.length≤8000000)⟩
 |_=>none
theorem t6:ab 264 (ap xl):=af aj PB Tryz.func264 (by kernel_rfl) rfl (rs:= [.tmp 2]) Tryz.results264 fun l g h hp=>by
 unfold xl at h
 split at h
 ·cases h;exact ⟨Nat.le_of_ble_eq_true rfl,rfl,rfl,rfl,CU _ hp⟩
 ·cases h
def Id:List (Nat×CF):=(264,ap xl)::Ic
theorem Du:∀p∈Id,ab p.1 p.2:=ae t6 Dt
theorem PC:aq au (ai Id):=aA aj (aS Du)
set_option maxRecDepth 10000
def mP (k:List UInt8):List UInt8:=(fR 64 k).map (· ^^^0x36)
def ng (k:List UInt8):List UInt8:=(fR 64 k).map (· ^^^0x5c)
theorem As {P o:List UInt8} {x:UInt8} (hP:P.length=64):bu 0 64 (fun j=>P.getD j 0^^^x) o 64=P.map (· ^^^x):=by
 rw [b9 (Nat.le_refl _)]
 have h:(List.range 64).map (fun j=>P.getD j 0)=P:=ja hP
 calc _=((List.range 64).map (fun j=>P.getD j 0)).map (· ^^^x):=by rw [List.map_map];rfl
  _=_:=by rw [h]
theorem Hj (k:List UInt8) (hk:k.length≤64):vc au (ai Id) Tryz.f253.ntmps (ag Tryz.f253) ⟨al 0 [.one (.ro .u8 k)],[],2000⟩ (aD au Tryz.f253.ntmps [.tmp 2] [.one (.ptr 0 0)] [(0,.blk 280 [.ptr 1 0,.ptr 2 0]),(1,hB (mP k) 3),(2,hB (ng k) 4),(3,hR (mP k)),(4,hR (ng k))]):=by
 refine fun hq0=>⟨fun h1=> ?_,fun h1=> ?_⟩
 ·have h1:=of_decide_eq_true h1;omega
 have hP:=Gh (l:=k) hk
 refine Or.inr ⟨{i:Nat // i≤64},fun i=>⟨[(22,.one (.ob .int (i.val:Int)))],[(2176,.blk 281 [.vec .u8 64 (bu 0 64 (fun j=>(fR 64 k).getD j 0^^^0x36) (fR 64 k) i.val)]),(2192,.blk 281 [.vec .u8 64 (bu 0 64 (fun j=>(fR 64 k).getD j 0^^^0x5c) (List.replicate 64 0) i.val)]),(2080,hB [] 0),(2112,hB [] 1),(0,hR []),(1,hR [])]⟩,fun i=>64-i.val,⟨0,by omega⟩,?_⟩
 refine ⟨rfl,rfl,?_,rfl,dl (by simp),rfl,sq,rfl,rfl,sq,rfl,rfl,rfl,fun i=>⟨fun h2=> ?_,fun h2=> ?_⟩⟩
 ·show bu 0 64 (fun j=>(fR 64 k).getD j 0^^^54) (fR 64 k) 0=List.take 0 (List.replicate 64 0)++List.take 64 k++List.drop (0+min 64 k.length) (List.replicate 64 0)
  rw [dl hP,List.take_zero,List.nil_append,List.take_of_length_le hk,Nat.min_eq_right hk,Nat.zero_add,List.drop_replicate]
  rfl
 ·have h2:=of_decide_eq_true h2
  have hi:=i.2
  repeat refine sd ?_
  have hg:(bu 0 64 (fun j=>(fR 64 k).getD j 0^^^54) (fR 64 k) i.val).getD i.val 0=(fR 64 k).getD i.val 0:=by rw [cg (by omega),if_neg (by omega)]
  refine sj ⟨i.val+1,by omega⟩ ⟨rfl,rfl,?_,rfl,?_,rfl,rfl,rfl,rfl,rfl,rfl,rfl,rfl,trivial⟩
  ·refine ((congrArg (List.set _ i.val) ?_).trans bq).symm
   show (bu 0 64 _ (fR 64 k) i.val).getD i.val 0^^^54=_
   rw [hg]
  ·refine ((congrArg (List.set _ i.val) ?_).trans bq).symm
   show (bu 0 64 _ (fR 64 k) i.val).getD i.val 0^^^92=_
   rw [hg]
 have h2:=of_decide_eq_false h2
 have hi:=i.2
 have e1:bu 0 64 (fun j=>(fR 64 k).getD j 0^^^54) (fR 64 k) 64=mP k:=As hP
 have e2:bu 0 64 (fun j=>(fR 64 k).getD j 0^^^92) (List.replicate 64 0) 64=ng k:=As hP
 rw [show i.val=64 by omega,e1,e2]
 have l1:(mP k).length=64:=by rw [mP,List.length_map,hP]
 have l2:(ng k).length=64:=by rw [ng,List.length_map,hP]
 have r0:se []= []:=rfl
 have n0:∀l:List UInt8,UInt64.ofNat ([]:List UInt8).length+UInt64.ofNat l.length=UInt64.ofNat l.length:=fun l=>UInt64.zero_add _
 refine ⟨⟨jT _,by rw [r0,List.nil_append];omega⟩,⟨jT _,by rw [r0,List.nil_append];omega⟩,rfl,(sG [] _).symm,?_,rfl,(sG [] _).symm,?_,(lK [] _).symm,(lK [] _).symm,trivial⟩
 ·exact congrArg (fun z=> [z]) (n0 _).symm
 ·exact congrArg (fun z=> [z]) (n0 _).symm
def qV:GF:=fun l=>match l with
 | [.one (.ro .u8 k)]=>some ⟨[.one (.ptr 0 0)],[(0,.blk 280 [.ptr 1 0,.ptr 2 0]),(1,hB (mP k) 3),(2,hB (ng k) 4),(3,hR (mP k)),(4,hR (ng k))],some (k.length≤64)⟩
 |_=>none
theorem rG:ab 253 (ap qV):=af aj PC Tryz.func253 (by kernel_rfl) rfl (rs:= [.tmp 2]) Tryz.results253 fun l g h hp=>by
 unfold qV at h
 split at h
 ·cases h;exact ⟨Nat.le_of_ble_eq_true rfl,rfl,rfl,rfl,Hj _ hp⟩
 ·cases h
abbrev H3:=List UInt32×List UInt8×UInt64
def mK (h:H3) (x:List UInt8):H3:=(pb h.1 (h.2.1++x),kQ (h.2.1++x),h.2.2+UInt64.ofNat x.length)
def dL (h:H3):List (List UInt8)→H3
 | []=>h
 |x::q=>dL (mK h x) q
def t4 (h:H3):List UInt8:=BF h.1 h.2.1 h.2.2
def uh (hi ho:H3) (q:List (List UInt8)):List UInt8:=t4 (mK ho (t4 (dL hi q)))
def vW (m:List UInt8):H3:=(Dh m,se m,UInt64.ofNat m.length)
theorem Ml (m x:List UInt8):mK (vW m) x=vW (m++x):=by
 rw [mK,vW,vW,sG,lK,A3]
theorem Mm (m:List UInt8):∀q,dL (vW m) q=vW (m++q.flatten)
 | []=>by rw [dL,List.flatten_nil,List.append_nil]
 |x::q=>by rw [dL,Ml,Mm (m++x) q,List.flatten_cons,List.append_assoc]
theorem pa (h:H3):∀q x,dL h (q++ [x])=mK (dL h q) x
 | [],x=>rfl
 |y::q,x=>by rw [List.cons_append,dL,pa _ q x];rfl
theorem ph (k:List UInt8) (q:List (List UInt8)) (hk:k.length≤64):uh (vW (mP k)) (vW (ng k)) q=kZ k q.flatten:=by
 have hf:∀m,t4 (vW m)=fY m:=GS
 rw [uh,Mm,hf,Ml,hf,kZ,Ft,if_neg (by omega)]
 rfl
def L3 (h:H3):Prop:=h.1.length=8∧h.2.1.length≤64
theorem Fm (h:H3) (x:List UInt8):L3 (mK h x):=⟨ie _,by show (kQ _).length≤64;rw [kQ,List.length_drop];omega⟩
theorem Fo:∀q (h:H3),L3 h→L3 (dL h q)
 | [],_,h=>h
 |x::q,h,_=>Fo q _ (Fm h x)
theorem sF (m:List UInt8):L3 (vW m):=⟨jT _,by show (se m).length≤64;rw [lC];omega⟩
theorem Fl (h:H3):(t4 h).length=32:=np _ _
abbrev hC (h:H3) (r:Nat):Ch:= .blk 278 [.vec .u32 8 h.1,.rw r,.ob .u64 h.2.2]
abbrev hD (h:H3):Ch:= .row 5 .u8 h.2.1
def Ie:List (Nat×CF):=(253,ap qV)::Id
theorem Dv:∀p∈Ie,ab p.1 p.2:=ae rG Du
theorem PD:aq au (ai Ie):=aA aj (aS Dv)
abbrev SY (hi ho:H3):List Ch:= [.blk 280 [.ptr 1001 0,.ptr 1002 0],hC hi 1003,hC ho 1004,hD hi,hD ho]
theorem He (hi ho:H3) (q:List (List UInt8)) (h1:L3 hi) (h2:L3 ho) (hq:q.flatten.length≤8000000):vc au (ai Ie) Tryz.f254.ntmps (ag Tryz.f254) ⟨al 0 [.one (.ptr 1000 0),.one (.bb q)],aQ 1000 (SY hi ho),2000⟩ (bR au Tryz.f254.ntmps [.tmp 4] [.one (.rw 0)] [(0,.row 5 .u8 (uh hi ho q))] (SY hi ho) []):=by
 have g1:=h1.2
 have g2:=h2.2
 have hf:∀i,(q.take i).flatten.length≤8000000:=fun i=>by
  have h:=congrArg List.flatten (List.take_append_drop i q)
  rw [List.flatten_append] at h
  have h2:=congrArg List.length h
  rw [List.length_append] at h2
  omega
 refine ⟨by omega,by omega,fun hq0=> ?_⟩
 have hq1:q.length≤9223372036854775807:=Nat.le_trans hq0 (by unfold maxLen;decide)
 refine Or.inr ⟨{i:Nat // i≤q.length},fun i=>⟨[(30,.one (.ob .int (i.val:Int)))],[(2192,hC (dL hi (q.take i.val)) 0),(0,hD (dL hi (q.take i.val)))]⟩,fun i=>q.length-i.val,⟨0,Nat.zero_le _⟩,?_⟩
 have e0:q.take 0= []:=List.take_zero
 refine ⟨rfl,rfl,?_,?_,?_,fun i=>⟨fun k1=> ?_,fun k1=> ?_⟩⟩
 ·show (dL hi (q.take 0)).1=hi.1
  rw [e0];rfl
 ·show [(dL hi (q.take 0)).2.2]= [hi.2.2]
  rw [e0];rfl
 ·show (dL hi (q.take 0)).2.1=hi.2.1
  rw [e0];rfl
 ·have k1:=of_decide_eq_true k1
  have hi':=i.2
  have hl:i.val<q.length:=by omega
  have ho1:=Fo (q.take i.val) hi h1
  have g3:=ho1.2
  have he:q.take (i.val+1)=q.take i.val++ [q.getD i.val []]:=by
   rw [List.take_add_one,List.getElem?_eq_getElem hl,List.getD_eq_getElem?_getD,List.getElem?_eq_getElem hl]
   rfl
  have hA:dL hi (q.take (i.val+1))=mK (dL hi (q.take i.val)) (q.getD i.val []):=by rw [he,pa]
  have hT:=hf (i.val+1)
  rw [he,List.flatten_append,List.flatten_singleton,List.length_append] at hT
  refine ⟨⟨by omega,by omega⟩,⟨ho1.1,?_⟩,⟨by omega,by omega⟩,sj ⟨i.val+1,by omega⟩ ⟨rfl,rfl,?_,?_,?_,trivial⟩⟩
  ·show ((dL hi (q.take i.val)).2.1++q.getD i.val []).length≤_
   rw [List.length_append]
   omega
  ·show (dL hi (q.take (i.val+1))).1=(mK (dL hi (q.take i.val)) (q.getD i.val [])).1
   rw [hA]
  ·show [(dL hi (q.take (i.val+1))).2.2]= [(mK (dL hi (q.take i.val)) (q.getD i.val [])).2.2]
   rw [hA]
  ·show (dL hi (q.take (i.val+1))).2.1=(mK (dL hi (q.take i.val)) (q.getD i.val [])).2.1
   rw [hA]
 have k1:=of_decide_eq_false k1
 have hi':=i.2
 rw [show i.val=q.length by omega,List.take_length]
 have ho1:=Fo q hi h1
 have hF:=Fl (dL hi q)
 unfold uh
 generalize dL hi q=S at ho1 hF
 have g3:=ho1.2
 have g4:=(Fm ho (t4 S)).2
 refine ⟨⟨ho1.1,by omega⟩,⟨h2.1,?_⟩,⟨(Fm ho (t4 S)).1,?_⟩,rfl,trivial⟩
 ·show (ho.2.1++t4 S).length≤_
  rw [List.length_append];omega
 ·show (mK ho (t4 S)).2.1.length≤_
  omega
def qO:fB:=fun l cs=>match l,cs with
 | [.one (.ptr 1000 0),.one (.bb q)],[.blk 280 [.ptr 1001 0,.ptr 1002 0],.blk 278 [.vec .u32 8 s,.rw 1003,.ob .u64 n],.blk 278 [.vec .u32 8 s',.rw 1004,.ob .u64 n'],.row 5 .u8 r,.row 5 .u8 r']=>some ⟨[.one (.rw 0)],[(0,.row 5 .u8 (uh (s,r,n) (s',r',n') q))],[],some (L3 (s,r,n)∧L3 (s',r',n')∧q.flatten.length≤8000000)⟩
 |_,_=>none
theorem rt:ab 254 (wq [false,true] qO):=iS aj PD Tryz.func254 (by kernel_rfl) rfl (rs:= [.tmp 4]) Tryz.results254 fun l cs g h hp=>by
 unfold qO at h
 split at h
 ·rename_i q s n s' n' r r'
  cases h
  exact ⟨Nat.le_of_ble_eq_true rfl,rfl,rfl,rfl,He (s,r,n) (s',r',n') q hp.1 hp.2.1 hp.2.2⟩
 ·cases h
def If:List (Nat×CF):=(254,wq [false,true] qO)::Ie
theorem Dw:∀p∈If,ab p.1 p.2:=ae rt Dv
theorem PE:aq au (ai If):=aA aj (aS Dw)
theorem OD (k:List UInt8) (q:List (List UInt8)) (hk:k.length≤64) (hq:q.flatten.length≤8000000):vc au (ai If) Tryz.f255.ntmps (ag Tryz.f255) ⟨al 0 [.one (.ro .u8 k),.one (.bb q)],[],2000⟩ (aD au Tryz.f255.ntmps [.tmp 4] [.one (.rw 0)] [(0,.row 5 .u8 (kZ k q.flatten))]):=by
 exact ⟨hk,⟨sF _,sF _,hq⟩,(ph k q hk).symm,trivial⟩
def EW:GF:=fun l=>match l with
 | [.one (.ro .u8 k),.one (.bb q)]=>some ⟨[.one (.rw 0)],[(0,.row 5 .u8 (kZ k q.flatten))],some (k.length≤64∧q.flatten.length≤8000000)⟩
 |_=>none
theorem yi:ab 255 (ap EW):=af aj PE Tryz.func255 (by kernel_rfl) rfl (rs:= [.tmp 4]) Tryz.results255 fun l g h hp=>by
 unfold EW at h
 split at h
 ·cases h;exact ⟨Nat.le_of_ble_eq_true rfl,rfl,rfl,rfl,OD _ _ hp.1 hp.2⟩
 ·cases h
def Ig:List (Nat×CF):=(255,ap EW)::If
theorem Dx:∀p∈Ig,ab p.1 p.2:=ae yi Dw
theorem PF:aq au (ai Ig):=aA aj (aS Dx)
theorem CT (k m:List UInt8) (hk:k.length≤64) (hm:m.length≤8000000):vc au (ai Ig) Tryz.f238.ntmps (ag Tryz.f238) ⟨al 0 [.one (.ro .u8 k),.one (.ro .u8 m)],[],2000⟩ (aD au Tryz.f238.ntmps [.tmp 4] [.one (.rw 0)] [(0,.row 5 .u8 (kZ k m))]):=by
 have e: [m].flatten=m:=by simp
 refine ⟨⟨hk,by rw [e];omega⟩,?_,trivial⟩
 show kZ k m=kZ k [m].flatten
 rw [e]
def mz:GF:=fun l=>match l with
 | [.one (.ro .u8 k),.one (.ro .u8 m)]=>some ⟨[.one (.rw 0)],[(0,.row 5 .u8 (kZ k m))],some (k.length≤64∧m.length≤8000000)⟩
 |_=>none
theorem m9:ab 238 (ap mz):=af aj PF Tryz.func238 (by kernel_rfl) rfl (rs:= [.tmp 4]) Tryz.results238 fun l g h hp=>by
 unfold mz at h
 split at h
 ·cases h;exact ⟨Nat.le_of_ble_eq_true rfl,rfl,rfl,rfl,CT _ _ hp.1 hp.2⟩
 ·cases h
def Ih:List (Nat×CF):=(238,ap mz)::Ig
theorem Dy:∀p∈Ih,ab p.1 p.2:=ae m9 Dx
theorem PG:aq au (ai Ih):=aA aj (aS Dy)
theorem CY (k m:List UInt8) (n:Nat) (hk:k.length≤64) (hm:m.length≤1000000) (hn:1≤n∧n≤8160):vc au (ai Ih) Tryz.f237.ntmps (ag Tryz.f237) ⟨al 0 [.one (.ro .u8 k),.one (.ro .u8 m),.one (.ob .int (n:Int))],[],2000⟩ (aD au Tryz.f237.ntmps [.tmp 6] [.one (.rw 0)] [(0,.row 5 .u8 (Ae k m ((n+31)/32) |>.take n))]):=by
 refine ⟨fun h1=> ?_,fun h1=>⟨h1,fun h2=> ?_,fun h2=>⟨hk,?_⟩⟩⟩
 ·have h1:=of_decide_eq_true h1;omega
 ·have h2:=of_decide_eq_true h2;omega
 refine Or.inr ⟨{i:Nat // i≤(n+31)/32},fun i=>⟨[(8,.one (.rw 0)),(9,.one (.ro .u8 (Fr k m i.val))),(10,.one (.ob .u8 (UInt8.ofNat (i.val+1))))],[(0,.row 5 .u8 (Ae k m i.val))]⟩,fun i=>(n+31)/32-i.val,⟨0,Nat.zero_le _⟩,?_⟩
 refine ⟨rfl,rfl,rfl,fun i=> ?_⟩
 have hO:=jy k m i.val
 have hi:=i.2
 refine fun _=>⟨fun h3=> ?_,fun h3=> ?_⟩
 ·have h3:=of_decide_eq_true h3
  have e3: [Fr k m i.val,m,[UInt8.ofNat (i.val+1)]].flatten=Fr k m i.val++m++ [UInt8.ofNat (i.val+1)]:=by simp
  have hX:uh (vW (mP k)) (vW (ng k)) [Fr k m i.val,m,[UInt8.ofNat (i.val+1)]]=Fr k m (i.val+1):=by rw [ph k _ hk,e3];rfl
  have hT:=JI k m i.val
  have hO2:=jy k m (i.val+1)
  have h4:i.val<(n+31)/32:=by omega
  refine ⟨⟨sF _,sF _,by rw [e3,List.length_append,List.length_append,List.length_singleton];omega⟩,?_,sj ⟨i.val+1,by omega⟩ ⟨hX.symm,?_,?_,trivial⟩⟩
  ·show (Ae k m i.val++uh (vW (mP k)) (vW (ng k)) [Fr k m i.val,m,[UInt8.ofNat (i.val+1)]]).length≤_
   rw [hX]
   show (Ae k m (i.val+1)).length≤_
   omega
  ·refine congrArg (fun z=> [z]) ?_
   show UInt8.ofNat (i.val+1+1)=UInt8.ofNat (i.val+1)+UInt8.ofNat 1
   rw [UInt8.ofNat_add]
  ·show Ae k m (i.val+1)=Ae k m i.val++uh (vW (mP k)) (vW (ng k)) [Fr k m i.val,m,[UInt8.ofNat (i.val+1)]]
   rw [hX];rfl
 have h3:=of_decide_eq_false h3
 have hE:i.val=(n+31)/32:=by omega
 rw [hE] at hO ⊢
 have hl:(0:Int)≤(n:Int)∧(n:Int)≤((Ae k m ((n+31)/32)).length:Int):=⟨by omega,by omega⟩
 refine ⟨⟨hl,trivial⟩,?_,rfl,trivial⟩
 show ((Ae k m ((n+31)/32)).take n).length≤_
 rw [List.length_take];omega
def mD:GF:=fun l=>match l with
 | [.one (.ro .u8 k),.one (.ro .u8 m),.one (.ob .int n)]=>some ⟨[.one (.rw 0)],[(0,.row 5 .u8 ((Ae k m ((n.toNat+31)/32)).take n.toNat))],some (k.length≤64∧m.length≤1000000∧Dc 1 n 8160)⟩
 |_=>none
theorem oi:ab 237 (ap mD):=af aj PG Tryz.func237 (by kernel_rfl) rfl (rs:= [.tmp 6]) Tryz.results237 fun l g h hp=>by
 unfold mD at h
 split at h
 ·rename_i k m n
  cases h
  obtain ⟨h1,h2,h3,h4⟩:=hp
  obtain ⟨n,rfl⟩:=Int.eq_ofNat_of_zero_le (show (0:Int)≤n by omega)
  exact ⟨Nat.le_of_ble_eq_true rfl,rfl,rfl,rfl,CY _ _ _ h1 h2 ⟨by omega,by omega⟩⟩
 ·cases h
def Ii:List (Nat×CF):=(237,ap mD)::Ih
theorem Dz:∀p∈Ii,ab p.1 p.2:=ae oi Dy
theorem PH:aq au (ai Ii):=aA aj (aS Dz)
theorem CX (k s m:List UInt8) (n:Nat) (hk:k.length≤64) (hs:s.length≤8000000) (hm:m.length≤1000000) (hn:1≤n∧n≤8160):vc au (ai Ii) Tryz.f195.ntmps (ag Tryz.f195) ⟨al 0 [.one (.ro .u8 k),.one (.ro .u8 s),.one (.ro .u8 m),.one (.ob .int (n:Int))],[],2000⟩ (aD au Tryz.f195.ntmps [.tmp 8] [.one (.rw 0)] [(0,.row 5 .u8 (Fs k s m n))]):=by
 have hl:=mM k s
 exact ⟨⟨hk,hs⟩,⟨by omega,hm,by omega,by omega⟩,rfl,trivial⟩
def mC:GF:=fun l=>match l with
 | [.one (.ro .u8 k),.one (.ro .u8 s),.one (.ro .u8 m),.one (.ob .int n)]=>some ⟨[.one (.rw 0)],[(0,.row 5 .u8 (Fs k s m n.toNat))],some (k.length≤64∧s.length≤8000000∧m.length≤1000000∧Dc 1 n 8160)⟩
 |_=>none
theorem oh:ab 195 (ap mC):=af aj PH Tryz.func195 (by kernel_rfl) rfl (rs:= [.tmp 8]) Tryz.results195 fun l g h hp=>by
 unfold mC at h
 split at h
 ·rename_i k s m n
  cases h
  obtain ⟨h0,h1,h2,h3,h4⟩:=hp
  obtain ⟨n,rfl⟩:=Int.eq_ofNat_of_zero_le (show (0:Int)≤n by omega)
  exact ⟨Nat.le_of_ble_eq_true rfl,rfl,rfl,rfl,CX _ _ _ _ h0 h1 h2 ⟨by omega,by omega⟩⟩
 ·cases h
set_option maxRecDepth 10000
theorem PI:aq au (ai H6):=aA aj (aS zp)
theorem K1 (b:List UInt8) (n:Int) (hn:0≤n∧n≤16777216):vc au (ai H6) Tryz.f191.ntmps (ag Tryz.f191) ⟨al 0 [.one (.ro .u8 b),.one (.ob .int n)],[],2000⟩ (aD au Tryz.f191.ntmps [.tmp 4] [.one (.rw 0)] [(0,.row 5 .u8 (bO b n.toNat))]):=by
 refine ⟨⟨hn.1,rfl,hn.2⟩,?_,trivial⟩
 show bO b n.toNat=b.take (List.replicate n.toNat (0:UInt8)).length++(List.replicate n.toNat (0:UInt8)).drop b.length
 simp [bO]
def qN:GF:=fun l=>match l with
 | [.one (.ro .u8 b),.one (.ob .int n)]=>some ⟨[.one (.rw 0)],[(0,.row 5 .u8 (bO b n.toNat))],some (Dc 0 n 16777216)⟩
 |_=>none
theorem qF:ab 191 (ap qN):=af aj PI Tryz.func191 (by kernel_rfl) rfl (rs:= [.tmp 4]) Tryz.results191 fun l g h hp=>by
 unfold qN at h
 split at h
 ·cases h;exact ⟨Nat.le_of_ble_eq_true rfl,rfl,rfl,rfl,K1 _ _ hp⟩
 ·cases h
def Be:List (Nat×CF):=(191,ap qN)::H6
theorem DA:∀p∈Be,ab p.1 p.2:=ae qF zp
theorem DU:aq au (ai Be):=aA aj (aS DA)
theorem Hv (b:List UInt8):vc au (ai Be) Tryz.f118.ntmps (ag Tryz.f118) ⟨al 0 [.one (.ro .u8 b)],[],2000⟩ (aD au Tryz.f118.ntmps [.tmp 2] [.one (.rw 0)] [(0,.row 5 .u8 (aB b))]):=by
 have hl:(bO b 32).length=32:=kb b 32
 have hl1:(bO b (32:Int).toNat).length=32:=hl
 refine ⟨⟨by decide,by decide⟩,?_⟩
 have h0:0<(bO b (32:Int).toNat).length:=by omega
 have h1:∀x,31<((bO b (32:Int).toNat).set 0 x).length:=fun x=>by rw [List.length_set];omega
 exact ⟨h0,h0,h0,h0,h1 _,h1 _,h1 _,h1 _,rfl,trivial⟩
def lk:GF:=fun l=>match l with
 | [.one (.ro .u8 b)]=>some ⟨[.one (.rw 0)],[(0,.row 5 .u8 (aB b))],none⟩
 |_=>none
theorem j3:ab 118 (ap lk):=af aj DU Tryz.func118 (by kernel_rfl) rfl (rs:= [.tmp 2]) Tryz.results118 fun l g h hp=>by
 unfold lk at h
 split at h
 ·cases h;exact ⟨Nat.le_of_ble_eq_true rfl,rfl,rfl,rfl,Hv _⟩
 ·cases h
@[reducible] def Dm (x z:F):AV:= .agg [.ob (.x 4) x,.ob (.x 4) z]
theorem OU (s:Bool) (x2 z2 x3 z3:F):vc au (ai Be) Tryz.f202.ntmps (ag Tryz.f202) ⟨al 0 [.one (.ob .bool s),Dm x2 z2,Dm x3 z3],[],2000⟩ (aD au Tryz.f202.ntmps [.cell 6 216,.cell 7 216] [Dm (if s then x3 else x2) (if s then z3 else z2),Dm (if s then x2 else x3) (if s then z2 else z3)] []):=by
 refine ⟨fun h=> ?_,fun h=> ?_⟩
 ·subst h
  exact ⟨⟨rfl,rfl⟩,⟨rfl,rfl⟩,⟨rfl,rfl⟩,⟨rfl,rfl⟩,trivial⟩
 ·subst h
  exact ⟨⟨rfl,rfl⟩,⟨rfl,rfl⟩,⟨rfl,rfl⟩,⟨rfl,rfl⟩,trivial⟩
def Fh:GF:=fun l=>match l with
 | [.one (.ob .bool s),.agg [.ob (.x 4) x2,.ob (.x 4) z2],.agg [.ob (.x 4) x3,.ob (.x 4) z3]]=>some ⟨[Dm (if s then x3 else x2) (if s then z3 else z2),Dm (if s then x2 else x3) (if s then z2 else z3)],[],none⟩
 |_=>none
theorem zn:ab 202 (ap Fh):=af aj DU Tryz.func202 (by kernel_rfl) rfl (rs:= [.cell 6 216,.cell 7 216]) Tryz.results202 fun l g h hp=>by
 unfold Fh at h
 split at h
 ·cases h;exact ⟨Nat.le_of_ble_eq_true rfl,rfl,rfl,rfl,OU _ _ _ _ _⟩
 ·cases h
theorem Qy (aa e:F):e*(aa+fn 121665*e)=bI e (sQ aa (bI e (fn (UInt64.ofNat 121665).toNat))):=by
 rw [show (UInt64.ofNat 121665).toNat=121665 from rfl]
 show _=e*(aa+e*fn 121665)
 rw [Lean.Grind.CommSemiring.mul_comm e (fn 121665)]
theorem Lr (u x2 z2 x3 z3:F):vc au (ai Be) Tryz.f203.ntmps (ag Tryz.f203) ⟨al 0 [.agg [.ob (.x 4) u],Dm x2 z2,Dm x3 z3],[],2000⟩ (aD au Tryz.f203.ntmps [.cell 6 216,.cell 7 216] [Dm (lb.step u ⟨x2,z2,x3,z3⟩).x2 (lb.step u ⟨x2,z2,x3,z3⟩).z2,Dm (lb.step u ⟨x2,z2,x3,z3⟩).x3 (lb.step u ⟨x2,z2,x3,z3⟩).z3] []):=by
 exact ⟨⟨rfl,rfl⟩,⟨rfl,congrArg (fun z=> [z]) (Qy _ _)⟩,⟨rfl,rfl⟩,⟨rfl,rfl⟩,trivial⟩
def xN:GF:=fun l=>match l with
 | [.agg [.ob (.x 4) u],.agg [.ob (.x 4) x2,.ob (.x 4) z2],.agg [.ob (.x 4) x3,.ob (.x 4) z3]]=>some ⟨[Dm (lb.step u ⟨x2,z2,x3,z3⟩).x2 (lb.step u ⟨x2,z2,x3,z3⟩).z2,Dm (lb.step u ⟨x2,z2,x3,z3⟩).x3 (lb.step u ⟨x2,z2,x3,z3⟩).z3],[],none⟩
 |_=>none
theorem vQ:ab 203 (ap xN):=af aj DU Tryz.func203 (by kernel_rfl) rfl (rs:= [.cell 6 216,.cell 7 216]) Tryz.results203 fun l g h hp=>by
 unfold xN at h
 split at h
 ·cases h;exact ⟨Nat.le_of_ble_eq_true rfl,rfl,rfl,rfl,Lr _ _ _ _ _⟩
 ·cases h
def Ij:List (Nat×CF):=(118,ap lk)::(202,ap Fh)::(203,ap xN)::Be
theorem DB:∀p∈Ij,ab p.1 p.2:=ae j3<|ae zn<|ae vQ DA
theorem PJ:aq au (ai Ij):=aA aj (aS DB)
theorem rz (k:List UInt8) (u:F):∀m,(gA k u m).2<2
 |0=>by show 0<2;omega
 |m+1=>by show cG k (254-m)<2;exact Nat.mod_lt _ (by omega)
abbrev Ti (q:lb×Nat):List (Nat×Ch):= [(2224,.blk 216 [.ob (.x 4) q.1.x2,.ob (.x 4) q.1.z2]),(2240,.blk 216 [.ob (.x 4) q.1.x3,.ob (.x 4) q.1.z3])]
set_option maxHeartbeats 2000000 in
theorem Lp (s p:List UInt8):vc au (ai Ij) Tryz.f125.ntmps (ag Tryz.f125) ⟨al 0 [.one (.ro .u8 s),.one (.ro .u8 p)],[],2000⟩ (aD au Tryz.f125.ntmps [.tmp 4] [.one (.rw 0)] [(0,.row 5 .u8 (aX 32 (dP s p).val))]):=by
 have hx:dP s p=(BM (gA (aB s) (jj p) 255)).x2*bk (BM (gA (aB s) (jj p) 255)).z2:=rfl
 have hk:=iT s
 rw [hx]
 clear hx
 refine Or.inr ⟨{m:Nat // m≤255},fun m=>⟨[(10,.one (.ob .int (254-(m.val:Int)))),(9,.one (.ob .bool (decide ((gA (aB s) (jj p) m.val).2=1))))],Ti (gA (aB s) (jj p) m.val)⟩,fun m=>255-m.val,⟨0,by omega⟩,?_⟩
 refine ⟨rfl,rfl,⟨rfl,?_⟩,⟨rfl,rfl⟩,⟨rfl,rfl⟩,⟨rfl,?_⟩,fun m=>⟨fun h1=> ?_,fun h1=> ?_⟩⟩
 ·exact congrArg (fun z=> [z]) F1.symm
 ·exact congrArg (fun z=> [z]) F1.symm
 ·have h1:=of_decide_eq_true h1
  have hm:=m.2
  have hS:gA (aB s) (jj p) (m.val+1)=(((if (gA (aB s) (jj p) m.val).2≠cG (aB s) (254-m.val) then (gA (aB s) (jj p) m.val).1.swp else (gA (aB s) (jj p) m.val).1).step (jj p)),cG (aB s) (254-m.val)):=rfl
  have hb2:=rz (aB s) (jj p) m.val
  have hb3:=rz (aB s) (jj p) (m.val+1)
  rw [hS] at hb3
  generalize aB s=k at hk hS hb2 hb3 ⊢
  generalize gA k (jj p) m.val=S at hS hb2 hb3 ⊢
  refine ⟨⟨⟨by omega,by omega⟩,by omega,by omega⟩,⟨by omega,by omega⟩,by omega,⟨by omega,by omega⟩,by omega,⟨by omega,by omega⟩,?_⟩
  have e1:((254-(m.val:Int))/8).toNat=(254-m.val)/8:=by omega
  have e2:((254-(m.val:Int))%8).toNat=(254-m.val)%8:=by omega
  have hb:=Gr (k.getD ((254-m.val)/8) 0) ((254-m.val)%8)
  have e3:decide ((r8 (k.getD ((254-(m.val:Int))/8).toNat (Kd.df .u8)) ((254-(m.val:Int))%8).toNat&&&UInt8.ofNat 1:UInt8)=UInt8.ofNat 1)=decide (cG k (254-m.val)=1):=by
   rw [e1,e2]
   refine decide_eq_decide.2 ⟨fun h=> ?_,fun h=> ?_⟩
   ·exact hb.symm.trans (congrArg UInt8.toNat h)
   ·exact UInt8.toNat_inj.1 (hb.trans h)
  rw [e3]
  generalize cG k (254-m.val)=b at hS hb3 ⊢
  obtain ⟨L,c⟩:=S
  have e4:(254:Int)-((m.val+1:Nat):Int)=254-(m.val:Int)-1:=by omega
  have hc:c=0∨c=1:=by have:c<2:=hb2;omega
  have hb:b=0∨b=1:=by have:b<2:=hb3;omega
  have hS:gA k (jj p) (m.val+1)=(lb.step (jj p) (if c≠b then L.swp else L),b):=hS
  rcases hc with rfl|rfl<;>rcases hb with rfl|rfl<;>(first|rw [if_pos (by decide)] at hS|rw [if_neg (by decide)] at hS)<;>
   exact sj ⟨m.val+1,by omega⟩ ⟨congrArg (fun z:Int=> [z]) e4,congrArg (fun q:lb×Nat=> [decide (q.2=1)]) hS,⟨rfl,congrArg (fun q:lb×Nat=> [q.1.x2]) hS⟩,⟨rfl,congrArg (fun q:lb×Nat=> [q.1.z2]) hS⟩,⟨rfl,congrArg (fun q:lb×Nat=> [q.1.x3]) hS⟩,⟨rfl,congrArg (fun q:lb×Nat=> [q.1.z3]) hS⟩,trivial⟩
 have h1:=of_decide_eq_false h1
 have hm:=m.2
 have hm2:m.val=255:=by omega
 rw [hm2]
 have hb2:=rz (aB s) (jj p) 255
 generalize gA (aB s) (jj p) 255=S at hb2
 obtain ⟨L,c⟩:=S
 have hc:c=0∨c=1:=by have:c<2:=hb2;omega
 rcases hc with rfl|rfl
 ·refine ⟨?_,trivial⟩
  rw [BM,if_neg (show ¬(L,0).2=1 from by show ¬0=1;decide)]
  rfl
 ·refine ⟨?_,trivial⟩
  rw [BM,if_pos (show (L,1).2=1 from rfl)]
  rfl
def xM:GF:=fun l=>match l with
 | [.one (.ro .u8 s),.one (.ro .u8 p)]=>some ⟨[.one (.rw 0)],[(0,.row 5 .u8 (aX 32 (dP s p).val))],none⟩
 |_=>none
theorem vP:ab 125 (ap xM):=af aj PJ Tryz.func125 (by kernel_rfl) rfl (rs:= [.tmp 4]) Tryz.results125 fun l g h hp=>by
 unfold xM at h
 split at h
 ·cases h;exact ⟨Nat.le_of_ble_eq_true rfl,rfl,rfl,rfl,Lp _ _⟩
 ·cases h
def Mv:List (Nat×CF):=(125,ap xM)::Ij
theorem Mw:∀p∈Mv,ab p.1 p.2:=ae vP DB
theorem PK:aq au (ai Mv):=aA aj (aS Mw)
theorem Lo (s:List UInt8):vc au (ai Mv) Tryz.f61.ntmps (ag Tryz.f61) ⟨al 0 [.one (.ro .u8 s)],[],2000⟩ (aD au Tryz.f61.ntmps [.tmp 2] [.one (.rw 0)] [(0,.row 5 .u8 (aX 32 (dP s [9]).val))]):=⟨rfl,trivial⟩
def xL:GF:=fun l=>match l with
 | [.one (.ro .u8 s)]=>some ⟨[.one (.rw 0)],[(0,.row 5 .u8 (aX 32 (dP s [9]).val))],none⟩
 |_=>none
theorem vO:ab 61 (ap xL):=af aj PK Tryz.func61 (by kernel_rfl) rfl (rs:= [.tmp 2]) Tryz.results61 fun l g h hp=>by
 unfold xL at h
 split at h
 ·cases h;exact ⟨Nat.le_of_ble_eq_true rfl,rfl,rfl,rfl,Lo _⟩
 ·cases h
set_option maxRecDepth 10000
theorem nJ (b:List UInt8):aX 32 (jj b).val=b↔b.length=32∧bo b<Pq:=by
 constructor
 ·intro h
  have h1:=congrArg List.length h
  rw [ao] at h1
  refine ⟨h1.symm,?_⟩
  have h2:=congrArg bo h
  rw [lq,Nat.mod_eq_of_lt (Nat.lt_trans (jj b).isLt (by decide +kernel))] at h2
  rw [←h2]
  exact (jj b).isLt
 ·rintro ⟨h1,h2⟩
  have e:(jj b).val=bo b:=by
   show bo (b.take 32)%pO%Pq=bo b
   rw [List.take_of_length_le (by omega),Nat.mod_eq_of_lt (Nat.lt_trans h2 (by decide +kernel)),Nat.mod_eq_of_lt h2]
  rw [e,←h1,Ak]
theorem yq {b:List UInt8} (h:b.length=32∧bo b<Pq):jj b=fn (bo b):=by
 show fn _=_
 rw [List.take_of_length_le (by omega),Nat.mod_eq_of_lt (Nat.lt_trans h.2 (by decide +kernel))]
def N3 (b:List UInt8):Bool:=decide (b.length=32∧bo b<Pq)
def Jt (b:List UInt8):F:=if N3 b then fn (bo b) else 0
def H8 (b:List UInt8):Int:=if N3 b then 0 else 2
theorem N4 {b:List UInt8} (h:¬(b.length=32∧bo b<Pq)):Jt b=0∧H8 b=2:=by
 have e:N3 b=false:=decide_eq_false h
 unfold Jt H8
 rw [e]
 exact ⟨rfl,rfl⟩
theorem J6 {b:List UInt8} (h:b.length=32∧bo b<Pq):Jt b=jj b∧H8 b=0:=by
 have e:N3 b=true:=decide_eq_true h
 unfold Jt H8
 rw [e,yq h]
 exact ⟨rfl,rfl⟩
set_option maxRecDepth 10000
structure Q3 where
 x:F
 y:F
 z:F
@[reducible] def Q3.av (q:Q3):AV:= .agg [.ob (.x 1) q.x,.ob (.x 1) q.y,.ob (.x 1) q.z]
def tL (x y:F):List UInt8:=if x.val%2=1 then (aX 32 y.val).set 31 ((aX 32 y.val).getD 31 0|||128) else aX 32 y.val
theorem MX {b:List UInt8} (h:b.length=32):(zI b).length=32∧bo (zI b)=dM b:=⟨by rw [zJ,h],JQ h⟩
def S9 (q:Q3) (P:EP):Prop:=fC P q.x q.y q.z
def v9 (q:Q4) (P:EP):Prop:=pP P q.x q.y q.z q.t
theorem GG (n k:Nat) (h:k≤255):Cv n (k:Int)=((n/2^k%2:Nat):Int):=by
 rw [Cv,if_pos (by omega),Int.toNat_natCast]
theorem Ji (P:EP):tL P.x P.y=eB P:=by
 unfold tL
 split
 ·rename_i h;exact Jm h
 ·rename_i h;exact Es h
theorem Jj {q:Q3} {P:EP} (h:S9 q P):tL (bI q.x (bk q.z)) (bI q.y (bk q.z))=eB P:=by
 have h1:q.z*bk q.z=1:=cU h.z
 have ex:bI q.x (bk q.z)=P.x:=by
  unfold bI
  rw [h.x]
  generalize bk q.z=i at h1 ⊢
  generalize q.z=z at h1 ⊢
  generalize P.x=x
  grind
 have ey:bI q.y (bk q.z)=P.y:=by
  unfold bI
  rw [h.y]
  generalize bk q.z=i at h1 ⊢
  generalize q.z=z at h1 ⊢
  generalize P.y=x
  grind
 rw [ex,ey]
 exact Ji P
theorem lL {a b:Q4} {P Q:EP} (h:v9 a P) (h':v9 b Q):v9 (jg a b e_) (P.add Q):=
 pP.add h h' rfl rfl (by rw [M_];rfl) rfl rfl rfl rfl rfl
theorem kB (P:EP):v9 (pp P.x P.y) P:=by
 have h:=pP.one P
 rw [←F1] at h
 exact h
theorem dW {q:Q4} {P:EP} (h:v9 q P):az q=q:=by
 rw [az,if_neg h.p.z]
theorem AA:v9 (az BW) Cp.zero:=by
 rw [az,if_pos (show BW.z=0 from rfl)]
 have h:=kB Cp.zero
 rw [F1]
 exact h
theorem Av {a:Q4} {P:EP} (h:v9 a P) (n:Nat) (hn:n<2^253):∀j,j≤253→v9 (cl e_ a n j) (Cp.mul (n/2^(253-j)) P)
 |0,_=>by
  rw [Nat.sub_zero,Nat.div_eq_of_lt hn]
  exact AA
 |j+1,hj=>by
  have ih:=Av h n hn j (by omega)
  obtain ⟨k,hk⟩:∃k,k=252-j:=⟨_,rfl⟩
  have e1:(252:Int)-(j:Int)=(k:Int):=by omega
  rw [cl,e1,GG n k (by omega),show 253-(j+1)=k by omega,BT]
  rw [show 253-j=k+1 by omega] at ih
  by_cases hb:n/2^k%2=1
  ·rw [if_pos hb,if_pos (by rw [hb];rfl)]
   exact lL (lL ih ih) h
  ·rw [if_neg hb,if_neg (by omega)]
   exact lL ih ih
theorem jE {a:Q4} {P:EP} (h:v9 a P) (n:Nat) (hn:n<Lq):v9 (cl e_ (az a) n 253) (Cp.mul n P):=by
 rw [dW h]
 have:=Av h n (Nat.lt_trans hn (by decide +kernel)) 253 (by omega)
 rwa [Nat.sub_self,Nat.pow_zero,Nat.div_one] at this
theorem vj {a b:Q4} {P Q:EP} (h:v9 a P) (h':v9 b Q):eQ (az a) (az b)=decide (P=Q):=by
 rw [dW h,dW h']
 have e:=fC.same h.p h'.p
 rw [Bool.eq_iff_iff,decide_eq_true_iff,←e]
 simp only [eQ,qD,Bool.and_eq_true,decide_eq_true_iff]
 exact Iff.rfl
set_option maxRecDepth 10000
set_option maxRecDepth 10000
theorem Er (x y:F):(tL x y).length=32:=by
 unfold tL
 split
 ·rw [List.length_set,ao]
 ·exact ao _ _
theorem qd (a b:List UInt8): [a,b].flatten=a++b:=by simp
theorem IX (a b c:List UInt8): [a,b,c].flatten=a++(b++c):=by simp
set_option maxRecDepth 10000
theorem CS (b:List UInt8):vc bF (ai O6) Tryz.f163.ntmps (ag Tryz.f163) ⟨al 0 [.one (.ro .u8 b)],[],2000⟩ (aD bF Tryz.f163.ntmps [.cell 2 122,.tmp 3] [.agg [.ob (.x 4) (Jt b)],.one (.ob .int (H8 b))] []):=by
 refine ⟨fun h=> ?_,fun h=> ?_⟩
 ·have h:(!decide (aX 32 (jj b).val=b))=true:=h
  obtain ⟨a1,a2⟩:=N4 (b:=b) fun k=>by
   rw [decide_eq_true ((nJ b).2 k)] at h
   cases h
  rw [a1,a2]
  exact ⟨⟨rfl,rfl⟩,rfl,trivial⟩
 ·have h:(!decide (aX 32 (jj b).val=b))=false:=h
  have h3:aX 32 (jj b).val=b:=of_decide_eq_true (by simpa using h)
  obtain ⟨a1,a2⟩:=J6 ((nJ b).1 h3)
  rw [a1,a2]
  exact ⟨⟨rfl,rfl⟩,rfl,trivial⟩
def my:GF:=fun l=>match l with
 | [.one (.ro .u8 b)]=>some ⟨[.agg [.ob (.x 4) (Jt b)],.one (.ob .int (H8 b))],[],none⟩
 |_=>none
theorem n9:ab 163 (ap my):=af aG PW Tryz.func163 (by kernel_rfl) rfl (rs:= [.cell 2 122,.tmp 3]) Tryz.results163 fun l g h hp=>by
 unfold my at h
 split at h
 ·cases h;exact ⟨Nat.le_of_ble_eq_true rfl,rfl,rfl,rfl,CS _⟩
 ·cases h
def QJ (b:List UInt8):Bool:=decide (b.length=32∧bo b<Lq)
def CA (b:List UInt8):Nat:=if QJ b then bo b else 0
def GH (b:List UInt8):Int:=if QJ b then 0 else 2
theorem F5 {b:List UInt8} (h:¬(b.length=32∧bo b<Lq)):CA b=0∧GH b=2:=by
 have e:QJ b=false:=decide_eq_false h
 unfold CA GH
 rw [e]
 exact ⟨rfl,rfl⟩
theorem AG {b:List UInt8} (h:b.length=32∧bo b<Lq):CA b=bL b∧GH b=0:=by
 have e:QJ b=true:=decide_eq_true h
 unfold CA GH
 rw [e,nG h.1,Nat.mod_eq_of_lt h.2]
 exact ⟨rfl,rfl⟩
theorem kX {b:List UInt8} (h:b.length=32):aX 32 (bL b)=b↔b.length=32∧bo b<Lq:=by
 have Ql:=Ip
 constructor
 ·intro k
  refine ⟨h,?_⟩
  have h2:=congrArg bo k
  have hl:=jU b
  rw [lq,Nat.mod_eq_of_lt (Nat.lt_trans hl (by decide +kernel))] at h2
  rw [←h2];exact hl
 ·rintro ⟨_,h2⟩
  rw [nG h,Nat.mod_eq_of_lt h2,←h,Ak]
theorem C5 (b:List UInt8):vc bF (ai O6) Tryz.f100.ntmps (ag Tryz.f100) ⟨al 0 [.one (.ro .u8 b)],[],2000⟩ (aD bF Tryz.f100.ntmps [.cell 2 129,.tmp 3] [.agg [.ob (.x 2) (CA b)],.one (.ob .int (GH b))] []):=by
 refine fun _=>⟨fun h=> ?_,fun h=>⟨fun h2=> ?_,fun h2=> ?_⟩⟩
 ·have h1:b.length≠32:=by have:=of_decide_eq_true h;omega
  obtain ⟨a1,a2⟩:=F5 (b:=b) fun k=>h1 k.1
  rw [a1,a2]
  exact ⟨⟨rfl,rfl⟩,rfl,trivial⟩
 ·have h1:b.length=32:=by have:=of_decide_eq_false h;omega
  have h2:(!decide (aX 32 (bL b)=b))=true:=h2
  obtain ⟨a1,a2⟩:=F5 (b:=b) fun k=>by
   rw [decide_eq_true ((kX h1).2 k)] at h2
   cases h2
  rw [a1,a2]
  exact ⟨⟨rfl,rfl⟩,rfl,trivial⟩
 ·have h1:b.length=32:=by have:=of_decide_eq_false h;omega
  have h2:(!decide (aX 32 (bL b)=b))=false:=h2
  have h3:aX 32 (bL b)=b:=of_decide_eq_true (by simpa using h2)
  obtain ⟨a1,a2⟩:=AG ((kX h1).1 h3)
  rw [a1,a2]
  exact ⟨⟨rfl,rfl⟩,rfl,trivial⟩
theorem Oi (b:List UInt8):CA b<Lq:=by
 unfold CA
 split
 ·rename_i h;exact (of_decide_eq_true h).2
 ·exact gW
def mG:GF:=fun l=>match l with
 | [.one (.ro .u8 b)]=>some ⟨[.agg [.ob (.x 2) (CA b)],.one (.ob .int (GH b))],[],none⟩
 |_=>none
theorem oz:ab 100 (ap mG):=af aG PW Tryz.func100 (by kernel_rfl) rfl (rs:= [.cell 2 129,.tmp 3]) Tryz.results100 fun l g h hp=>by
 unfold mG at h
 split at h
 ·cases h;exact ⟨Nat.le_of_ble_eq_true rfl,rfl,rfl,rfl,C5 _⟩
 ·cases h
def Ry:List (Nat×CF):=(100,ap mG)::(163,ap my)::O6
theorem LI:∀p∈Ry,ab p.1 p.2:=ae oz<|ae n9 DL
theorem Sb:aq bF (ai Ry):=aA aG (aS LI)
def ga (b:List UInt8):Q4:=if c9 b=0 then pp (c_ b).x (c_ b).y else BW
def SM (y:F):F:=bI (vN (bI y y) (fn (UInt64.ofNat 1).toNat)) (bk (sQ (bI (bI y y) dE) (fn (UInt64.ofNat 1).toNat)))
theorem nT (y:F):SM y=xx y:=by
 show (y*y-fn 1)*bk (y*y*dE+fn 1)=(y*y-1)*bk (y*y*dE+1)
 rw [F1]
theorem lh {b:List UInt8} (h:c_ b=Cp.zero∧c9 b=12):ga b=BW∧c9 b=12:=⟨by rw [ga,h.2];rfl,h.2⟩
def Md (o:Bool) (a b:F):F:=match o with |true=>a|false=>b
theorem Gj (o:Bool) (R:F):(if o=true then -R else R)=Md o (Db R) R:=by cases o<;>rfl
theorem zO {b:List UInt8} {y:F} {o:Bool} (h1:b.length=32) (h2:dM b<Pq) (hy:fn (dM b)=y) (hr:cu (xx y)=0) (hs:GJ b=o) (hx:¬(o=true∧bt (xx y)=0)):ga b=pp (Md o (Db (bt (SM y))) (bt (SM y))) y∧c9 b=0:=by
 obtain ⟨a1,a2,a3⟩:=Jg h1 h2 hy hr hs hx
 have e:ga b=pp (c_ b).x (c_ b).y:=if_pos a1
 refine ⟨?_,a1⟩
 rw [e,a2,a3,nT,Gj]
theorem J4 (c:UInt8):(c&&&UInt8.ofNat 128≠UInt8.ofNat 0)↔(c.toNat/128%2 ==1)=true:=by
 have h:∀c:Nat,c<256→(decide (UInt8.ofNat c&&&UInt8.ofNat 128≠UInt8.ofNat 0))=(c/128%2 ==1):=by decide +kernel
 have:=h c.toNat c.toNat_lt
 rw [UInt8.ofNat_toNat] at this
 rw [←this,decide_eq_true_iff]
theorem J0 (c:UInt8):c&&& ~~~(UInt8.ofNat 128)=c&&&127:=by
 rw [show ~~~(UInt8.ofNat 128)=(127:UInt8) from by decide]
set_option maxHeartbeats 2000000 in
theorem Ox (b:List UInt8):vc bF (ai Ry) Tryz.f98.ntmps (ag Tryz.f98) ⟨al 0 [.one (.ro .u8 b)],[],2000⟩ (aD bF Tryz.f98.ntmps [.cell 2 124,.tmp 3] [(ga b).av,.one (.ob .int (c9 b))] []):=by
 refine fun hl=>⟨fun h=> ?_,fun h=> ?_⟩
 ·have h1:b.length≠32:=by have:=of_decide_eq_true h;omega
  obtain ⟨a1,a2⟩:=lh (zQ h1)
  rw [a1,a2]
  exact ⟨⟨rfl,rfl⟩,⟨rfl,rfl⟩,⟨rfl,rfl⟩,⟨rfl,rfl⟩,rfl,trivial⟩
 ·have h1:b.length=32:=by have:=of_decide_eq_false h;omega
  clear h
  have h31:31<b.length:=by omega
  obtain ⟨c1,c2⟩:=MX h1
  have ec:b.set 31 (b.getD 31 0&&& ~~~(UInt8.ofNat 128))=zI b:=by rw [J0];rfl
  refine ⟨h31,by show b.length≤16777216;omega,h31,h31,h31,h31,fun h=> ?_,fun h=> ?_⟩
  ·have h2:¬dM b<Pq:=fun hlt=>by
    have h:decide (H8 (b.set 31 (b.getD 31 0&&& ~~~(UInt8.ofNat 128)))≠0)=true:=h
    have e:N3 (zI b)=true:=decide_eq_true ⟨c1,by rw [c2];exact hlt⟩
    rw [ec,H8,e] at h
    cases h
   obtain ⟨a1,a2⟩:=lh (Je h2)
   rw [a1,a2]
   exact ⟨⟨rfl,rfl⟩,⟨rfl,rfl⟩,⟨rfl,rfl⟩,⟨rfl,rfl⟩,rfl,trivial⟩
  ·have h2:dM b<Pq:=by
    have h:decide (H8 (b.set 31 (b.getD 31 0&&& ~~~(UInt8.ofNat 128)))≠0)=false:=h
    rw [ec,H8] at h
    cases e:N3 (zI b) with
    |false=>rw [e] at h;cases h
    |true=>
     have:=of_decide_eq_true e
     rw [←c2];exact this.2
   have hy:fn (dM b)=Jt (b.set 31 (b.getD 31 0&&& ~~~(UInt8.ofNat 128))):=by
    have e:N3 (zI b)=true:=decide_eq_true ⟨c1,by rw [c2];exact h2⟩
    rw [ec]
    unfold Jt
    rw [e,c2]
    rfl
   clear h
   have hs:=GK h1
   have hodd:=J4 (b.getD 31 0)
   rw [←hs] at hodd
   obtain ⟨y,hyy⟩:∃y,y=Jt (b.set 31 (b.getD 31 0&&& ~~~(UInt8.ofNat 128))):=⟨_,rfl⟩
   rw [←hyy] at hy
   refine ⟨fun h=> ?_,fun h=> ?_⟩
   ·have h3:¬cu (xx y)=0:=by
     rw [←nT,hyy]
     exact of_decide_eq_true h
    obtain ⟨a1,a2⟩:=lh (Em h1 h2 hy h3)
    rw [a1,a2]
    exact ⟨h,⟨rfl,rfl⟩,⟨rfl,rfl⟩,⟨rfl,rfl⟩,⟨rfl,rfl⟩,rfl,trivial⟩
   ·have h3:cu (xx y)=0:=by
     rw [←nT,hyy]
     have:=of_decide_eq_false h
     exact Decidable.not_not.1 this
    have ho:GJ b=decide (b.getD 31 0&&&UInt8.ofNat 128≠UInt8.ofNat 0):=by
     rw [Bool.eq_iff_iff,decide_eq_true_iff]
     exact hodd.symm
    refine ⟨fun h4=>⟨h,h4,fun h5=> ?_,fun h5=> ?_⟩,fun h4=>⟨h,h4,?_⟩⟩
    ·have h5:bt (xx y)=0:=by rw [←nT,hyy];exact of_decide_eq_true h5
     obtain ⟨a1,a2⟩:=lh (Jf h1 h2 hy h3 (hodd.1 (of_decide_eq_true h4)) h5)
     rw [a1,a2]
     exact ⟨⟨rfl,rfl⟩,⟨rfl,rfl⟩,⟨rfl,rfl⟩,⟨rfl,rfl⟩,rfl,trivial⟩
    ·have h5:¬bt (xx y)=0:=by rw [←nT,hyy];exact of_decide_eq_false h5
     obtain ⟨a1,a2⟩:=zO h1 h2 hy h3 ho fun k=>h5 k.2
     subst hyy
     rw [a1,a2]
     exact ⟨⟨rfl,rfl⟩,⟨rfl,rfl⟩,⟨rfl,rfl⟩,⟨rfl,rfl⟩,rfl,trivial⟩
    ·obtain ⟨a1,a2⟩:=zO h1 h2 hy h3 ho fun k=>by rw [show decide (b.getD 31 0&&&UInt8.ofNat 128≠UInt8.ofNat 0)=false from h4] at k;cases k.1
     subst hyy
     rw [a1,a2]
     exact ⟨⟨rfl,rfl⟩,⟨rfl,rfl⟩,⟨rfl,rfl⟩,⟨rfl,rfl⟩,rfl,trivial⟩
def EL:GF:=fun l=>match l with
 | [.one (.ro .u8 b)]=>some ⟨[(ga b).av,.one (.ob .int (c9 b))],[],none⟩
 |_=>none
theorem wC:ab 98 (ap EL):=af aG Sb Tryz.func98 (by kernel_rfl) rfl (rs:= [.cell 2 124,.tmp 3]) Tryz.results98 fun l g h hp=>by
 unfold EL at h
 split at h
 ·cases h;exact ⟨Nat.le_of_ble_eq_true rfl,rfl,rfl,rfl,Ox _⟩
 ·cases h
set_option maxRecDepth 10000
theorem IL (w:World):Calls Tryz.prog 232 #[.int .u64 1,.int .u64 32] w fun e w'=>e= .returned (.tuple #[.int .u64 0,.int .u64 32])∧w=w':=by
 have h:=pi (x:=1) (y:=32) ⟨by omega,by omega⟩ ⟨by omega,by omega⟩ w
 rw [show (1:Int)*32/18446744073709551616=0 by omega,show (1:Int)*32%18446744073709551616=32 by omega] at h
 go_enter Tryz.func232,Tryz.ntmps232
 go_wp2_with (go_at_call 198;go_must (refine h.mono ?_;rintro e w1 ⟨rfl,rfl⟩))
 go_ret2
 exact ⟨rfl,rfl⟩
def EY:GF:=fun l=>match l with
 | [.one (.ob .u64 a),.one (.ob .u64 b)]=>some ⟨[.one (.ob .u64 0),.one (.ob .u64 32)],[],some (a=UInt64.ofNat 1∧b=UInt64.ofNat 32)⟩
 |_=>none
theorem ym:ab 232 (ap EY):=aN Tryz.func232 (by kernel_rfl) rfl fun l g h hp=>by
 unfold EY at h
 split at h
 ·rename_i a b
  cases h
  obtain ⟨rfl,rfl⟩:=hp
  refine ⟨rfl,rfl,fun η w vs ⟨v1,t,e1,h1,v2,t2,e2,h2,e3⟩=> ?_⟩
  subst e3 e2 e1
  cases List.singleton_inj.1 (show [v1]= [_] from h1)
  cases List.singleton_inj.1 (show [v2]= [_] from h2)
  exact (IL w).mono fun e w' ⟨he,hb⟩=>⟨_,he,by subst hb;exact Below.refl _ _,fun _ _=>⟨_,rfl,_,_,rfl,rfl,_,_,rfl,rfl,rfl⟩⟩
 ·cases h
def RW:List (Nat×CF):= [(232,ap EY)]
theorem Pu:∀p∈RW,ab p.1 p.2:=ae ym fun p hp=>by cases hp
theorem Sg:aq bF (ai RW):=aA aG (aS Pu)
def SG (i:Nat):List UInt8:=List.replicate (2^i) 102++List.replicate (32-2^i) 0
theorem Hn:vc bF (ai RW) Tryz.f177.ntmps (ag Tryz.f177) ⟨al 0 [.one (.ro .u8 [102]),.one (.ob .int 32)],[],2000⟩ (aD bF Tryz.f177.ntmps [.tmp 4] [.one (.rw 0)] [(0,.row 5 .u8 (List.replicate 32 102))]):=by
 refine ⟨fun h=>(by cases h),fun _=> ?_⟩
 refine sd (hp:=Int.natCast_nonneg _)<|sd (hp:=(by decide))<|sd (hp:=⟨rfl,rfl⟩)<|fun _=> ?_
 refine ⟨fun h=>absurd (of_decide_eq_true h) (by decide),fun h=>⟨h,fun h2=>absurd (of_decide_eq_true h2) (by decide),fun _=> ?_⟩⟩
 refine ⟨by decide,⟨by decide,rfl,by decide⟩,?_⟩
 refine Or.inr ⟨Fin 6,fun i=>⟨[(8,.one (.ob .int ((2^i.val:Nat):Int)))],[(2352,.row 5 .u8 (SG i.val))]⟩,fun i=>5-i.val,0,?_⟩
 refine ⟨by rfl,by rfl,fun i=> ?_⟩
 have hc:i=0∨i=1∨i=2∨i=3∨i=4∨i=5:=by revert i;decide
 rcases hc with rfl|rfl|rfl|rfl|rfl|rfl
 ·exact fun _=>⟨fun _=>⟨⟨by decide,by decide⟩,⟨⟨by decide,by decide⟩,trivial⟩,⟨by decide,by decide⟩,1,by decide,by rfl,by rfl,trivial⟩,fun h=>absurd (by decide) (of_decide_eq_false h)⟩
 ·exact fun _=>⟨fun _=>⟨⟨by decide,by decide⟩,⟨⟨by decide,by decide⟩,trivial⟩,⟨by decide,by decide⟩,2,by decide,by rfl,by rfl,trivial⟩,fun h=>absurd (by decide) (of_decide_eq_false h)⟩
 ·exact fun _=>⟨fun _=>⟨⟨by decide,by decide⟩,⟨⟨by decide,by decide⟩,trivial⟩,⟨by decide,by decide⟩,3,by decide,by rfl,by rfl,trivial⟩,fun h=>absurd (by decide) (of_decide_eq_false h)⟩
 ·exact fun _=>⟨fun _=>⟨⟨by decide,by decide⟩,⟨⟨by decide,by decide⟩,trivial⟩,⟨by decide,by decide⟩,4,by decide,by rfl,by rfl,trivial⟩,fun h=>absurd (by decide) (of_decide_eq_false h)⟩
 ·exact fun _=>⟨fun _=>⟨⟨by decide,by decide⟩,⟨⟨by decide,by decide⟩,trivial⟩,⟨by decide,by decide⟩,5,by decide,by rfl,by rfl,trivial⟩,fun h=>absurd (by decide) (of_decide_eq_false h)⟩
 ·exact fun _=>⟨fun h=>absurd (of_decide_eq_true h) (by decide),fun _=>⟨by rfl,trivial⟩⟩
def qY:GF:=fun l=>match l with
 | [.one (.ro .u8 q),.one (.ob .int n)]=>some ⟨[.one (.rw 0)],[(0,.row 5 .u8 (List.replicate 32 102))],some (q= [102]∧n=(32:Int))⟩
 |_=>none
theorem si:ab 177 (ap qY):=af aG Sg Tryz.func177 (by kernel_rfl) rfl (rs:= [.tmp 4]) Tryz.results177 fun l g h hp=>by
 unfold qY at h
 split at h
 ·rename_i q n
  cases h
  obtain ⟨rfl,h2⟩:=hp
  subst h2
  exact ⟨Nat.le_of_ble_eq_true rfl,rfl,rfl,rfl,Hn⟩
 ·cases h
def O7:List (Nat×CF):=(98,ap EL)::(177,ap qY)::(116,ap E4)::Ry
theorem LJ:∀p∈O7,ab p.1 p.2:=ae wC<|ae si<|ae yH LI
theorem MI:aq bF (ai O7):=aA aG (aS LJ)
theorem Ej (P:EP):ga (eB P)=pp P.x P.y∧c9 (eB P)=0:=by
 obtain ⟨h1,h2⟩:=qq P
 exact ⟨by rw [ga,if_pos h2,h1],h2⟩
theorem KY:vc bF (ai O7) Tryz.f103.ntmps (ag Tryz.f103) ⟨al 0 [],[],2000⟩ (aD bF Tryz.f103.ntmps [.cell 0 124] [(pp base.x base.y).av] []):=by
 have e:ga ((List.replicate 32 102).set 0 88)=pp base.x base.y:=by
  rw [←(Ej base).1,D5]
  rfl
 refine ⟨⟨rfl,rfl⟩,by show (0:Nat)<32;decide,by show (0:Nat)<32;decide,⟨rfl,congrArg (fun q:Q4=> [q.x]) e.symm⟩,⟨rfl,congrArg (fun q:Q4=> [q.y]) e.symm⟩,⟨rfl,congrArg (fun q:Q4=> [q.z]) e.symm⟩,⟨rfl,congrArg (fun q:Q4=> [q.t]) e.symm⟩,trivial⟩
def xb:GF:=fun l=>match l with
 | []=>some ⟨[(pp base.x base.y).av],[],none⟩
 |_=>none
theorem tb:ab 103 (ap xb):=af aG MI Tryz.func103 (by kernel_rfl) rfl (rs:= [.cell 0 124]) Tryz.results103 fun l g h hp=>by
 unfold xb at h
 split at h
 ·cases h;exact ⟨Nat.le_of_ble_eq_true rfl,rfl,rfl,rfl,KY⟩
 ·cases h
theorem Hs (q:Q4):vc bF (ai O7) Tryz.f175.ntmps (ag Tryz.f175) ⟨al 0 [q.av,.one (.ob .int 8)],[],2000⟩ (aD bF Tryz.f175.ntmps [.cell 4 124] [(cl e_ (az q) 8 253).av] []):=by
 have e:bL (aX 8 (UInt64.ofNat (8:Int).toNat).toNat)=8:=by decide +kernel
 have e2:cl e_ (az q) 8 253=cl e_ (az ⟨q.x,q.y,q.z,q.t⟩) (bL (aX 8 (UInt64.ofNat (8:Int).toNat).toNat)) 253:=by rw [e]
 refine ⟨fun h=>absurd (of_decide_eq_true h) (by decide),fun h=>⟨h,fun h2=>absurd (of_decide_eq_true h2) (by decide),fun _=>⟨by decide,⟨rfl,congrArg (fun q:Q4=> [q.x]) e2⟩,⟨rfl,congrArg (fun q:Q4=> [q.y]) e2⟩,⟨rfl,congrArg (fun q:Q4=> [q.z]) e2⟩,⟨rfl,congrArg (fun q:Q4=> [q.t]) e2⟩,trivial⟩⟩⟩
def rc:GF:=fun l=>match l with
 | [.agg [.ob (.x 4) x,.ob (.x 4) y,.ob (.x 4) z,.ob (.x 4) t],.one (.ob .int k)]=>some ⟨[(cl e_ (az ⟨x,y,z,t⟩) 8 253).av],[],some (k=(8:Int))⟩
 |_=>none
theorem sI:ab 175 (ap rc):=af aG MI Tryz.func175 (by kernel_rfl) rfl (rs:= [.cell 4 124]) Tryz.results175 fun l g h hp=>by
 unfold rc at h
 split at h
 ·cases h
  cases (show _=(8:Int) from hp)
  exact ⟨Nat.le_of_ble_eq_true rfl,rfl,rfl,rfl,Hs ⟨_,_,_,_⟩⟩
 ·cases h
theorem OB (q:List (List UInt8)) (hq:q.flatten.length≤8388608):vc bF (ai O7) Tryz.f101.ntmps (ag Tryz.f101) ⟨al 0 [.one (.bb q)],[],2000⟩ (aD bF Tryz.f101.ntmps [.cell 2 129] [.agg [.ob (.x 2) (bL (aM q.flatten))]] []):=⟨hq,⟨rfl,rfl⟩,trivial⟩
def EV:GF:=fun l=>match l with
 | [.one (.bb q)]=>some ⟨[.agg [.ob (.x 2) (bL (aM q.flatten))]],[],some (q.flatten.length≤8388608)⟩
 |_=>none
theorem xQ:ab 101 (ap EV):=af aG MI Tryz.func101 (by kernel_rfl) rfl (rs:= [.cell 2 129]) Tryz.results101 fun l g h hp=>by
 unfold EV at h
 split at h
 ·cases h;exact ⟨Nat.le_of_ble_eq_true rfl,rfl,rfl,rfl,OB _ hp⟩
 ·cases h
def Ps:List (Nat×CF):=(101,ap EV)::(103,ap xb)::(175,ap rc)::O7
theorem DM:∀p∈Ps,ab p.1 p.2:=ae xQ<|ae tb<|ae sI LJ
theorem Sc:aq bF (ai Ps):=aA aG (aS DM)
def kH (q:Q4):Bool:=eQ (az (cl e_ (az q) 8 253)) (az BW)
theorem Hq (q:Q4):vc bF (ai Ps) Tryz.f99.ntmps (ag Tryz.f99) ⟨al 0 [q.av],[],2000⟩ (aD bF Tryz.f99.ntmps [.tmp 2] [.one (.ob .bool (kH q))] []):=⟨rfl,rfl,trivial⟩
def q_:GF:=fun l=>match l with
 | [.agg [.ob (.x 4) x,.ob (.x 4) y,.ob (.x 4) z,.ob (.x 4) t]]=>some ⟨[.one (.ob .bool (kH ⟨x,y,z,t⟩))],[],none⟩
 |_=>none
theorem sy:ab 99 (ap q_):=af aG Sc Tryz.func99 (by kernel_rfl) rfl (rs:= [.tmp 2]) Tryz.results99 fun l g h hp=>by
 unfold q_ at h
 split at h
 ·cases h;exact ⟨Nat.le_of_ble_eq_true rfl,rfl,rfl,rfl,Hq ⟨_,_,_,_⟩⟩
 ·cases h
end Go.Proofs.YtnlhpncaldcllaaGreat
namespace Go.Proofs.YtnlhpncaldcllaaGreat
open Go.RowKit
theorem JT (x y c z:Nat) (hx:x<18446744073709551616) (hy:y<18446744073709551616) (hc:c<18446744073709551616) (hz:z<18446744073709551616):
  kY (z:Int) (kY (FP x y) c 0) 0=((x*y+c+z)%18446744073709551616:Nat)∧
  IntKind.u64.wrap (IntKind.u64.wrap (NT x y+nY (FP x y) c 0)+nY (z:Int) (kY (FP x y) c 0) 0)=((x*y+c+z)/18446744073709551616:Nat):=by
 have h5:x*y≤18446744073709551615*18446744073709551615:=Nat.mul_le_mul (by omega) (by omega)
 unfold kY nY FP NT
 rw [c8,c8]
 rw [show (x:Int)*(y:Int)=((x*y:Nat):Int) from by simp]
 generalize x*y=p at*
 constructor
 ·omega
 ·omega
def Gp (a b i j:Nat) (q:Nat):Value:=if q<i+j then wV (ij a b i+ot a b i j) q else wV (ij a b i) q
theorem N8 (a b i j:Nat):Gp a b i j (i+j)= .int .u64 (lw (ij a b i) (i+j):Nat):=by unfold Gp;rw [if_neg (by omega)];rfl
theorem Km (a b i j:Nat):(row 8 (Gp a b i j)).set (i+j) (.int .u64 (lw (ij a b i+ot a b i (j+1)) (i+j):Nat))=row 8 (Gp a b i (j+1)):=
 dB _ _ (by unfold Gp;rw [if_pos (by omega)];rfl) (fun q _ h=>by
  unfold Gp
  by_cases h1:q<i+j
  ·rw [if_pos h1,if_pos (by omega)];unfold wV;rw [Ob a b i j q h1]
  ·rw [if_neg h1,if_neg (by omega)])
theorem Gq (a b i:Nat):row 8 (Gp a b i 0)=row 8 (wV (ij a b i)):=io fun q _=>by
 unfold Gp
 rw [show ot a b i 0=0 from by unfold ot;rw [Nat.mul_zero,Nat.pow_zero,Nat.mod_one,Nat.mul_zero],Nat.add_zero]
 split<;>rfl
theorem Kn (a b i:Nat) (hb:b<2^256):(row 8 (Gp a b i 4)).set (i+4) (.int .u64 (sS a b i 4:Nat))=row 8 (wV (ij a b (i+1))):=
 dB _ _ (by unfold wV;rw [Oc a b i hb]) (fun q _ h=>by
  unfold Gp
  by_cases h1:q<i+4
  ·rw [if_pos h1,uP a b i hb]
  ·rw [if_neg h1];unfold wV
   rw [Ar (yE a b i hb) (by omega),Ar (yE a b (i+1) hb) (by omega)])
set_option maxHeartbeats 2000000 in
theorem CC (a b:Nat) (ha:a<2^256) (hb:b<2^256) (w:World):
  Calls Tryz.prog 123 #[.agg #[.int .u64 (lw a 0:Nat),.int .u64 (lw a 1:Nat),.int .u64 (lw a 2:Nat),.int .u64 (lw a 3:Nat)],.agg #[.int .u64 (lw b 0:Nat),.int .u64 (lw b 1:Nat),.int .u64 (lw b 2:Nat),.int .u64 (lw b 3:Nat)]] w fun e w'=>e= .returned (.agg #[.int .u64 (lw (a*b%Lq) 0:Nat),.int .u64 (lw (a*b%Lq) 1:Nat),.int .u64 (lw (a*b%Lq) 2:Nat),.int .u64 (lw (a*b%Lq) 3:Nat)])∧Below w.heap.size w w':=by
 have HB:=Lib.hid hb;have HA:=Lib.hid ha
 clear ha hb
 go_enter Tryz.func123,Tryz.ntmps123
 go_wp2
 refine dO (fun W=>am W (w.heap.size+1) (row 4 (wV b)) 129∧am W (w.heap.size+1+1+1) (row 8 (wV (ij a b 0))) 178∧am W (w.heap.size+1+1) (row 4 (wV 0)) 129∧Below w.heap.size w W) ?_ (fun W hW=> ?_)
 ·refine ⟨((am.new' (by simp)).alloc _).alloc _,?_,?_,(by repeat (first|(with_reducible refine Below.alloc' ?_ _)|(with_reducible refine Below.drew ?_)|(with_reducible refine below_drewN ?_ _)|((with_reducible refine Below.setCell ?_ ?_ _);rotate_left;(focus (first|exact Nat.le_refl _|(simp;done)|(simp;omega))))|(with_reducible assumption)|(with_reducible exact Below.refl _ _)))⟩
  ·rw [show ij a b 0=0 from by unfold ij;rw [Nat.mul_zero,Nat.pow_zero,Nat.mod_one,Nat.zero_mul],pw]
   exact am.new' (by simp)
  ·simp only [Cq,Rl]
   exact (am.new' (by simp)).alloc _
 obtain ⟨hb1,hw1,ho1,hbl1⟩:=hW
 go_loopw [16] (fun i wr=>∃k:Nat,k≤4∧i= .int .i64 k∧am wr (w.heap.size+1) (row 4 (wV b)) 129∧am wr (w.heap.size+1+1+1) (row 8 (wV (ij a b k))) 178∧am wr (w.heap.size+1+1) (row 4 (wV 0)) 129∧Below w.heap.size w wr) (fun i _=>4-(intOf i).toNat)
 case atStart=>exact ⟨0,by omega,rfl,hb1,hw1,ho1,hbl1⟩
 case round=>
  clear hb1 hw1 ho1 hbl1 W
  obtain ⟨i,hi,rfl,hbB,hwB,hoB,hbl⟩:=hrel
  obtain ⟨wo,hwo⟩:∃wo:World,wo=wr:=⟨_,rfl⟩
  by_cases hlt:i<4
  ·have hx:=RF a i hlt
   have hdd:decide ((i:Int)<4)=true:=by simp;omega
   have hbc:=hbB.cell
   rw [Cq] at hbc
   unfold wV at hbc
   go_wp2
   clear hx hbc
   go_loopw [8,22] (fun c j wr=>∃k:Nat,k≤4∧j= .int .i64 k∧c= .int .u64 (sS a b i k:Nat)∧am wr (w.heap.size+1) (row 4 (wV b)) 129∧am wr (w.heap.size+1+1+1) (row 8 (Gp a b i k)) 178∧am wr (w.heap.size+1+1) (row 4 (wV 0)) 129∧Below w.heap.size w wr) (fun _ j _=>4-(intOf j).toNat)
   case atStart=>exact ⟨0,by omega,rfl,by rw [Gn];rfl,hbB,by rw [Gq];exact hwB,hoB,hbl⟩
   case round=>
    subst hwo
    clear hbB hwB hoB hbl
    obtain ⟨j,hj,rfl,rfl,hbB,hwB,hoB,hbl⟩:=hrel
    by_cases hlt':j<4
    ·have hy:=RF b j hlt'
     have hij:i+j<8:=by omega
     have cw:=hwB.at hij
     rw [N8] at cw
     have cf:=hwB.frozen (i+j)
     have hzl:=b8 (ij a b i) (i+j)
     have hm:=JT (lw a i) (lw b j) (sS a b i j) (lw (ij a b i) (i+j)) (b8 _ _) (b8 _ _) (r7 _ _ _ _) hzl
     rw [←(r9 a b i j).1,←(r9 a b i j).2] at hm
     have h1:=fun w=>sV (yh (lw a i:Nat) (lw b j:Nat)) (y:=(sS a b i j:Nat)) ⟨by omega,by have:=r7 a b i j;omega⟩ Cy.zero w
     have h2:=fun w=>sV (x:=(lw (ij a b i) (i+j):Nat)) ⟨by omega,by omega⟩ (Ix (FP (lw a i:Nat) (lw b j:Nat)) (sS a b i j:Nat) 0) Cy.zero w
     rw [hm.1] at h2
     have HM:=Lib.hid hm.2
     have HBb:=Lib.hid hbB;have HWb:=Lib.hid hwB;have HOb:=Lib.hid hoB
     clear hm hzl hbB hwB hoB
     have HW2:=Lib.hid (HWb.out.set (i+j) (.int .u64 (lw (ij a b i+ot a b i (j+1)) (i+j):Nat)))
     have HB2:=Lib.hid (HBb.out.other ⟨w.heap.size+1+1+1,i+j,none⟩ (by simp;omega) (.int .u64 (lw (ij a b i+ot a b i (j+1)) (i+j):Nat)))
     have HO2:=Lib.hid (HOb.out.other ⟨w.heap.size+1+1+1,i+j,none⟩ (by simp) (.int .u64 (lw (ij a b i+ot a b i (j+1)) (i+j):Nat)))
     clear HWb HBb HOb
     go_wp2_with (go_at_call 198;go_must (refine (Aw (Wd.lw a i) (Wd.lw b j) _).mono ?_;rintro e w1 ⟨rfl,rfl⟩))
     go_roundw
     case rel=>exact ⟨j+1,by omega,by go_num,by rw [HM.out],HB2.out,by have:=HW2.out;rw [Km] at this;exact this,HO2.out,(by repeat (first|(with_reducible refine Below.alloc' ?_ _)|(with_reducible refine Below.drew ?_)|(with_reducible refine below_drewN ?_ _)|((with_reducible refine Below.setCell ?_ ?_ _);rotate_left;(focus (first|exact Nat.le_refl _|(simp;done)|(simp;omega))))|(with_reducible assumption)|(with_reducible exact Below.refl _ _)))⟩
     case measure=>simp [intOf];omega
    ·obtain rfl:j=4:=by omega
     have hi4:i+4<8:=by omega
     have cw:∃v,wr.cell? ⟨w.heap.size+1+1+1,i+4,none⟩=some v:=⟨_,hwB.at hi4⟩
     obtain ⟨v,cw⟩:=cw
     have cf:=hwB.frozen (i+4)
     have HWb:=Lib.hid (hwB.set (i+4) (.int .u64 (sS a b i 4:Nat)))
     have HBb:=Lib.hid (hbB.other ⟨w.heap.size+1+1+1,i+4,none⟩ (by simp;omega) (.int .u64 (sS a b i 4:Nat)))
     have HOb:=Lib.hid (hoB.other ⟨w.heap.size+1+1+1,i+4,none⟩ (by simp) (.int .u64 (sS a b i 4:Nat)))
     clear hbB hwB hoB
     go_wp2
     go_roundw
     case rel=>exact ⟨i+1,by omega,by go_num,HBb.out,by have:=HWb.out;rw [Kn a b i HB.out] at this;exact this,HOb.out,(by repeat (first|(with_reducible refine Below.alloc' ?_ _)|(with_reducible refine Below.drew ?_)|(with_reducible refine below_drewN ?_ _)|((with_reducible refine Below.setCell ?_ ?_ _);rotate_left;(focus (first|exact Nat.le_refl _|(simp;done)|(simp;omega))))|(with_reducible assumption)|(with_reducible exact Below.refl _ _)))⟩
     case measure=>simp [intOf];omega
  ·obtain rfl:i=4:=by omega
   clear hwo
   rw [show ij a b 4=a*b from by unfold ij;rw [Nat.mod_eq_of_lt (show a<2^(64*4) from HA.out)]] at hwB
   have HN:=Lib.hid (ye HA.out HB.out)
   rw [Cq] at hoB
   simp only [Rl] at hoB
   clear hbB hlt hi
   have g0:wr.cell? ⟨w.heap.size+1+1+1,0,none⟩=some (.int .u64 (lw (a*b) 0:Nat)):=hwB.at (by omega);have g1:wr.cell? ⟨w.heap.size+1+1+1,1,none⟩=some (.int .u64 (lw (a*b) 1:Nat)):=hwB.at (by omega);have g2:wr.cell? ⟨w.heap.size+1+1+1,2,none⟩=some (.int .u64 (lw (a*b) 2:Nat)):=hwB.at (by omega);have g3:wr.cell? ⟨w.heap.size+1+1+1,3,none⟩=some (.int .u64 (lw (a*b) 3:Nat)):=hwB.at (by omega);have g4:wr.cell? ⟨w.heap.size+1+1+1,4,none⟩=some (.int .u64 (lw (a*b) 4:Nat)):=hwB.at (by omega);have g5:wr.cell? ⟨w.heap.size+1+1+1,5,none⟩=some (.int .u64 (lw (a*b) 5:Nat)):=hwB.at (by omega);have g6:wr.cell? ⟨w.heap.size+1+1+1,6,none⟩=some (.int .u64 (lw (a*b) 6:Nat)):=hwB.at (by omega);have g7:wr.cell? ⟨w.heap.size+1+1+1,7,none⟩=some (.int .u64 (lw (a*b) 7:Nat)):=hwB.at (by omega)
   go_wp2_with (go_at_call 192;go_must (refine (kU (a*b) (256+256) (by omega) (by omega) HN.out _).mono ?_;rintro e w2 ⟨rfl,hb⟩;have hO2:=hoB.below' hb;have oc:=hO2.cell;have of:=hO2.frozen;have hbel2:=Below.call hbl hb;clear hb hO2))
   exact bodyPost_ret (v:= .agg #[.int .u64 (lw (a*b%Lq) 0:Nat),.int .u64 (lw (a*b%Lq) 1:Nat),.int .u64 (lw (a*b%Lq) 2:Nat),.int .u64 (lw (a*b%Lq) 3:Nat)]) (by simp [results,Tryz.results123,go_sem,oc]) rfl ⟨rfl,(by repeat (first|(with_reducible refine Below.alloc' ?_ _)|(with_reducible refine Below.drew ?_)|(with_reducible refine below_drewN ?_ _)|((with_reducible refine Below.setCell ?_ ?_ _);rotate_left;(focus (first|exact Nat.le_refl _|(simp;done)|(simp;omega))))|(with_reducible assumption)|(with_reducible exact Below.refl _ _)))⟩
end Go.Proofs.YtnlhpncaldcllaaGreat
namespace Go.Proofs.YtnlhpncaldcllaaGreat
open Go Go.RowKit
set_option maxRecDepth 10000
def Mx:List (Nat×CF):=(194,ap ER)::O6
theorem My:∀p∈Mx,ab p.1 p.2:=ae wH DL
theorem PM:aq au (ai Mx):=aA aj (aS My)
def qx (q:Q4):List UInt8:=tL (bI (az q).x (bk (az q).z)) (bI (az q).y (bk (az q).z))
theorem OH (q:Q4):vc au (ai Mx) Tryz.f119.ntmps (ag Tryz.f119) ⟨al 0 [q.av],[],2000⟩ (aD au Tryz.f119.ntmps [.tmp 2] [.one (.rw 0)] [(0,.row 5 .u8 (qx q))]):=by
 have hl:(aX 32 (bI (az q).y (bk (az q).z)).val).length=32:=ao _ _
 refine ⟨fun h=> ?_,fun h=> ?_⟩
 ·have h:(bI (az q).x (bk (az q).z)).val%2=1:=of_decide_eq_true h
  have hE:qx q=(aX 32 (bI (az q).y (bk (az q).z)).val).set 31 ((aX 32 (bI (az q).y (bk (az q).z)).val).getD 31 0|||128):=by rw [qx,tL,if_pos h]
  rw [hE]
  have h31:31<(aX 32 (bI (az q).y (bk (az q).z)).val).length:=by omega
  exact ⟨h31,h31,h31,h31,rfl,trivial⟩
 ·have h:¬(bI (az q).x (bk (az q).z)).val%2=1:=of_decide_eq_false h
  have hE:qx q=aX 32 (bI (az q).y (bk (az q).z)).val:=by rw [qx,tL,if_neg h]
  rw [hE]
  exact ⟨rfl,trivial⟩
def E3:GF:=fun l=>match l with
 | [.agg [.ob (.x 4) x,.ob (.x 4) y,.ob (.x 4) z,.ob (.x 4) t]]=>some ⟨[.one (.rw 0)],[(0,.row 5 .u8 (qx ⟨x,y,z,t⟩))],none⟩
 |_=>none
theorem yC:ab 119 (ap E3):=af aj PM Tryz.func119 (by kernel_rfl) rfl (rs:= [.tmp 2]) Tryz.results119 fun l g h hp=>by
 unfold E3 at h
 split at h
 ·cases h;exact ⟨Nat.le_of_ble_eq_true rfl,rfl,rfl,rfl,OH ⟨_,_,_,_⟩⟩
 ·cases h
theorem Jl {q:Q4} {P:EP} (h:v9 q P):qx q=eB P:=by
 rw [qx,dW h]
 exact Jj (q:=⟨q.x,q.y,q.z⟩) h.p
def qw (n:Nat):List UInt8:=qx (cl e_ (az (pp base.x base.y)) n 253)
theorem zU {n:Nat} (h:n<Lq):qw n=eB (Cp.mul n base):=Jl (jE (kB base) n h)
theorem tM (n:Nat):(qw n).length=32:=Er _ _
def xq:GF:=fun l=>match l with
 | [.agg [.ob (.x 2) a],.agg [.ob (.x 2) b]]=>some ⟨[.agg [.ob (.x 2) (yT a b)]],[],none⟩
 |_=>none
theorem BY {a b:Nat} (ha:a<Lq) (hb:b<Lq):once (a+b)=yT a b:=uB (by omega)
theorem uQ:ab 122 (ap xq):=aN Tryz.func122 (by kernel_rfl) rfl fun l g h hp=>by
 unfold xq at h
 split at h
 ·rename_i a b
  cases h
  refine ⟨rfl,rfl,fun η w vs ⟨v1,t,e1,h1,v2,t2,e2,h2,e3⟩=> ?_⟩
  subst e3 e2 e1
  obtain ⟨rfl,ha⟩:=pA h1
  obtain ⟨rfl,hb⟩:=pA h2
  have h:=It a b (by unfold Lq at ha hb;omega) w
  rw [BY ha hb] at h
  exact h.mono fun e w' ⟨he,hb⟩=>⟨_,he,hb,fun _ _=>yV (n:=yT a b) (Nat.mod_lt _ gW)⟩
 ·cases h
def xr:GF:=fun l=>match l with
 | [.agg [.ob (.x 2) a],.agg [.ob (.x 2) b]]=>some ⟨[.agg [.ob (.x 2) (Cw a b)]],[],none⟩
 |_=>none
theorem uR:ab 123 (ap xr):=aN Tryz.func123 (by kernel_rfl) rfl fun l g h hp=>by
 unfold xr at h
 split at h
 ·rename_i a b
  cases h
  refine ⟨rfl,rfl,fun η w vs ⟨v1,t,e1,h1,v2,t2,e2,h2,e3⟩=> ?_⟩
  subst e3 e2 e1
  obtain ⟨rfl,ha⟩:=pA h1
  obtain ⟨rfl,hb⟩:=pA h2
  exact (CC a b (by unfold Lq at ha;omega) (by unfold Lq at hb;omega) w).mono fun e w' ⟨he,hb⟩=>⟨_,he,hb,fun _ _=>yV (n:=Cw a b) (Nat.mod_lt _ gW)⟩
 ·cases h
def DC:List (Nat×CF):=(119,ap E3)::(122,ap xq)::(123,ap xr)::(118,ap lk)::Ps
theorem Mz:∀p∈DC,ab p.1 p.2:=ae yC<|ae uQ<|ae uR<|ae j3 DM
theorem DV:aq au (ai DC):=aA aj (aS Mz)
theorem tz {b:List UInt8} (h:32≤b.length):aB (b.take 32)=aB b:=by
 have e:bO (b.take 32) 32=bO b 32:=by
  rw [bO,bO,List.take_take,Nat.min_self,List.length_take,Nat.min_eq_left h,show 32-32=32-b.length by omega]
 rw [aB,aB,e]
theorem uX (seed:List UInt8):bL (aB (aM seed))=qA seed:=by
 rw [qA,tz (by rw [cO];omega)]
theorem Od (seed:List UInt8):qw (qA seed)=dV seed:=zU (Mh seed)
theorem Hk (seed:List UInt8) (hs:seed.length=32):vc au (ai DC) Tryz.f56.ntmps (ag Tryz.f56) ⟨al 0 [.one (.ro .u8 seed)],[],2000⟩ (aD au Tryz.f56.ntmps [.tmp 2,.tmp 3] [.one (.ptr 0 0),.one (.ob .int 0)] [(0,.blk 157 [.ob (.x 2) (qA seed),.sub 1 32 32,.rw 2]),(1,.row 5 .u8 (aM seed)),(2,.row 5 .u8 (dV seed))]):=by
 have hl:=cO seed
 have e1: [seed].flatten=seed:=by simp
 refine fun _=>⟨fun h1=> ?_,fun h1=> ?_⟩
 ·have h1:=of_decide_eq_true h1;omega
 refine ⟨by rw [e1];omega,?_⟩
 rw [e1]
 refine ⟨⟨by decide,by show (32:Int)≤((aM seed).length:Nat);omega⟩,rfl,⟨rfl,?_⟩,rfl,by show 32=(aM seed).length-32;omega,rfl,?_,trivial⟩
 ·exact congrArg (fun z=> [z]) (uX seed).symm
 ·show dV seed=qw (bL (aB (aM seed)))
  rw [uX,Od]
def qW:GF:=fun l=>match l with
 | [.one (.ro .u8 seed)]=>some ⟨[.one (.ptr 0 0),.one (.ob .int 0)],[(0,.blk 157 [.ob (.x 2) (qA seed),.sub 1 32 32,.rw 2]),(1,.row 5 .u8 (aM seed)),(2,.row 5 .u8 (dV seed))],some (seed.length=32)⟩
 |_=>none
theorem rH:ab 56 (ap qW):=af aj DV Tryz.func56 (by kernel_rfl) rfl (rs:= [.tmp 2,.tmp 3]) Tryz.results56 fun l g h hp=>by
 unfold qW at h
 split at h
 ·cases h;exact ⟨Nat.le_of_ble_eq_true rfl,rfl,rfl,rfl,Hk _ hp⟩
 ·cases h
abbrev RM (a:Nat) (S P:List UInt8):List Ch:= [.blk 157 [.ob (.x 2) a,.sub 1001 32 32,.rw 1002],.row 5 .u8 S,.row 5 .u8 P]
theorem Hp (a:Nat) (S P:List UInt8) (hP:P.length≤16777216):vc au (ai DC) Tryz.f64.ntmps (ag Tryz.f64) ⟨al 0 [.one (.ptr 1000 0)],aQ 1000 (RM a S P),2000⟩ (bR au Tryz.f64.ntmps [.tmp 2] [.one (.rw 0)] [(0,.row 5 .u8 P)] (RM a S P) []):=by
 exact ⟨hP,rfl,trivial⟩
def q9:fB:=fun l cs=>match l,cs with
 | [.one (.ptr 1000 0)],[.blk 157 [.ob (.x 2) a,.sub 1001 32 32,.rw 1002],.row 5 .u8 S,.row 5 .u8 P]=>some ⟨[.one (.rw 0)],[(0,.row 5 .u8 P)],[],some (P.length≤16777216)⟩
 |_,_=>none
theorem sx:ab 64 (iz q9):=aW aj DV Tryz.func64 (by kernel_rfl) rfl (rs:= [.tmp 2]) Tryz.results64 fun l cs g h hp=>by
 unfold q9 at h
 split at h
 ·cases h;exact ⟨Nat.le_of_ble_eq_true rfl,rfl,rfl,rfl,Hp _ _ _ hp⟩
 ·cases h
def Pc (S T:List UInt8):Nat:=bL (aM [(S.drop 32).take 32,T].flatten)
def H_ (a:Nat) (S P T:List UInt8):List UInt8:= [qw (Pc S T),aX 32 (yT (Pc S T) (Cw (bL (aM [qw (Pc S T),P,T].flatten)) a))].flatten
theorem C6 (a:Nat) (S P:List UInt8) (q:List (List UInt8)) (hP:P.length=32) (hS:S.length=64) (hq:q.flatten.length≤8000000):vc au (ai DC) Tryz.f60.ntmps (ag Tryz.f60) ⟨al 0 [.one (.ptr 1000 0),.one (.bb q)],aQ 1000 (RM a S P),2000⟩ (bR au Tryz.f60.ntmps [.tmp 4] [.one (.rw 0)] [(0,.row 5 .u8 (H_ a S P q.flatten))] (RM a S P) []):=by
 refine fun _=>⟨fun h1=> ?_,fun h1=> ?_⟩
 ·have h1:=of_decide_eq_true h1;omega
 have h2: [(S.drop 32).take 32,q.flatten].flatten.length≤8388608:=by
  rw [qd,List.length_append,List.length_take,List.length_drop];omega
 have h3:∀n,[qw n,P,q.flatten].flatten.length≤8388608:=fun n=>by
  rw [IX,List.length_append,List.length_append,tM];omega
 have h4:∀n m,[qw n,aX 32 m].flatten.length≤16777216:=fun n m=>by
  rw [qd,List.length_append,ao,tM];omega
 exact ⟨by omega,h2,h3 _,h4 _ _,rfl,trivial⟩
def mH:fB:=fun l cs=>match l,cs with
 | [.one (.ptr 1000 0),.one (.bb q)],[.blk 157 [.ob (.x 2) a,.sub 1001 32 32,.rw 1002],.row 5 .u8 S,.row 5 .u8 P]=>some ⟨[.one (.rw 0)],[(0,.row 5 .u8 (H_ a S P q.flatten))],[],some (P.length=32∧S.length=64∧q.flatten.length≤8000000)⟩
 |_,_=>none
theorem oy:ab 60 (wq [false,true] mH):=iS aj DV Tryz.func60 (by kernel_rfl) rfl (rs:= [.tmp 4]) Tryz.results60 fun l cs g h hp=>by
 unfold mH at h
 split at h
 ·cases h;exact ⟨Nat.le_of_ble_eq_true rfl,rfl,rfl,rfl,C6 _ _ _ _ hp.1 hp.2.1 hp.2.2⟩
 ·cases h
theorem kF (seed T:List UInt8):H_ (qA seed) (aM seed) (dV seed) T=eP seed T:=by
 have hT:((aM seed).drop 32).take 32=qP seed:=List.take_of_length_le (by rw [List.length_drop,cO];decide)
 have e1:qw (Pc (aM seed) T)=qR (qP seed) T:=by
  rw [Pc,zU (jU _),qd,hT];rfl
 rw [H_,e1,qd,IX,Pc,qd,hT]
 rfl
set_option maxRecDepth 10000
def pL:List (Nat×CF):=(195,ap mC)::Ii
theorem DD:∀p∈pL,ab p.1 p.2:=ae oh Dz
theorem PN:aq au (ai pL):=aA aj (aS DD)
def i9 (n:Int):List UInt8:= [[UInt8.ofNat 112,UInt8.ofNat 97,UInt8.ofNat 114,UInt8.ofNat 116],((fD (UInt32.ofNat n.toNat).toUInt64).drop 4).take 4].flatten
theorem yA (n:Int):(i9 n).length=8:=by rw [i9,wg];simp [p7]
def aT (seed:List UInt8) (n:Int):List UInt8:=Fs [] seed (i9 n) 64
theorem fk (seed:List UInt8) (n:Int):(aT seed n).length=64:=by rw [aT,Fs,List.length_take,jy];decide
theorem fm {seed:List UInt8} {n:Int} (hs:seed.length≤65536):(i9 n).length≤16777216∧([]:List UInt8).length≤64∧seed.length≤8000000∧(i9 n).length≤1000000∧Dc 1 64 8160:=by
 have:=yA n
 exact ⟨by omega,by decide,by omega,by omega,by decide,by decide⟩
def Ny (G G':fB):fB:=fun l cs=>match G l cs with |some g=>some g|none=>G' l cs
def sT (ty:Nat→TE) (ct:Nat→Option CF) (N:Nat) (c:Code) (rs:List ResultVar) (G:fB):Prop:=∀l cs g,G l cs=some g→aY g.pre→l.length≤N∧g.outs.length=rs.length∧cD cs.length g.outs=true∧gy cs.length g.us=true∧vc ty ct N c ⟨al 0 l,aQ 1000 cs,2000⟩ (bR ty N rs g.outs g.us cs g.d)
theorem sT.or {ty:Nat→TE} {ct:Nat→Option CF} {N:Nat} {c:Code} {rs:List ResultVar} {G G':fB} (h:sT ty ct N c rs G) (h':sT ty ct N c rs G'):sT ty ct N c rs (Ny G G'):=fun l cs g e hp=>by
 unfold Ny at e
 split at e
 ·rename_i g1 e1
  cases e
  exact h l cs _ e1 hp
 ·exact h' l cs _ e hp
abbrev RB (seed:List UInt8) (v:Int) (o k:List Bool):List Ch:= [.blk 84 [.rw 1001,.ob .int v,.cv (.pointer none),.cv (.slice none 0 0),.cv (.slice none 0 0),.rw 1002,.rw 1003],.row 5 .u8 seed,.row 4 .bool o,.row 4 .bool k]
set_option maxHeartbeats 4000000 in
theorem G5 (seed:List UInt8) (v:Int) (o k:List Bool) (n:Int) (hs:seed.length≤65536) (hn:0≤n):vc au (ai pL) Tryz.f120.ntmps (ag Tryz.f120) ⟨al 0 [.one (.ptr 1000 0),.one (.ob .int n)],aQ 1000 (RB seed v o k),2000⟩ (bR au Tryz.f120.ntmps [.tmp 4] [.one (.rw 0)] [(0,.row 5 .u8 (aT seed n))] (RB seed v o k) []):=⟨hn,(fm hs).1,(fm hs).2,rfl,trivial⟩
abbrev RC (seed:List UInt8) (v:Int) (o k:List Bool) (a:Nat) (S P:List UInt8):List Ch:= [.blk 84 [.rw 1001,.ob .int v,.ptr 1002 0,.cv (.slice none 0 0),.cv (.slice none 0 0),.rw 1003,.rw 1004],.row 5 .u8 seed,.blk 157 [.ob (.x 2) a,.sub 1005 32 32,.rw 1006],.row 4 .bool o,.row 4 .bool k,.row 5 .u8 S,.row 5 .u8 P]
set_option maxHeartbeats 4000000 in
theorem G6 (seed:List UInt8) (v:Int) (o k:List Bool) (a:Nat) (S P:List UInt8) (n:Int) (hs:seed.length≤65536) (hn:0≤n):vc au (ai pL) Tryz.f120.ntmps (ag Tryz.f120) ⟨al 0 [.one (.ptr 1000 0),.one (.ob .int n)],aQ 1000 (RC seed v o k a S P),2000⟩ (bR au Tryz.f120.ntmps [.tmp 4] [.one (.rw 0)] [(0,.row 5 .u8 (aT seed n))] (RC seed v o k a S P) []):=⟨hn,(fm hs).1,(fm hs).2,rfl,trivial⟩
abbrev j4 (seed:List UInt8) (v:Int) (o k:List Bool) (a:Nat) (S P I M:List UInt8):List Ch:= [.blk 84 [.rw 1001,.ob .int v,.ptr 1002 0,.sub 1003 0 32,.sub 1004 0 32,.rw 1005,.rw 1006],.row 5 .u8 seed,.blk 157 [.ob (.x 2) a,.sub 1007 32 32,.rw 1008],.row 5 .u8 I,.row 5 .u8 M,.row 4 .bool o,.row 4 .bool k,.row 5 .u8 S,.row 5 .u8 P]
set_option maxHeartbeats 4000000 in
theorem G7 (seed:List UInt8) (v:Int) (o k:List Bool) (a:Nat) (S P I M:List UInt8) (n:Int) (hs:seed.length≤65536) (hn:0≤n):vc au (ai pL) Tryz.f120.ntmps (ag Tryz.f120) ⟨al 0 [.one (.ptr 1000 0),.one (.ob .int n)],aQ 1000 (j4 seed v o k a S P I M),2000⟩ (bR au Tryz.f120.ntmps [.tmp 4] [.one (.rw 0)] [(0,.row 5 .u8 (aT seed n))] (j4 seed v o k a S P I M) []):=⟨hn,(fm hs).1,(fm hs).2,rfl,trivial⟩
def qG:fB:=fun l cs=>match l,cs with
 | [.one (.ptr 1000 0),.one (.ob .int n)],[.blk 84 [.rw 1001,.ob .int v,.cv (.pointer none),.cv (.slice none 0 0),.cv (.slice none 0 0),.rw 1002,.rw 1003],.row 5 .u8 seed,.row 4 .bool o,.row 4 .bool k]=>some ⟨[.one (.rw 0)],[(0,.row 5 .u8 (aT seed n))],[],some (seed.length≤65536∧0≤n)⟩
 |_,_=>none
def qH:fB:=fun l cs=>match l,cs with
 | [.one (.ptr 1000 0),.one (.ob .int n)],[.blk 84 [.rw 1001,.ob .int v,.ptr 1002 0,.cv (.slice none 0 0),.cv (.slice none 0 0),.rw 1003,.rw 1004],.row 5 .u8 seed,.blk 157 [.ob (.x 2) a,.sub 1005 32 32,.rw 1006],.row 4 .bool o,.row 4 .bool k,.row 5 .u8 S,.row 5 .u8 P]=>some ⟨[.one (.rw 0)],[(0,.row 5 .u8 (aT seed n))],[],some (seed.length≤65536∧0≤n)⟩
 |_,_=>none
def qI:fB:=fun l cs=>match l,cs with
 | [.one (.ptr 1000 0),.one (.ob .int n)],[.blk 84 [.rw 1001,.ob .int v,.ptr 1002 0,.sub 1003 0 32,.sub 1004 0 32,.rw 1005,.rw 1006],.row 5 .u8 seed,.blk 157 [.ob (.x 2) a,.sub 1007 32 32,.rw 1008],.row 5 .u8 I,.row 5 .u8 M,.row 4 .bool o,.row 4 .bool k,.row 5 .u8 S,.row 5 .u8 P]=>some ⟨[.one (.rw 0)],[(0,.row 5 .u8 (aT seed n))],[],some (seed.length≤65536∧0≤n)⟩
 |_,_=>none
def xa:fB:=Ny qG (Ny qH qI)
set_option maxHeartbeats 4000000 in
theorem IM:sT au (ai pL) Tryz.f120.ntmps (ag Tryz.f120) [.tmp 4] qG:=fun l cs g h hp=>by
 unfold qG at h
 split at h
 ·cases h
  exact ⟨Nat.le_of_ble_eq_true rfl,rfl,rfl,rfl,G5 _ _ _ _ _ hp.1 hp.2⟩
 ·cases h
set_option maxHeartbeats 4000000 in
theorem IN:sT au (ai pL) Tryz.f120.ntmps (ag Tryz.f120) [.tmp 4] qH:=fun l cs g h hp=>by
 unfold qH at h
 split at h
 ·cases h
  exact ⟨Nat.le_of_ble_eq_true rfl,rfl,rfl,rfl,G6 _ _ _ _ _ _ _ _ hp.1 hp.2⟩
 ·cases h
set_option maxHeartbeats 4000000 in
theorem IP:sT au (ai pL) Tryz.f120.ntmps (ag Tryz.f120) [.tmp 4] qI:=fun l cs g h hp=>by
 unfold qI at h
 split at h
 ·cases h
  exact ⟨Nat.le_of_ble_eq_true rfl,rfl,rfl,rfl,G7 _ _ _ _ _ _ _ _ _ _ hp.1 hp.2⟩
 ·cases h
theorem kK:ab 120 (iz xa):=aW aj PN Tryz.func120 (by kernel_rfl) rfl (rs:= [.tmp 4]) Tryz.results120 (sT.or IM (sT.or IN IP))
def pM:List (Nat×CF):=(120,iz xa)::pL
theorem DE:∀p∈pM,ab p.1 p.2:=ae kK DD
theorem PO:aq au (ai pM):=aA aj (aS DE)
set_option maxHeartbeats 4000000 in
theorem zc (seed:List UInt8) (v:Int) (o k:List Bool) (n:Int) (hs:seed.length≤65536) (hn:0≤n):vc au (ai pM) Tryz.f57.ntmps (ag Tryz.f57) ⟨al 0 [.one (.ptr 1000 0),.one (.ob .int n)],aQ 1000 (RB seed v o k),2000⟩ (bR au Tryz.f57.ntmps [.tmp 4] [.one (.sub 0 0 32)] [(0,.row 5 .u8 (aT seed n))] (RB seed v o k) []):=by
 have hl:=fk seed n
 exact ⟨⟨hs,hn⟩,⟨⟨by decide,by show (32:Int)≤((aT seed n).length:Nat);omega⟩,trivial⟩,rfl,rfl,rfl,trivial⟩
set_option maxHeartbeats 4000000 in
theorem zd (seed:List UInt8) (v:Int) (o k:List Bool) (a:Nat) (S P:List UInt8) (n:Int) (hs:seed.length≤65536) (hn:0≤n):vc au (ai pM) Tryz.f57.ntmps (ag Tryz.f57) ⟨al 0 [.one (.ptr 1000 0),.one (.ob .int n)],aQ 1000 (RC seed v o k a S P),2000⟩ (bR au Tryz.f57.ntmps [.tmp 4] [.one (.sub 0 0 32)] [(0,.row 5 .u8 (aT seed n))] (RC seed v o k a S P) []):=by
 have hl:=fk seed n
 exact ⟨⟨hs,hn⟩,⟨⟨by decide,by show (32:Int)≤((aT seed n).length:Nat);omega⟩,trivial⟩,rfl,rfl,rfl,trivial⟩
set_option maxHeartbeats 4000000 in
theorem ze (seed:List UInt8) (v:Int) (o k:List Bool) (a:Nat) (S P I M:List UInt8) (n:Int) (hs:seed.length≤65536) (hn:0≤n):vc au (ai pM) Tryz.f57.ntmps (ag Tryz.f57) ⟨al 0 [.one (.ptr 1000 0),.one (.ob .int n)],aQ 1000 (j4 seed v o k a S P I M),2000⟩ (bR au Tryz.f57.ntmps [.tmp 4] [.one (.sub 0 0 32)] [(0,.row 5 .u8 (aT seed n))] (j4 seed v o k a S P I M) []):=by
 have hl:=fk seed n
 exact ⟨⟨hs,hn⟩,⟨⟨by decide,by show (32:Int)≤((aT seed n).length:Nat);omega⟩,trivial⟩,rfl,rfl,rfl,trivial⟩
def kf:fB:=fun l cs=>match l,cs with
 | [.one (.ptr 1000 0),.one (.ob .int n)],[.blk 84 [.rw 1001,.ob .int v,.cv (.pointer none),.cv (.slice none 0 0),.cv (.slice none 0 0),.rw 1002,.rw 1003],.row 5 .u8 seed,.row 4 .bool o,.row 4 .bool k]=>some ⟨[.one (.sub 0 0 32)],[(0,.row 5 .u8 (aT seed n))],[],some (seed.length≤65536∧0≤n)⟩
 |_,_=>none
def kg:fB:=fun l cs=>match l,cs with
 | [.one (.ptr 1000 0),.one (.ob .int n)],[.blk 84 [.rw 1001,.ob .int v,.ptr 1002 0,.cv (.slice none 0 0),.cv (.slice none 0 0),.rw 1003,.rw 1004],.row 5 .u8 seed,.blk 157 [.ob (.x 2) a,.sub 1005 32 32,.rw 1006],.row 4 .bool o,.row 4 .bool k,.row 5 .u8 S,.row 5 .u8 P]=>some ⟨[.one (.sub 0 0 32)],[(0,.row 5 .u8 (aT seed n))],[],some (seed.length≤65536∧0≤n)⟩
 |_,_=>none
def kh:fB:=fun l cs=>match l,cs with
 | [.one (.ptr 1000 0),.one (.ob .int n)],[.blk 84 [.rw 1001,.ob .int v,.ptr 1002 0,.sub 1003 0 32,.sub 1004 0 32,.rw 1005,.rw 1006],.row 5 .u8 seed,.blk 157 [.ob (.x 2) a,.sub 1007 32 32,.rw 1008],.row 5 .u8 I,.row 5 .u8 M,.row 4 .bool o,.row 4 .bool k,.row 5 .u8 S,.row 5 .u8 P]=>some ⟨[.one (.sub 0 0 32)],[(0,.row 5 .u8 (aT seed n))],[],some (seed.length≤65536∧0≤n)⟩
 |_,_=>none
def tX:fB:=Ny kf (Ny kg kh)
set_option maxHeartbeats 4000000 in
theorem Bi:sT au (ai pM) Tryz.f57.ntmps (ag Tryz.f57) [.tmp 4] kf:=fun l cs g h hp=>by
 unfold kf at h
 split at h
 ·cases h
  exact ⟨Nat.le_of_ble_eq_true rfl,rfl,rfl,rfl,zc _ _ _ _ _ hp.1 hp.2⟩
 ·cases h
set_option maxHeartbeats 4000000 in
theorem Bj:sT au (ai pM) Tryz.f57.ntmps (ag Tryz.f57) [.tmp 4] kg:=fun l cs g h hp=>by
 unfold kg at h
 split at h
 ·cases h
  exact ⟨Nat.le_of_ble_eq_true rfl,rfl,rfl,rfl,zd _ _ _ _ _ _ _ _ hp.1 hp.2⟩
 ·cases h
set_option maxHeartbeats 4000000 in
theorem Bk:sT au (ai pM) Tryz.f57.ntmps (ag Tryz.f57) [.tmp 4] kh:=fun l cs g h hp=>by
 unfold kh at h
 split at h
 ·cases h
  exact ⟨Nat.le_of_ble_eq_true rfl,rfl,rfl,rfl,ze _ _ _ _ _ _ _ _ _ _ hp.1 hp.2⟩
 ·cases h
theorem n5:ab 57 (iz tX):=aW aj PO Tryz.func57 (by kernel_rfl) rfl (rs:= [.tmp 4]) Tryz.results57 (sT.or Bi (sT.or Bj Bk))
set_option maxRecDepth 10000
def RV:List (Nat×CF):=(99,ap q_)::Ps
theorem Pt:∀p∈RV,ab p.1 p.2:=ae sy DM
theorem Sd:aq bF (ai RV):=aA aG (aS Pt)
theorem Cx {a b:Q4} {P Q:EP} (h:v9 a P) (h':v9 b Q):eQ a b=decide (P=Q):=by
 have:=vj h h'
 rwa [dW h,dW h'] at this
theorem pD (P:EP):kH (pp P.x P.y)=decide (Cp.mul 8 P=Cp.zero):=by
 have h:=jE (kB P) 8 (by decide +kernel)
 unfold kH
 rw [dW h]
 exact Cx h AA
theorem Lu (A R:EP) (s k:Nat) (hs:s<Lq) (hk:k<Lq):eQ (az (cl e_ (az (pp base.x base.y)) s 253)) (az (jg (az (pp R.x R.y)) (az (cl e_ (az (pp A.x A.y)) k 253)) e_))=decide (Cp.mul s base=Cp.add R (Cp.mul k A)):=by
 have h1:=jE (kB base) s hs
 have h2:=jE (kB A) k hk
 have h3:=kB R
 rw [dW h3,dW h2]
 exact vj h1 (lL h3 h2)
theorem li {b:List UInt8} (h:c9 b=0):ga b=pp (c_ b).x (c_ b).y:=if_pos h
theorem Ek {b:List UInt8} (h:c9 b=0):b.length=32:=by
 by_cases k:b.length=32
 ·exact k
 ·rw [(zQ k).2] at h;cases h
theorem QV {b:List UInt8} (h:GH b=0):b.length=32∧bo b<Lq∧CA b=bo b:=by
 cases e:QJ b with
 |false=>rw [GH,e] at h;cases h
 |true=>
  obtain ⟨h1,h2⟩:=of_decide_eq_true e
  exact ⟨h1,h2,by rw [CA,e];rfl⟩
theorem QW {b:List UInt8} (hl:b.length=32) (h:GH b≠0):¬bo b<Lq:=fun k=>h (AG ⟨hl,k⟩).2
theorem Hu (pub sig:List UInt8) (q:List (List UInt8)) (hq:q.flatten.length≤8388000):vc bF (ai RV) Tryz.f48.ntmps (ag Tryz.f48) ⟨al 0 [.one (.ro .u8 pub),.one (.ro .u8 sig),.one (.bb q)],[],2000⟩ (aD bF Tryz.f48.ntmps [.tmp 6] [.one (.ob .int (fz pub sig q.flatten))] []):=by
 refine ⟨fun h1=> ?_,fun h1=> ?_⟩
 ·refine ⟨h1,?_,trivial⟩
  show [fz pub sig q.flatten]= [12]
  rw [fz,if_neg (of_decide_eq_true h1)]
 have c1:c9 pub=0:=Decidable.not_not.1 (of_decide_eq_false h1)
 have l1:=Ek c1
 refine ⟨h1,fun h2=> ?_,fun h2=> ?_⟩
 ·refine ⟨?_,trivial⟩
  show [fz pub sig q.flatten]= [12]
  have h2:kH (ga pub)=true:=h2
  rw [li c1,pD] at h2
  rw [fz,if_pos c1,if_pos (of_decide_eq_true h2)]
 have c2:¬Cp.mul 8 (c_ pub)=Cp.zero:=by
  have h2:kH (ga pub)=false:=h2
  rw [li c1,pD] at h2
  exact of_decide_eq_false h2
 refine fun hl=>⟨fun h3=> ?_,fun h3=> ?_⟩
 ·refine ⟨?_,trivial⟩
  show [fz pub sig q.flatten]= [3]
  have h3:sig.length≠64:=by have:=of_decide_eq_true h3;omega
  rw [fz,if_pos c1,if_neg c2,if_neg h3]
 have c3:sig.length=64:=by have:=of_decide_eq_false h3;omega
 have l2:(sig.take 32).length=32:=by rw [List.length_take];omega
 have l3:(sig.drop 32).length=32:=by rw [List.length_drop];omega
 have s1:(32:Int)≤(sig.length:Nat):=by omega
 refine ⟨⟨⟨by decide,s1⟩,trivial⟩,fun h4=> ?_,fun h4=> ?_⟩
 ·refine ⟨?_,trivial⟩
  show [fz pub sig q.flatten]= [3]
  have h4:¬c9 (sig.take 32)=0:=of_decide_eq_true h4
  rw [fz,if_pos c1,if_neg c2,if_pos c3,if_neg h4]
 have c4:c9 (sig.take 32)=0:=Decidable.not_not.1 (of_decide_eq_false h4)
 refine ⟨⟨by decide,s1⟩,fun h5=> ?_,fun h5=> ?_⟩
 ·refine ⟨?_,trivial⟩
  show [fz pub sig q.flatten]= [3]
  have h5:¬GH (sig.drop 32)=0:=of_decide_eq_true h5
  rw [fz,if_pos c1,if_neg c2,if_pos c3,if_pos c4,if_neg (QW l3 h5)]
 have c5:GH (sig.drop 32)=0:=Decidable.not_not.1 (of_decide_eq_false h5)
 obtain ⟨_,c6,c7⟩:=QV c5
 have hc: [sig.take 32,pub,q.flatten].flatten.length≤8388608:=by
  rw [IX,List.length_append,List.length_append];omega
 have key:eQ (az (cl e_ (az (pp base.x base.y)) (CA (sig.drop 32)) 253)) (az (jg (az (ga (sig.take 32))) (az (cl e_ (az (ga pub)) (bL (aM [sig.take 32,pub,q.flatten].flatten)) 253)) e_))=decide (Cp.mul (bo (sig.drop 32)) base=Cp.add (c_ (sig.take 32)) (Cp.mul (bL (aM (sig.take 32++(pub++q.flatten)))) (c_ pub))):=by
  rw [li c4,li c1,Lu _ _ _ _ (Oi _) (jU _),c7,IX]
 refine ⟨⟨⟨by decide,s1⟩,trivial⟩,by show q.flatten.length≤16777216;omega,hc,fun h6=> ?_,fun h6=> ?_⟩
 ·refine ⟨?_,trivial⟩
  show [fz pub sig q.flatten]= [3]
  replace h6:(!eQ (az (cl e_ (az (pp base.x base.y)) (CA (sig.drop 32)) 253)) (az (jg (az (ga (sig.take 32))) (az (cl e_ (az (ga pub)) (bL (aM [sig.take 32,pub,q.flatten].flatten)) 253)) e_)))=true:=h6
  rw [key] at h6
  rw [fz,if_pos c1,if_neg c2,if_pos c3,if_pos c4,if_pos c6,if_neg fun k=>by rw [decide_eq_true k] at h6;cases h6]
 ·refine ⟨?_,trivial⟩
  show [fz pub sig q.flatten]= [0]
  replace h6:(!eQ (az (cl e_ (az (pp base.x base.y)) (CA (sig.drop 32)) 253)) (az (jg (az (ga (sig.take 32))) (az (cl e_ (az (ga pub)) (bL (aM [sig.take 32,pub,q.flatten].flatten)) 253)) e_)))=false:=h6
  rw [key] at h6
  rw [fz,if_pos c1,if_neg c2,if_pos c3,if_pos c4,if_pos c6,if_pos (of_decide_eq_true (by simpa using h6))]
def rh:GF:=fun l=>match l with
 | [.one (.ro .u8 pub),.one (.ro .u8 sig),.one (.bb q)]=>some ⟨[.one (.ob .int (fz pub sig q.flatten))],[],some (q.flatten.length≤8388000)⟩
 |_=>none
theorem sN:ab 48 (ap rh):=af aG Sd Tryz.func48 (by kernel_rfl) rfl (rs:= [.tmp 6]) Tryz.results48 fun l g h hp=>by
 unfold rh at h
 split at h
 ·cases h;exact ⟨Nat.le_of_ble_eq_true rfl,rfl,rfl,rfl,Hu _ _ _ hp⟩
 ·cases h
set_option maxRecDepth 10000
theorem Pz:aq bF (ai []):=aA aG (aS fun p hp=>by cases hp)
def eX (c:List UInt8) (i:Nat):Nat→Nat
 |0=>0
 |k+1=>eX c i k+cG c (12*i+k)*2^k
theorem rK (c:List UInt8) (i:Nat):∀k,eX c i k<2^k
 |0=>by simp [eX]
 |k+1=>by
  have h:=rK c i k
  have hb:=zB c (12*i+k)
  rw [eX,Nat.pow_succ]
  have:cG c (12*i+k)=0∨cG c (12*i+k)=1:=by omega
  rcases this with e|e<;>rw [e]<;>omega
theorem J1 (c:List UInt8) (i k:Nat) (hk:k<12):UInt16.ofNat (eX c i k)|||KF (r8 (c.getD ((12*i+k)/8) 0) ((12*i+k)%8)&&&1).toUInt16 k=UInt16.ofNat (eX c i (k+1)):=by
 have h:=rK c i k
 have h2:=rK c i (k+1)
 have hb:=zB c (12*i+k)
 have hp:2^k≤2^11:=Nat.pow_le_pow_right (by omega) (by omega)
 have hp2:2^(k+1)≤2^12:=Nat.pow_le_pow_right (by omega) (by omega)
 refine UInt16.toNat_inj.1 ?_
 rw [UInt16.toNat_or,KF,UInt16.toNat_ofNat',UInt16.toNat_ofNat',UInt16.toNat_ofNat',UInt8.toNat_toUInt16,Gr,←cG]
 rw [Nat.mod_eq_of_lt (show eX c i k<2^16 by omega),Nat.mod_eq_of_lt (show eX c i (k+1)<2^16 by omega),eX]
 have:cG c (12*i+k)=0∨cG c (12*i+k)=1:=by omega
 rcases this with e|e
 ·rw [e,Nat.zero_mul,Nat.zero_mod,Nat.or_zero,Nat.add_zero]
 ·rw [e,Nat.one_mul,Nat.mod_eq_of_lt (show 2^k<2^16 by omega),Nat.or_comm]
  have h4:=Nat.shiftLeft_add_eq_or_of_lt h 1
  rw [Nat.shiftLeft_eq,Nat.one_mul] at h4
  omega
def Pe (c:List UInt8) (i:Nat):UInt16:=UInt16.ofNat (eX c i 12)
abbrev KQ (c:List UInt8) (i:Nat):List UInt16:=bu 0 256 (Pe c) (List.replicate 256 0) i
theorem G1 (c:List UInt8) {i:Nat} (h:i<256):(KQ c i).set i (UInt16.ofNat (eX c i 0))=KQ c i:=by
 apply List.ext_getElem (by simp)
 intro j h1 h2
 rw [List.getElem_set]
 split
 ·rename_i e
  subst e
  simp only [bu,List.getElem_map,List.getElem_range]
  rw [if_neg (Nat.lt_irrefl _),List.getD_eq_getElem?_getD,List.getElem?_replicate]
  split<;>rfl
 ·rfl
theorem Ht (b:List UInt8) (hb:384≤b.length):vc bF (ai []) Tryz.f183.ntmps (ag Tryz.f183) ⟨al 0 [.one (.ob .int 12),.one (.ro .u8 b)],[],2000⟩ (aD bF Tryz.f183.ntmps [.cell 4 141] [.agg [.vec .u16 256 ((List.range 256).map (Pe b))]] []):=by
 refine Or.inr ⟨{i:Nat // i≤256},fun i=>⟨[(8,.one (.ob .int (i.val:Int)))],[(2000,.blk 141 [.vec .u16 256 (KQ b i.val)])]⟩,fun i=>256-i.val,⟨0,by omega⟩,?_⟩
 refine ⟨rfl,rfl,dl (by simp),fun i=>⟨fun h1=> ?_,fun h1=> ?_⟩⟩
 ·have h1:=of_decide_eq_true h1
  have hi:=i.2
  refine Or.inr ⟨{k:Nat // k≤12},fun k=>⟨[(12,.one (.ob .int (k.val:Int)))],[(2000,.blk 141 [.vec .u16 256 ((KQ b i.val).set i.val (UInt16.ofNat (eX b i.val k.val)))])]⟩,fun k=>12-k.val,⟨0,by omega⟩,?_⟩
  refine ⟨rfl,rfl,G1 b (by omega),fun k=>⟨fun h2=> ?_,fun h2=> ?_⟩⟩
  ·have h2:=of_decide_eq_true h2
   have hk:=k.2
   repeat refine sd ?_
   refine sj ⟨k.val+1,by omega⟩<|sr<|sr ⟨?_,trivial⟩
   have e1:((i.val:Int)*12+(k.val:Int))/8=(((12*i.val+k.val)/8:Nat):Int):=by omega
   have e2:((i.val:Int)*12+(k.val:Int))%8=(((12*i.val+k.val)%8:Nat):Int):=by omega
   have e3:((KQ b i.val).set i.val (UInt16.ofNat (eX b i.val k.val))).getD (i.val:Int).toNat 0=UInt16.ofNat (eX b i.val k.val):=by
    rw [Int.toNat_natCast,List.getD_eq_getElem?_getD,List.getElem?_set_self (by rw [ui];omega)]
    rfl
   have e4:=J1 b i.val k.val (by omega)
   show (KQ b i.val).set i.val (UInt16.ofNat (eX b i.val (k.val+1)))=((KQ b i.val).set i.val (UInt16.ofNat (eX b i.val k.val))).set (i.val:Int).toNat (((KQ b i.val).set i.val (UInt16.ofNat (eX b i.val k.val))).getD (i.val:Int).toNat 0|||KF (r8 (b.getD (((i.val:Int)*12+(k.val:Int))/8).toNat 0) (((i.val:Int)*12+(k.val:Int))%8).toNat&&&1).toUInt16 (k.val:Int).toNat)
   rw [e3,e1,e2,Int.toNat_natCast,Int.toNat_natCast,Int.toNat_natCast,Int.toNat_natCast,e4,List.set_set]
  ·have h2:=of_decide_eq_false h2
   have hk:=k.2
   rw [show k.val=12 by omega]
   repeat refine sd ?_
   exact sj ⟨i.val+1,by omega⟩<|sr<|sr ⟨bq.symm,trivial⟩
 ·have h1:=of_decide_eq_false h1
  have hi:=i.2
  rw [show i.val=256 by omega,show KQ b 256=(List.range 256).map (Pe b) from b9 (by omega)]
  exact ⟨rfl,rfl,trivial⟩
def rg:GF:=fun l=>match l with
 | [.one (.ob .int d),.one (.ro .u8 b)]=>some ⟨[.agg [.vec .u16 256 ((List.range 256).map (Pe b))]],[],some (d=(12:Int)∧384≤b.length)⟩
 |_=>none
theorem sL:ab 183 (ap rg):=af aG Pz Tryz.func183 (by kernel_rfl) rfl (rs:= [.cell 4 141]) Tryz.results183 fun l g h hp=>by
 unfold rg at h
 split at h
 ·cases h
  obtain ⟨h1,h2⟩:=hp
  subst h1
  exact ⟨Nat.le_of_ble_eq_true rfl,rfl,rfl,rfl,Ht _ h2⟩
 ·cases h
def eg (f:List UInt16):Bool:=(List.range 256).all fun i=>decide ((f.getD i 0).toNat<3329)
theorem Rc (f:List UInt16):vc bF (ai []) Tryz.f109.ntmps (ag Tryz.f109) ⟨al 0 [.agg [.vec .u16 256 f]],[],2000⟩ (aD bF Tryz.f109.ntmps [.tmp 2] [.one (.ob .bool (eg f))] []):=by
 refine Or.inr ⟨{i:Nat // i≤256∧∀j,j<i→(f.getD j 0).toNat<3329},fun i=>⟨[(6,.one (.ob .int (i.val:Int)))],[]⟩,fun i=>256-i.val,⟨0,by omega,fun j hj=>by omega⟩,?_⟩
 refine ⟨rfl,fun i=>⟨fun h1=> ?_,fun h1=> ?_⟩⟩
 ·have h1:=of_decide_eq_true h1
  obtain ⟨i,hi,hall⟩:=i
  dsimp only at h1 ⊢
  repeat refine sd ?_
  refine ⟨fun h2=> ?_,fun h2=> ?_⟩
  ·have h2:UInt16.ofNat 3329≤f.getD (i:Int).toNat 0:=of_decide_eq_true h2
   refine ⟨?_,trivial⟩
   show [eg f]= [false]
   refine congrArg (fun z=> [z]) ?_
   unfold eg
   rw [List.all_eq_false]
   refine ⟨i,List.mem_range.2 (by omega),?_⟩
   have:(3329:Nat)≤(f.getD i 0).toNat:=h2
   simp only [decide_eq_true_eq]
   omega
  ·have h2:¬UInt16.ofNat 3329≤f.getD (i:Int).toNat 0:=of_decide_eq_false h2
   have h3:(f.getD i 0).toNat<3329:=Nat.lt_of_not_le h2
   repeat refine sd ?_
   have hnew:∀j,j<i+1→(f.getD j 0).toNat<3329:=fun j hj=>by
    by_cases e:j<i
    ·exact hall j e
    ·rw [show j=i by omega];exact h3
   exact ⟨⟨i+1,by omega,hnew⟩,(by show 256-(i+1)<256-i;omega),by rfl,trivial⟩
 ·have h1:=of_decide_eq_false h1
  obtain ⟨i,hi,hall⟩:=i
  dsimp only at h1
  refine ⟨?_,trivial⟩
  show [eg f]= [true]
  refine congrArg (fun z=> [z]) ?_
  unfold eg
  rw [List.all_eq_true]
  intro j hj
  rw [List.mem_range] at hj
  exact decide_eq_true (hall j (by omega))
def Nx:GF:=fun l=>match l with
 | [.agg [.vec .u16 256 f]]=>some ⟨[.one (.ob .bool (eg f))],[],none⟩
 |_=>none
theorem BO:ab 109 (ap Nx):=af aG Pz Tryz.func109 (by kernel_rfl) rfl (rs:= [.tmp 2]) Tryz.results109 fun l g h hp=>by
 unfold Nx at h
 split at h
 ·cases h;exact ⟨Nat.le_of_ble_eq_true rfl,rfl,rfl,rfl,Rc _⟩
 ·cases h
def Rs:List (Nat×CF):= [(109,ap Nx),(183,ap rg)]
theorem Lz:∀p∈Rs,ab p.1 p.2:=ae BO<|ae sL fun p hp=>by cases hp
theorem RZ:aq bF (ai Rs):=aA aG (aS Lz)
def ek (b:List UInt8) (i:Nat):List UInt16:=(List.range 256).map (Pe (b.drop (384*i)))
theorem FG {n m:Nat} (h:n≤m):yc (some (.lit (Int.ofNat n))) m:=⟨Int.natCast_nonneg _,Int.ofNat_le.2 h⟩
theorem Lg (b:List UInt8) (hb:1152≤b.length):vc bF (ai Rs) Tryz.f108.ntmps (ag Tryz.f108) ⟨al 0 [.one (.ro .u8 b)],[],2000⟩ (aD bF Tryz.f108.ntmps [.cell 2 143] [.agg [.vec .u16 256 (ek b 0),.vec .u16 256 (ek b 1),.vec .u16 256 (ek b 2)]] []):=by
 refine Or.inl ⟨4,?_⟩
 have hd:∀i,(b.drop i).length=b.length-i:=fun i=>List.length_drop
 have hc:∀i,i≤768→384≤(b.drop i).length:=fun i hi=>by rw [hd];omega
 have l1:384≤b.length:=by omega
 have l2:768≤b.length:=by omega
 exact ⟨FG (n:=0) (Nat.zero_le _),⟨rfl,hc 0 (by omega)⟩,FG (n:=384) l1,⟨rfl,hc 384 (by omega)⟩,FG (n:=768) l2,⟨rfl,hc 768 (by omega)⟩,rfl,rfl,rfl,rfl,rfl,rfl,trivial⟩
def xB:GF:=fun l=>match l with
 | [.one (.ro .u8 b)]=>some ⟨[.agg [.vec .u16 256 (ek b 0),.vec .u16 256 (ek b 1),.vec .u16 256 (ek b 2)]],[],some (1152≤b.length)⟩
 |_=>none
theorem vb:ab 108 (ap xB):=af aG RZ Tryz.func108 (by kernel_rfl) rfl (rs:= [.cell 2 143]) Tryz.results108 fun l g h hp=>by
 unfold xB at h
 split at h
 ·cases h;exact ⟨Nat.le_of_ble_eq_true rfl,rfl,rfl,rfl,Lg _ hp⟩
 ·cases h
def RS:List (Nat×CF):=(108,ap xB)::Rs
theorem Pk:∀p∈RS,ab p.1 p.2:=ae vb Lz
theorem R4:aq bF (ai RS):=aA aG (aS Pk)
def tw (b:List UInt8):Int:=if b.length=1184 then (if eg (ek b 0)=true then (if eg (ek b 1)=true then (if eg (ek b 2)=true then 0 else 2) else 2) else 2) else 1
theorem KZ (b:List UInt8):vc bF (ai RS) Tryz.f51.ntmps (ag Tryz.f51) ⟨al 0 [.one (.ro .u8 b)],[],2000⟩ (aD bF Tryz.f51.ntmps [.tmp 2] [.one (.ob .int (tw b))] []):=by
 refine fun _=>⟨fun h=> ?_,fun h=> ?_⟩
 ·have h1:b.length≠1184:=by have:=of_decide_eq_true h;omega
  refine ⟨?_,trivial⟩
  show [tw b]= [1]
  rw [tw,if_neg h1]
 have h1:b.length=1184:=by have:=of_decide_eq_false h;omega
 refine ⟨by show 1152≤b.length;omega,Or.inl ⟨4,fun h2=> ?_,fun h2=>⟨fun h3=> ?_,fun h3=>⟨fun h4=> ?_,fun h4=> ?_⟩⟩⟩⟩
 ·refine ⟨?_,trivial⟩
  show [tw b]= [2]
  have h2:(!eg (ek b 0))=true:=h2
  rw [tw,if_pos h1,if_neg (by simpa using h2)]
 ·refine ⟨?_,trivial⟩
  show [tw b]= [2]
  have h2:(!eg (ek b 0))=false:=h2
  have h3:(!eg (ek b 1))=true:=h3
  rw [tw,if_pos h1,if_pos (by simpa using h2),if_neg (by simpa using h3)]
 ·refine ⟨?_,trivial⟩
  show [tw b]= [2]
  have h2:(!eg (ek b 0))=false:=h2
  have h3:(!eg (ek b 1))=false:=h3
  have h4:(!eg (ek b 2))=true:=h4
  rw [tw,if_pos h1,if_pos (by simpa using h2),if_pos (by simpa using h3),if_neg (by simpa using h4)]
 ·refine ⟨?_,trivial⟩
  show [tw b]= [0]
  have h2:(!eg (ek b 0))=false:=h2
  have h3:(!eg (ek b 1))=false:=h3
  have h4:(!eg (ek b 2))=false:=h4
  rw [tw,if_pos h1,if_pos (by simpa using h2),if_pos (by simpa using h3),if_pos (by simpa using h4)]
def xc:GF:=fun l=>match l with
 | [.one (.ro .u8 b)]=>some ⟨[.one (.ob .int (tw b))],[],none⟩
 |_=>none
theorem tv:ab 51 (ap xc):=af aG R4 Tryz.func51 (by kernel_rfl) rfl (rs:= [.tmp 2]) Tryz.results51 fun l g h hp=>by
 unfold xc at h
 split at h
 ·cases h;exact ⟨Nat.le_of_ble_eq_true rfl,rfl,rfl,rfl,KZ _⟩
 ·cases h
set_option maxRecDepth 10000
structure Bn where
 sign:List UInt8
 ident:List UInt8
 medium:List UInt8
 medsig:List UInt8
 onceId:Int
 once:List UInt8
 kemId:Int
 kem:List UInt8
 kemsig:List UInt8
 last:Bool
 version:Int
@[reducible] def Bn.av (B:Bn):AV:= .agg [.ro .u8 B.sign,.ro .u8 B.ident,.ro .u8 B.medium,.ro .u8 B.medsig,.ob .int B.onceId,.ro .u8 B.once,.ob .int B.kemId,.ro .u8 B.kem,.ro .u8 B.kemsig,.ob .bool B.last,.ob .int B.version]
@[reducible] def Bn.nv (B:Bn):AV:= .agg [.rw 1000,.rw 1001,.rw 1002,.rw 1003,.ob .int B.onceId,.rw 1004,.ob .int B.kemId,.rw 1005,.rw 1006,.ob .bool B.last,.ob .int B.version]
def Bn.nm (B:Bn):Nat→Option (List UInt8)
 |1000=>some B.sign|1001=>some B.ident|1002=>some B.medium|1003=>some B.medsig|1004=>some B.once|1005=>some B.kem|1006=>some B.kemsig
 |_=>none
def Mj (S':AS) (ex:Nat→Option (List UInt8)):Cl→List UInt8→Prop
 | .rw c,l=>match aI S'.hp c with |some (.row _ .u8 m)=>l=m|some _=>False|none=>ex c=some l
 | .sub c lo n,l=>match aI S'.hp c with |some (.row _ .u8 m)=>l=(m.drop lo).take n|_=>False
 |_,_=>False
def lF (S':AS) (ex:Nat→Option (List UInt8)):List Cl→List (List UInt8)→Prop
 | [],[]=>True
 |x::r,l::q=>Mj S' ex x l∧lF S' ex r q
 |_,_=>False
def Gz (t:Nat) (ls:List (List UInt8)) (ex:Nat→Option (List UInt8)):KK:=fun e S'=>match e with
 | .exit _=>False
 |_=>match bH S'.sl t with
  | [.one (.sl b 0 m c)]=>match aI S'.hp b with
   |some (.blk _ l)=>m=ls.length∧c≤16777216∧lF S' ex l ls
   |_=>False
  |_=>False
def Bm (P:Bn→Option Prop) (R:Bn→List (List UInt8)):CF:=fun _ args=>match args with
 | [.agg [.ro .u8 a,.ro .u8 b,.ro .u8 c,.ro .u8 d,.ob .int e,.ro .u8 f,.ob .int g,.ro .u8 h,.ro .u8 i,.ob .bool j,.ob .int k]]=> .pure ⟨[.one (.bb (R ⟨a,b,c,d,e,f,g,h,i,j,k⟩))],[],P ⟨a,b,c,d,e,f,g,h,i,j,k⟩,none⟩
 |_=> .fail
section
variable {ty:Nat→TE} {ct:Nat→Option CF}
theorem bn.still {H:Nat→Option Ch} {η:a8} {w w':World} {nx:Nat} (hH:bY H η w) (hb:Below w.heap.size w w') {out:List AV} {v:Value} {pre:Option Prop} (ho:bG η (ay H η) w' out v):bn H η w nx ⟨out,[],pre,none⟩ v w' η:=by
 have hfw:Fw H η w H η w':=⟨hb.os,hb.tape,hb.output,hb.size,fun _ _ h=>h,fun g hg ha=>⟨hb.block g hg,ha⟩⟩
 exact ⟨ho,⟨fun b c hbc=>(hH.chunk b c hbc).later hfw.lt fun g hg=>hb.block g (Af hH (fun h0=>by have hbc:H b=some c:=hbc;rw [h0] at hbc;cases hbc) hg),hH.apart⟩,hfw,fun _ _=>rfl,trivial⟩
theorem AT {S':AS} {ex:Nat→Option (List UInt8)} {η':a8} {A A':Nat→Prop} {w':World} (hch:∀b c,aI S'.hp b=some c→c.H η' A' w' b) (hA:∀b g,aI S'.hp b≠none→bg η' b=some g→A g) (hex:∀c l,ex c=some l→∃v,η' c=some v∧eS A w' .u8 l v):
  ∀ {l:List Cl} {ls:List (List UInt8)} {cs:List Value},lF S' ex l ls→aO η' A' w' l cs→cs.length=ls.length∧∀i (h:i<ls.length) (h':i<cs.length),eS A w' .u8 ls[i] cs[i]
 | [],[],cs,_,hc=>by cases hc;exact ⟨rfl,fun i h=>(by cases h)⟩
 | [],_::_,_,h,_=>h.elim
 |_::_,[],_,h,_=>h.elim
 |x::r,l::q,cs,⟨h1,h2⟩,⟨c1,t,e,hx,hr⟩=>by
  obtain ⟨g1,g2⟩:=AT hch hA hex h2 hr
  have key:∃v,c1= [v]∧eS A w' .u8 l v:=by
   unfold Mj at h1
   split at h1
   ·rename_i c _
    obtain ⟨v,e1,e2,_⟩:=hx
    refine ⟨v,e2,?_⟩
    split at h1
    ·rename_i E m hm
     subst h1
     obtain ⟨v',e3,hR⟩:=sp (hch _ _ hm) (A':=A) fun g hg=>hA _ g (by rw [hm];simp) hg
     rw [e1] at e3;cases e3
     exact hR
    ·exact h1.elim
    ·obtain ⟨v',e3,hR⟩:=hex _ _ h1
     rw [e1] at e3;cases e3
     exact hR
   ·rename_i c lo n _
    split at h1
    ·rename_i E m hm
     subst h1
     exact sH rfl (hch _ _ hm) hx (A':=A) fun g hg=>hA _ g (by rw [hm];simp) hg
    ·exact h1.elim
   ·exact h1.elim
  obtain ⟨v,rfl,hR⟩:=key
  subst e
  refine ⟨by simp [g1],fun i hi hi'=> ?_⟩
  cases i with
  |zero=>exact hR
  |succ i=>exact g2 i (by simpa using hi) (by simpa using hi')
theorem lY (hO : aq ty ct) {f : Nat} {fn : Func} {c : Code} {t : Nat} (hf : Tryz.prog.funcs[f]? = some fn) (hn : (fn.name == "runtime.NumGoroutine") = false) (hb : fn.body = some c) (hr : fn.results = #[.tmp t]) (hN : 1 ≤ fn.ntmps) {P : Bn → Option Prop} {R : Bn → List (List UInt8)}
  (hG:∀B,aY (P B)→vc ty ct fn.ntmps c ⟨al 0 [B.nv],[],2000⟩ (Gz t (R B) B.nm)):ab f (Bm P R):=by
 refine ⟨⟨fn,c,hf,hn,hb⟩,fun nx args sl H ds res rd qs h hq hp η w vs hH hv hfree=> ?_⟩
 unfold Bm at h
 split at h
 ·rename_i s1 s2 s3 s4 i1 s5 i2 s6 s7 la ve
  have:=aC h
  subst this
  obtain ⟨v,_,rfl,⟨cs,rfl,⟨_,_,e0,⟨v0,rfl,r0⟩,_,_,e1,⟨v1,rfl,r1⟩,_,_,e2,⟨v2,rfl,r2⟩,_,_,e3,⟨v3,rfl,r3⟩,_,_,e4,h4,_,_,e5,⟨v4,rfl,r4⟩,_,_,e6,h6,_,_,e7,⟨v5,rfl,r5⟩,_,_,e8,⟨v6,rfl,r6⟩,_,_,e9,h9,_,_,ea,ha,rfl⟩,hone⟩,rfl⟩:=hv
  cases (show _= [Value.int .i64 i1] from h4)
  cases (show _= [Value.int .i64 i2] from h6)
  cases (show _= [Value.bool la] from h9)
  cases (show _= [Value.int .i64 ve] from ha)
  subst ea e9 e8 e7 e6 e5 e4 e3 e2 e1 e0
  let η0:a8:=fun b=>if b=1000 then some v0 else if b=1001 then some v1 else if b=1002 then some v2 else if b=1003 then some v3 else if b=1004 then some v4 else if b=1005 then some v5 else if b=1006 then some v6 else none
  have hsl:∀ {k:Kd} {l:List k.T} {v:Value} {A:Nat→Prop},eS A w k l v→v.oneCell'=true:=fun ⟨_,_,e,_⟩=>by rw [e];rfl
  have hv0:bp η0 (ay (aI []) η0) w [Bn.nv ⟨s1,s2,s3,s4,i1,s5,i2,s6,s7,la,ve⟩] _:=⟨_,[],rfl,⟨_,rfl,⟨_,_,rfl,⟨v0,rfl,rfl,hsl r0⟩,_,_,rfl,⟨v1,rfl,rfl,hsl r1⟩,_,_,rfl,⟨v2,rfl,rfl,hsl r2⟩,_,_,rfl,⟨v3,rfl,rfl,hsl r3⟩,_,_,rfl,rfl,_,_,rfl,⟨v4,rfl,rfl,hsl r4⟩,_,_,rfl,rfl,_,_,rfl,⟨v5,rfl,rfl,hsl r5⟩,_,_,rfl,⟨v6,rfl,rfl,hsl r6⟩,_,_,rfl,rfl,_,_,rfl,rfl,rfl⟩,hone⟩,rfl⟩
  generalize ([v0]++([v1]++([v2]++([v3]++([Value.int .i64 i1]++([v4]++([Value.int .i64 i2]++([v5]++([v6]++([Value.bool la]++([Value.int .i64 ve]++ [])))))))))))=cs at hv0
  generalize hB:(⟨s1,s2,s3,s4,i1,s5,i2,s6,s7,la,ve⟩:Bn)=B at hv0 hp ⊢
  refine calls_of_wp hf hb ?_
  obtain ⟨hvl,hsl0⟩:=lx (i:=0) hv0
  have hS:pQ fn.ntmps ⟨al 0 [B.nv],[],2000⟩ η0 {tmps:= #[.agg cs.toArray]++Array.replicate (fn.ntmps-1) undef,defers:= []} w:=by
   refine ⟨⟨rfl,by simp;omega,fun t=> ?_,fun b c h=>(by cases h),fun b b' g _ h=>absurd rfl h⟩,fun b hb=> ?_⟩
   ·rcases hsl0 t with h|⟨x,v,h1,h2,h3,h4⟩
    ·show bG _ _ _ (bH (al 0 [B.nv]) t) _
     rw [h];trivial
    ·show bG _ _ _ (bH (al 0 [B.nv]) t) _
     rw [h1]
     have e:(#[.agg cs.toArray]++Array.replicate (fn.ntmps-1) undef:Array Value).getD t undef=v:=by
      rw [Array.getD_eq_getD_getElem?,Array.getElem?_append_left (by simp;have:=(List.getElem?_eq_some_iff.1 h3).1;simp at this;omega)]
      simp only [Nat.sub_zero] at h3
      rw [List.getElem?_toArray,h3];rfl
     show bG _ _ _ [x] (Array.getD _ t undef)
     rw [e]
     exact h4
   ·have hb:2000≤b:=hb
    show (if b=1000 then some v0 else if b=1001 then some v1 else if b=1002 then some v2 else if b=1003 then some v3 else if b=1004 then some v4 else if b=1005 then some v5 else if b=1006 then some v6 else none)=none
    rw [if_neg (by omega),if_neg (by omega),if_neg (by omega),if_neg (by omega),if_neg (by omega),if_neg (by omega),if_neg (by omega)]
  refine wp_mono (nO cV hO c _ _ (hG B hp) _ _ _ hS) fun e a' w' hP=> ?_
  obtain ⟨e',S',η',k1,k2,⟨hS',_⟩,hF,_,hE,_⟩:=hP
  have hbl:Below w.heap.size w w':=⟨hF.os,hF.tape,hF.output,hF.size,fun g hg=>(hF.anon g hg fun b hb=>absurd rfl hb).1⟩
  have hA:∀b g,aI S'.hp b≠none→bg η' b=some g→ay H η g:=fun b g hb hg=>by
   have hge:w.heap.size≤g:=by
    rcases Nat.lt_or_ge g w.heap.size with h|h
    ·exact absurd hg ((hF.anon g h fun b hb=>absurd rfl hb).2 b hb)
    ·exact h
   intro b2 hb2 hg2
   have:=Af hH hb2 hg2
   omega
  have hlt:Lt η (ay H η) w η (ay H η) w':=⟨fun _ _ h=>h,fun g hg ha=>⟨hbl.block g hg,ha⟩⟩
  have hex:∀c l,B.nm c=some l→∃v,η' c=some v∧eS (ay H η) w' .u8 l v:=fun c l hc=>by
   subst hB
   have hc2:c<2000→η' c=η0 c:=hE c
   unfold Bn.nm at hc
   split at hc<;>first |(cases hc;done)|skip
   all_goals (cases hc;rw [hc2 (by omega)])
   ·exact ⟨v0,rfl,r0.later hlt⟩
   ·exact ⟨v1,rfl,r1.later hlt⟩
   ·exact ⟨v2,rfl,r2.later hlt⟩
   ·exact ⟨v3,rfl,r3.later hlt⟩
   ·exact ⟨v4,rfl,r4.later hlt⟩
   ·exact ⟨v5,rfl,r5.later hlt⟩
   ·exact ⟨v6,rfl,r6.later hlt⟩
  have key:(match bH S'.sl t with
    | [.one (.sl b 0 m c)]=>match aI S'.hp b with
     |some (.blk _ l)=>m=(R B).length∧c≤16777216∧lF S' B.nm l (R B)
     |_=>False
    |_=>False)→a'.defers= []∧∃v,(results fn a'.tmps).run Tryz.prog w'= .ok v w'∧∃v' η'',Ending.returned v= .returned v'∧bn H η w nx ⟨[.one (.bb (R B))],[],P B,none⟩ v' w' η'':=fun hK=>by
   refine ⟨hS'.df,_,vi (rs:= [t]) hr a'.tmps w',_,η,rfl,bn.still hH hbl ?_⟩
   have hs:=hS'.slot t
   split at hK
   ·rename_i b m cc e1
    rw [e1] at hs
    obtain ⟨hmc,g,hg,hvv⟩:=hs
    split at hK
    ·rename_i E l e2
     obtain ⟨x1,x2,x3⟩:=hK
     obtain ⟨g',us,y1,y2,y3,y4⟩:=hS'.chunk b _ e2
     rw [hg] at y1
     cases y1
     obtain ⟨z1,z2⟩:=AT hS'.chunk hA hex x3 y3
     have hr0:=y2.range (q:=0) (n:=us.length)
     rw [List.drop_zero,List.take_length] at hr0
     exact ⟨some ⟨g,0,none⟩,cc,by rw [←x1];exact hvv,by omega,by simp only [maxLen];omega,fun h=>(by cases h),fun _=>⟨g,0,us,rfl,hA b g (by rw [e2];simp) (by unfold bg;rw [hg];rfl),hr0,z1,z2⟩⟩
    ·exact hK.elim
   ·exact hK.elim
  cases e with
  |normal=>cases k1;exact key k2
  |ret=>cases k1;exact key k2
  |exit id=>cases k1;exact k2.elim
  |panic c=>cases k1
  |outgrown=>cases k1
  |goto l=>cases k1
 ·cases h
end
set_option maxRecDepth 10000
def wW (b:Bool):UInt8:=match b with |true=>1|false=>0
theorem Oy (b:Bool):vc bF (ai []) Tryz.f73.ntmps (ag Tryz.f73) ⟨al 0 [.one (.ob .bool b)],[],2000⟩ (aD bF Tryz.f73.ntmps [.tmp 2] [.one (.ob .u8 (wW b))] []):=by
 refine ⟨fun h=> ?_,fun h=> ?_⟩
 ·cases (show b=true from h)
  exact ⟨rfl,trivial⟩
 ·cases (show b=false from h)
  exact ⟨rfl,trivial⟩
def z9:GF:=fun l=>match l with
 | [.one (.ob .bool b)]=>some ⟨[.one (.ob .u8 (wW b))],[],none⟩
 |_=>none
theorem mn:ab 73 (ap z9):=af aG Py Tryz.func73 (by kernel_rfl) rfl (rs:= [.tmp 2]) Tryz.results73 fun l g h hp=>by
 unfold z9 at h
 split at h
 ·cases h;exact ⟨Nat.le_of_ble_eq_true rfl,rfl,rfl,rfl,Oy _⟩
 ·cases h
def Ph:List (Nat×CF):= [(107,ap mE),(73,ap z9)]
theorem Pi:∀p∈Ph,ab p.1 p.2:=ae gM<|ae mn fun p hp=>by cases hp
theorem MG:aq bF (ai Ph):=aA aG (aS Pi)
def vB (B:Bn):UInt8:=UInt8.ofNat B.version.toNat
def BP (B:Bn):List (List UInt8):= [[UInt8.ofNat 1,vB B],B.medium]
def JJ (n:Int):List UInt8:=((fD (UInt32.ofNat n.toNat).toUInt64).drop 4).take 4
def t_ (B:Bn):List (List UInt8):= [[UInt8.ofNat 2,vB B],JJ B.kemId,[wW B.last],B.kem]
theorem OE (B:Bn) (hv:0≤B.version):vc bF (ai Ph) Tryz.f49.ntmps (ag Tryz.f49) ⟨al 0 [B.nv],[],2000⟩ (Gz 2 (BP B) B.nm):=⟨hv,rfl,by decide,rfl,rfl,trivial⟩
theorem yg:ab 49 (Bm (fun B=>some (0≤B.version)) BP):=lY MG Tryz.func49 (by kernel_rfl) rfl (t:=2) Tryz.results49 (Nat.le_of_ble_eq_true rfl) fun B hp=>OE B hp
theorem OC (B:Bn) (hv:0≤B.version∧0≤B.kemId):vc bF (ai Ph) Tryz.f50.ntmps (ag Tryz.f50) ⟨al 0 [B.nv],[],2000⟩ (Gz 2 (t_ B) B.nm):=⟨hv.1,hv.2,rfl,by decide,rfl,rfl,rfl,rfl,trivial⟩
theorem x_:ab 50 (Bm (fun B=>some (0≤B.version∧0≤B.kemId)) t_):=lY MG Tryz.func50 (by kernel_rfl) rfl (t:=2) Tryz.results50 (Nat.le_of_ble_eq_true rfl) fun B hp=>OC B hp
def gQ (B:Bn):Bool:=match decide (B.version=1) with
 |true=>decide (B.kemId=0)&&decide ((B.kem.length:Int)=0)&&decide ((B.kemsig.length:Int)=0)&& !B.last
 |false=>decide (B.version=2)&&decide ((B.kem.length:Int)=1184)&&decide ((B.kemsig.length:Int)=64)&&decide (0≤B.kemId)&&(B.last ==decide (B.kemId=0))
theorem Rg (B:Bn):vc bF (ai Ph) Tryz.f47.ntmps (ag Tryz.f47) ⟨al 0 [B.av],[],2000⟩ (aD bF Tryz.f47.ntmps [.tmp 2] [.one (.ob .bool (gQ B))] []):=by
 refine ⟨fun h0=> ?_,fun h0=> ?_⟩
 ·refine ⟨fun h1=>⟨fun h2=>⟨fun h3=> ?_,fun h3=> ?_⟩,fun h2=> ?_⟩,fun h1=> ?_⟩
  ·refine ⟨h1,h2,h3,fun _ _=>⟨?_,trivial⟩⟩
   show [gQ B]= [_]
   rw [gQ,h0,h1,h2,h3];rfl
  ·refine ⟨h1,h2,h3,fun _ _=>⟨?_,trivial⟩⟩
   show [gQ B]= [_]
   rw [gQ,h0,h1,h2,h3];rfl
  ·refine ⟨h1,h2,fun _=>⟨?_,trivial⟩⟩
   show [gQ B]= [_]
   rw [gQ,h0,h1,h2];rfl
  ·refine ⟨h1,?_,trivial⟩
   show [gQ B]= [_]
   rw [gQ,h0,h1];rfl
 ·refine ⟨fun h1=>⟨fun h2=>⟨fun h3=>⟨fun h4=> ?_,fun h4=> ?_⟩,fun h3=> ?_⟩,fun h2=> ?_⟩,fun h1=> ?_⟩
  ·refine ⟨h1,h2,h3,h4,fun _ _=>⟨?_,trivial⟩⟩
   show [gQ B]= [_]
   rw [gQ,h0,h1,h2,h3,h4];rfl
  ·refine ⟨h1,h2,h3,h4,fun _ _=>⟨?_,trivial⟩⟩
   show [gQ B]= [_]
   rw [gQ,h0,h1,h2,h3,h4];rfl
  ·refine ⟨h1,h2,h3,fun _ _=>⟨?_,trivial⟩⟩
   show [gQ B]= [_]
   rw [gQ,h0,h1,h2,h3];rfl
  ·refine ⟨h1,h2,fun _=>⟨?_,trivial⟩⟩
   show [gQ B]= [_]
   rw [gQ,h0,h1,h2];rfl
  ·refine ⟨h1,?_,trivial⟩
   show [gQ B]= [_]
   rw [gQ,h0,h1];rfl
def ND:GF:=fun l=>match l with
 | [.agg [.ro .u8 a,.ro .u8 b,.ro .u8 c,.ro .u8 d,.ob .int e,.ro .u8 f,.ob .int g,.ro .u8 h,.ro .u8 i,.ob .bool j,.ob .int k]]=>some ⟨[.one (.ob .bool (gQ ⟨a,b,c,d,e,f,g,h,i,j,k⟩))],[],none⟩
 |_=>none
theorem CE:ab 47 (ap ND):=af aG MG Tryz.func47 (by kernel_rfl) rfl (rs:= [.tmp 2]) Tryz.results47 fun l g h hp=>by
 unfold ND at h
 split at h
 ·cases h;exact ⟨Nat.le_of_ble_eq_true rfl,rfl,rfl,rfl,Rg ⟨_,_,_,_,_,_,_,_,_,_,_⟩⟩
 ·cases h
def RQ:List (Nat×CF):= [(47,ap ND),(48,ap rh),(49,Bm (fun B=>some (0≤B.version)) BP),(50,Bm (fun B=>some (0≤B.version∧0≤B.kemId)) t_),(51,ap xc)]
theorem Pj:∀p∈RQ,ab p.1 p.2:=ae CE<|ae sN<|ae yg<|ae x_<|ae tv fun p hp=>by cases hp
theorem RY:aq bF (ai RQ):=aA aG (aS Pj)
set_option maxRecDepth 10000
def gU (B:Bn):Int:=match decide (0<B.onceId) with |true=>32|false=>0
def bZ (B:Bn):Bool:=match decide ((B.sign.length:Int)=32) with
 |false=>true
 |true=>match decide ((B.ident.length:Int)=32) with
  |false=>true
  |true=> !decide ((B.medium.length:Int)=32)||decide ((B.medsig.length:Int)≠64)||decide (B.onceId<0)||decide ((B.once.length:Int)≠gU B)|| !gQ B
def oB (B:Bn):Int:=fz B.sign B.medsig (BP B).flatten
def vI (B:Bn):Int:=fz B.sign B.kemsig (t_ B).flatten
def aU (B:Bn) (least:Int):Int:=match bZ B with
 |true=>1
 |false=>match decide (B.version<least) with
  |true=>4
  |false=>match decide (oB B≠0) with
   |true=>oB B
   |false=>match decide (B.version=1) with
    |true=>oB B
    |false=>match decide (vI B≠0) with
     |true=>vI B
     |false=>tw B.kem
theorem Mk {B:Bn} (h:gQ B=true):B.version=1∨(B.version=2∧0≤B.kemId∧B.kem.length=1184):=by
 unfold gQ at h
 split at h
 ·rename_i e;exact Or.inl (of_decide_eq_true e)
 ·simp only [Bool.and_eq_true,decide_eq_true_eq] at h
  exact Or.inr ⟨h.1.1.1.1,h.1.2,by omega⟩
set_option maxHeartbeats 4000000 in
theorem OT (B:Bn) (least:Int):vc bF (ai RQ) Tryz.f16.ntmps (ag Tryz.f16) ⟨al 0 [B.av,.one (.ob .int least)],[],2000⟩ (aD bF Tryz.f16.ntmps [.tmp 4] [.one (.ob .int (aU B least))] []):=by
 refine ⟨fun h0=> ?_,fun h0=> ?_⟩
 ·have hw:gU B=32:=by rw [gU,h0]
  refine ⟨fun h1=>⟨fun h2=>⟨h1,h2,fun _ _ hmed=>⟨fun h3=> ?_,fun h3=> ?_⟩⟩,fun h2=> ?_⟩,fun h1=> ?_⟩
  ·refine ⟨h3,?_,trivial⟩
   have hb:bZ B=true:=by rw [bZ,h1,h2,h3];try rfl
   show [aU B least]= [_]
   rw [aU,hb]
  ·refine ⟨fun h4=> ?_,fun h4=>⟨fun h5=> ?_,fun h5=>⟨fun h6=> ?_,fun h6=> ?_⟩⟩⟩
   ·refine ⟨h3,h4,fun _=>⟨?_,trivial⟩⟩
    have hb:bZ B=true:=by rw [bZ,h1,h2,h3,h4];try rfl
    show [aU B least]= [_]
    rw [aU,hb]
   ·refine ⟨h3,h4,h5,fun _=>⟨?_,trivial⟩⟩
    have hb:bZ B=true:=by rw [bZ,h1,h2,h3,h4,h5];try rfl
    show [aU B least]= [_]
    rw [aU,hb]
   ·refine ⟨h3,h4,h5,h6,fun _ _=>⟨?_,trivial⟩⟩
    have hb:bZ B=true:=by rw [bZ,h1,h2,h3,h4,h5,hw,h6];try rfl
    show [aU B least]= [_]
    rw [aU,hb]
   ·refine ⟨h3,h4,h5,h6,fun _ _=>⟨fun h7=> ?_,fun h7=> ?_⟩⟩
    ·refine ⟨?_,trivial⟩
     have hb:bZ B=true:=by rw [bZ,h1,h2,h3,h4,h5,hw,h6,h7];try rfl
     show [aU B least]= [_]
     rw [aU,hb]
    ·have hb:bZ B=false:=by rw [bZ,h1,h2,h3,h4,h5,hw,h6,h7];rfl
     have hs:gQ B=true:=by simpa using h7
     have hv:=Mk hs
     refine ⟨fun h8=> ?_,fun h8=> ?_⟩
     ·refine ⟨?_,trivial⟩
      show [aU B least]= [_]
      rw [aU,hb,h8]
     have v0:0≤B.version:=by omega
     have hm:(BP B).flatten.length≤8388000:=by
      show ([UInt8.ofNat 1,vB B]++(B.medium++ [])).length≤8388000
      have:B.medium.length=32:=by have:=of_decide_eq_true (show decide ((B.medium.length:Int)=32)=true by simpa using h3);omega
      simp [this]
     refine ⟨v0,hm,fun h9=> ?_,fun h9=>⟨h9,fun h10=> ?_,fun h10=> ?_⟩⟩
     ·refine ⟨h9,?_,trivial⟩
      show [aU B least]= [_]
      have h9:decide (oB B≠0)=true:=h9
      rw [aU,hb,h8,h9];rfl
     ·refine ⟨?_,trivial⟩
      show [aU B least]= [_]
      have h9:decide (oB B≠0)=false:=h9
      rw [aU,hb,h8,h9,h10];rfl
     have k0:0≤B.kemId∧B.kem.length=1184:=by
      have:¬B.version=1:=of_decide_eq_false h10
      omega
     have hk:(t_ B).flatten.length≤8388000:=by
      show ([UInt8.ofNat 2,vB B]++(JJ B.kemId++([wW B.last]++(B.kem++ [])))).length≤8388000
      have:(JJ B.kemId).length≤4:=by rw [JJ,List.length_take];omega
      simp [k0.2];omega
     have h9:decide (oB B≠0)=false:=h9
     refine ⟨⟨v0,k0.1⟩,hk,fun h11=> ?_,fun h11=> ?_⟩
     ·refine ⟨?_,trivial⟩
      show [aU B least]= [_]
      have h11:decide (vI B≠0)=true:=h11
      rw [aU,hb,h8,h9,h10,h11];rfl
     ·refine ⟨?_,trivial⟩
      show [aU B least]= [_]
      have h11:decide (vI B≠0)=false:=h11
      rw [aU,hb,h8,h9,h10,h11]
  ·refine ⟨h1,h2,fun _ _=>⟨?_,trivial⟩⟩
   have hb:bZ B=true:=by rw [bZ,h1,h2];try rfl
   show [aU B least]= [_]
   rw [aU,hb]
  ·refine ⟨h1,fun _=>⟨?_,trivial⟩⟩
   have hb:bZ B=true:=by rw [bZ,h1];try rfl
   show [aU B least]= [_]
   rw [aU,hb]
 ·have hw:gU B=0:=by rw [gU,h0]
  refine ⟨fun h1=>⟨fun h2=>⟨h1,h2,fun _ _ hmed=>⟨fun h3=> ?_,fun h3=> ?_⟩⟩,fun h2=> ?_⟩,fun h1=> ?_⟩
  ·refine ⟨h3,?_,trivial⟩
   have hb:bZ B=true:=by rw [bZ,h1,h2,h3];try rfl
   show [aU B least]= [_]
   rw [aU,hb]
  ·refine ⟨fun h4=> ?_,fun h4=>⟨fun h5=> ?_,fun h5=>⟨fun h6=> ?_,fun h6=> ?_⟩⟩⟩
   ·refine ⟨h3,h4,fun _=>⟨?_,trivial⟩⟩
    have hb:bZ B=true:=by rw [bZ,h1,h2,h3,h4];try rfl
    show [aU B least]= [_]
    rw [aU,hb]
   ·refine ⟨h3,h4,h5,fun _=>⟨?_,trivial⟩⟩
    have hb:bZ B=true:=by rw [bZ,h1,h2,h3,h4,h5];try rfl
    show [aU B least]= [_]
    rw [aU,hb]
   ·refine ⟨h3,h4,h5,h6,fun _ _=>⟨?_,trivial⟩⟩
    have hb:bZ B=true:=by rw [bZ,h1,h2,h3,h4,h5,hw,h6];try rfl
    show [aU B least]= [_]
    rw [aU,hb]
   ·refine ⟨h3,h4,h5,h6,fun _ _=>⟨fun h7=> ?_,fun h7=> ?_⟩⟩
    ·refine ⟨?_,trivial⟩
     have hb:bZ B=true:=by rw [bZ,h1,h2,h3,h4,h5,hw,h6,h7];try rfl
     show [aU B least]= [_]
     rw [aU,hb]
    ·have hb:bZ B=false:=by rw [bZ,h1,h2,h3,h4,h5,hw,h6,h7];rfl
     have hs:gQ B=true:=by simpa using h7
     have hv:=Mk hs
     refine ⟨fun h8=> ?_,fun h8=> ?_⟩
     ·refine ⟨?_,trivial⟩
      show [aU B least]= [_]
      rw [aU,hb,h8]
     have v0:0≤B.version:=by omega
     have hm:(BP B).flatten.length≤8388000:=by
      show ([UInt8.ofNat 1,vB B]++(B.medium++ [])).length≤8388000
      have:B.medium.length=32:=by have:=of_decide_eq_true (show decide ((B.medium.length:Int)=32)=true by simpa using h3);omega
      simp [this]
     refine ⟨v0,hm,fun h9=> ?_,fun h9=>⟨h9,fun h10=> ?_,fun h10=> ?_⟩⟩
     ·refine ⟨h9,?_,trivial⟩
      show [aU B least]= [_]
      have h9:decide (oB B≠0)=true:=h9
      rw [aU,hb,h8,h9];rfl
     ·refine ⟨?_,trivial⟩
      show [aU B least]= [_]
      have h9:decide (oB B≠0)=false:=h9
      rw [aU,hb,h8,h9,h10];rfl
     have k0:0≤B.kemId∧B.kem.length=1184:=by
      have:¬B.version=1:=of_decide_eq_false h10
      omega
     have hk:(t_ B).flatten.length≤8388000:=by
      show ([UInt8.ofNat 2,vB B]++(JJ B.kemId++([wW B.last]++(B.kem++ [])))).length≤8388000
      have:(JJ B.kemId).length≤4:=by rw [JJ,List.length_take];omega
      simp [k0.2];omega
     have h9:decide (oB B≠0)=false:=h9
     refine ⟨⟨v0,k0.1⟩,hk,fun h11=> ?_,fun h11=> ?_⟩
     ·refine ⟨?_,trivial⟩
      show [aU B least]= [_]
      have h11:decide (vI B≠0)=true:=h11
      rw [aU,hb,h8,h9,h10,h11];rfl
     ·refine ⟨?_,trivial⟩
      show [aU B least]= [_]
      have h11:decide (vI B≠0)=false:=h11
      rw [aU,hb,h8,h9,h10,h11]
  ·refine ⟨h1,h2,fun _ _=>⟨?_,trivial⟩⟩
   have hb:bZ B=true:=by rw [bZ,h1,h2];try rfl
   show [aU B least]= [_]
   rw [aU,hb]
  ·refine ⟨h1,fun _=>⟨?_,trivial⟩⟩
   have hb:bZ B=true:=by rw [bZ,h1];try rfl
   show [aU B least]= [_]
   rw [aU,hb]
def Fg:GF:=fun l=>match l with
 | [.agg [.ro .u8 a,.ro .u8 b,.ro .u8 c,.ro .u8 d,.ob .int e,.ro .u8 f,.ob .int g,.ro .u8 h,.ro .u8 i,.ob .bool j,.ob .int k],.one (.ob .int n)]=>some ⟨[.one (.ob .int (aU ⟨a,b,c,d,e,f,g,h,i,j,k⟩ n))],[],none⟩
 |_=>none
theorem zj:ab 16 (ap Fg):=af aG RY Tryz.func16 (by kernel_rfl) rfl (rs:= [.tmp 4]) Tryz.results16 fun l g h hp=>by
 unfold Fg at h
 split at h
 ·cases h;exact ⟨Nat.le_of_ble_eq_true rfl,rfl,rfl,rfl,OT ⟨_,_,_,_,_,_,_,_,_,_,_⟩ _⟩
 ·cases h
set_option maxRecDepth 10000
set_option linter.unusedVariables false
theorem S8 {c n:Int} (hc:0≤c) (h0:0≤n):0≤c+n:=by omega
def Gi (n:Int):List UInt8:= [[UInt8.ofNat 112,UInt8.ofNat 97,UInt8.ofNat 114,UInt8.ofNat 116],td (UInt64.ofNat n.toNat) 4 4].flatten
def dI (seed:List UInt8) (n:Int):List UInt8:=Ae (kZ [] seed) (Gi n) 2
def dz (seed:List UInt8) (n:Int):List UInt8×List UInt8:=((dI seed (200+n)).take 32,((dI seed (200+n)).drop 32).take 32)
def bA (seed:List UInt8):List UInt8:=(dI seed 0).take 32
def mR (seed:List UInt8):List UInt8:=(dI seed 1).take 32
def mS (seed:List UInt8):List UInt8:=(dI seed 2).take 32
def L9 (seed:List UInt8) (n:Int):List UInt8:=(dI seed (100+n)).take 32
def f7 (s:List UInt8):List UInt8:=aX 32 (dP s [9]).val
def BQ (v:Int) (m:List UInt8):List UInt8:= [[UInt8.ofNat 1,UInt8.ofNat v.toNat],m].flatten
def xZ (v n:Int) (l:Bool) (m:List UInt8):List UInt8:= [[UInt8.ofNat 2,UInt8.ofNat v.toNat],td (UInt64.ofNat n.toNat) 4 4,[wW l],m].flatten
theorem B4 {n:Int} (h0:0≤n) (h1:n<4294967296):i9 n=Gi n:=by
 rw [i9,Gi,wg,D7,IH,UInt32.toNat_ofNat',UInt64.toNat_ofNat',Nat.mod_eq_of_lt (show n.toNat<2^32 by omega),Nat.mod_eq_of_lt (show n.toNat<2^64 by omega)]
theorem fj (seed:List UInt8) {n:Int} (h0:0≤n) (h1:n<4294967296):aT seed n=dI seed n:=by
 rw [aT,Fs,B4 h0 h1]
 exact List.take_of_length_le (by rw [jy];decide)
set_option maxRecDepth 10000
def Bf:List (Nat×CF):=(57,iz tX)::(64,iz q9)::(61,ap xL)::pM
theorem vY:∀p∈Bf,ab p.1 p.2:=ae n5<|ae sx<|ae vO DE
theorem LP:aq au (ai Bf):=aA aj (aS vY)
set_option maxHeartbeats 4000000 in
set_option maxHeartbeats 4000000 in
set_option maxHeartbeats 4000000 in
theorem A8 (seed:List UInt8) (v:Int) (o k:List Bool) (a:Nat) (S P I M:List UInt8):vc au (ai Bf) Tryz.f58.ntmps (ag Tryz.f58) ⟨al 0 [.one (.ptr 1000 0)],aQ 1000 (j4 seed v o k a S P I M),2000⟩ (bR au Tryz.f58.ntmps [.tmp 2] [.one (.ob .bool false)] [] (j4 seed v o k a S P I M) []):=by
 exact ⟨rfl,trivial⟩
def w9:fB:=fun l cs=>match l,cs with
 | [.one (.ptr 1000 0)],[.blk 84 [.rw 1001,.ob .int v,.ptr 1002 0,.sub 1003 0 32,.sub 1004 0 32,.rw 1005,.rw 1006],.row 5 .u8 seed,.blk 157 [.ob (.x 2) a,.sub 1007 32 32,.rw 1008],.row 5 .u8 I,.row 5 .u8 M,.row 4 .bool o,.row 4 .bool k,.row 5 .u8 S,.row 5 .u8 P]=>some ⟨[.one (.ob .bool false)],[],[],none⟩
 |_,_=>none
set_option maxHeartbeats 4000000 in
theorem tg:ab 58 (iz w9):=aW aj LP Tryz.func58 (by kernel_rfl) rfl (rs:= [.tmp 2]) Tryz.results58 fun l cs g h hp=>by
 unfold w9 at h
 split at h
 ·cases h
  exact ⟨Nat.le_of_ble_eq_true rfl,rfl,rfl,rfl,A8 _ _ _ _ _ _ _ _ _⟩
 ·cases h
def Ik:List (Nat×CF):=(58,iz w9)::Bf
theorem MA:∀p∈Ik,ab p.1 p.2:=ae tg vY
theorem LQ:aq au (ai Ik):=aA aj (aS MA)
set_option maxHeartbeats 4000000 in
theorem CR (seed:List UInt8) (v:Int) (o k:List Bool) (a:Nat) (S P I M:List UInt8) (hP:P.length≤16777216):vc au (ai Ik) Tryz.f22.ntmps (ag Tryz.f22) ⟨al 0 [.one (.ptr 1000 0)],aQ 1000 (j4 seed v o k a S P I M),2000⟩ (bR au Tryz.f22.ntmps [.tmp 2,.tmp 3] [.one (.rw 0),.one (.rw 1)] [(0,.row 5 .u8 P),(1,.row 5 .u8 (aX 32 (dP (I.take 32) [9]).val))] (j4 seed v o k a S P I M) []):=by
 refine ⟨fun h=> ?_,fun _=> ?_⟩
 ·cases h
 exact ⟨hP,rfl,rfl,trivial⟩
def mw:fB:=fun l cs=>match l,cs with
 | [.one (.ptr 1000 0)],[.blk 84 [.rw 1001,.ob .int v,.ptr 1002 0,.sub 1003 0 32,.sub 1004 0 32,.rw 1005,.rw 1006],.row 5 .u8 seed,.blk 157 [.ob (.x 2) a,.sub 1007 32 32,.rw 1008],.row 5 .u8 I,.row 5 .u8 M,.row 4 .bool o,.row 4 .bool k,.row 5 .u8 S,.row 5 .u8 P]=>some ⟨[.one (.rw 0),.one (.rw 1)],[(0,.row 5 .u8 P),(1,.row 5 .u8 (aX 32 (dP (I.take 32) [9]).val))],[],some (P.length≤16777216)⟩
 |_,_=>none
set_option maxHeartbeats 4000000 in
theorem nZ:ab 22 (iz mw):=aW aj LQ Tryz.func22 (by kernel_rfl) rfl (rs:= [.tmp 2,.tmp 3]) Tryz.results22 fun l cs g h hp=>by
 unfold mw at h
 split at h
 ·cases h
  exact ⟨Nat.le_of_ble_eq_true rfl,rfl,rfl,rfl,CR _ _ _ _ _ _ _ _ _ hp⟩
 ·cases h
set_option maxHeartbeats 4000000 in
theorem KW (seed:List UInt8) (v:Int) (o k:List Bool) (a:Nat) (S P I M:List UInt8) (n:Int) (hs:seed.length≤65536) (hn:0≤n∧n≤1000000):vc au (ai Ik) Tryz.f62.ntmps (ag Tryz.f62) ⟨al 0 [.one (.ptr 1000 0),.one (.ob .int n)],aQ 1000 (j4 seed v o k a S P I M),2000⟩ (bR au Tryz.f62.ntmps [.tmp 4] [.one (.sub 0 0 32)] [(0,.row 5 .u8 (aT seed (100+n)))] (j4 seed v o k a S P I M) []):=by
 exact ⟨⟨by omega,by omega⟩,⟨hs,S8 (by decide) hn.1⟩,rfl,rfl,rfl,trivial⟩
def w_:fB:=fun l cs=>match l,cs with
 | [.one (.ptr 1000 0),.one (.ob .int n)],[.blk 84 [.rw 1001,.ob .int v,.ptr 1002 0,.sub 1003 0 32,.sub 1004 0 32,.rw 1005,.rw 1006],.row 5 .u8 seed,.blk 157 [.ob (.x 2) a,.sub 1007 32 32,.rw 1008],.row 5 .u8 I,.row 5 .u8 M,.row 4 .bool o,.row 4 .bool k,.row 5 .u8 S,.row 5 .u8 P]=>some ⟨[.one (.sub 0 0 32)],[(0,.row 5 .u8 (aT seed (100+n)))],[],some (seed.length≤65536∧0≤n∧n≤1000000)⟩
 |_,_=>none
set_option maxHeartbeats 4000000 in
theorem th:ab 62 (iz w_):=aW aj LQ Tryz.func62 (by kernel_rfl) rfl (rs:= [.tmp 4]) Tryz.results62 fun l cs g h hp=>by
 unfold w_ at h
 split at h
 ·cases h
  exact ⟨Nat.le_of_ble_eq_true rfl,rfl,rfl,rfl,KW _ _ _ _ _ _ _ _ _ _ hp.1 hp.2⟩
 ·cases h
set_option maxRecDepth 10000
set_option linter.unusedVariables false
set_option maxRecDepth 10000
set_option linter.unusedVariables false
def J7 (seed:List UInt8) (n:Int):List UInt8:=match decide (0<n) with |true=>f7 (L9 seed n)|false=> []
def BJ (v n:Int):Int:=match decide (v=2) with |true=>n|false=>0
def BL (v n:Int):Bool:=match decide (v=2) with |true=>decide (n=0)|false=>false
def Bn.rv (B:Bn):AV:= .agg [.rw 0,.rw 1,.rw 2,.rw 3,.ob .int B.onceId,.rw 4,.ob .int B.kemId,.rw 5,.rw 6,.ob .bool B.last,.ob .int B.version]
def Bn.us (B:Bn):List (Nat×Ch):= [(0,.row 5 .u8 B.sign),(1,.row 5 .u8 B.ident),(2,.row 5 .u8 B.medium),(3,.row 5 .u8 B.medsig),(4,.row 5 .u8 B.once),(5,.row 5 .u8 B.kem),(6,.row 5 .u8 B.kemsig)]
theorem nS (s:List UInt8):(f7 s).length=32:=ao _ _
theorem ub (v n:Int) (l:Bool) (m:List UInt8):(xZ v n l m).length=m.length+7:=by rw [xZ];simp [te];omega
set_option maxRecDepth 10000
theorem PZ:aq au (ai []):=aA aj (aS fun p hp=>by cases hp)
def i7 (x:UInt32):UInt16:=(x%UInt32.ofNat 3329).toUInt16
theorem g_ (x:UInt32):i7 x=UInt16.ofNat (x.toNat%3329):=by
 apply UInt16.toNat_inj.1
 rw [i7,UInt32.toNat_toUInt16,UInt32.toNat_mod,UInt16.toNat_ofNat']
 rfl
theorem K6 (x:UInt32):vc au (ai []) Tryz.f244.ntmps (ag Tryz.f244) ⟨al 0 [.one (.ob .u32 x)],[],2000⟩ (aD au Tryz.f244.ntmps [.tmp 2] [.one (.ob .u16 (i7 x))] []):=⟨by decide,rfl,trivial⟩
def xn:GF:=fun l=>match l with
 | [.one (.ob .u32 x)]=>some ⟨[.one (.ob .u16 (i7 x))],[],none⟩
 |_=>none
theorem um:ab 244 (ap xn):=af aj PZ Tryz.func244 (by kernel_rfl) rfl (rs:= [.tmp 2]) Tryz.results244 fun l g h hp=>by
 unfold xn at h
 split at h
 ·cases h;exact ⟨Nat.le_of_ble_eq_true rfl,rfl,rfl,rfl,K6 _⟩
 ·cases h
def DN:List (Nat×CF):= [(244,ap xn)]
theorem v7:∀p∈DN,ab p.1 p.2:=ae um fun p hp=>by cases hp
theorem PX:aq au (ai DN):=aA aj (aS v7)
abbrev RL (f g:List UInt16) (i:Nat):UInt16:=UInt16.ofNat ((gu f i+gu g i)%3329)
theorem Lc (f g:List UInt16) (hf:f.length=256):vc au (ai DN) Tryz.f208.ntmps (ag Tryz.f208) ⟨al 0 [.agg [.vec .u16 256 f],.agg [.vec .u16 256 g]],[],2000⟩ (aD au Tryz.f208.ntmps [.cell 4 141] [.agg [.vec .u16 256 (oo f g)]] []):=by
 refine Or.inr ⟨{i:Nat // i≤256},fun i=>⟨[(6,.one (.ob .int (i.val:Int)))],[(2000,.blk 141 [.vec .u16 256 (bu 0 256 (RL f g) f i.val)])]⟩,fun i=>256-i.val,⟨0,by omega⟩,?_⟩
 refine ⟨rfl,rfl,dl hf,fun i=>⟨fun h1=> ?_,fun h1=> ?_⟩⟩
 ·have h1:=of_decide_eq_true h1
  have hi:=i.2
  repeat refine sd ?_
  refine sj ⟨i.val+1,by omega⟩<|sr<|sr ⟨?_,trivial⟩
  refine ((congrArg (fun z=>(bu 0 256 (RL f g) f i.val).set i.val z) ?_).trans bq).symm
  show i7 (UInt16.toUInt32 ((bu 0 256 (RL f g) f i.val).getD i.val 0)+UInt16.toUInt32 (g.getD i.val 0))=RL f g i.val
  have a1:=(f.getD i.val 0).toNat_lt
  have a2:=(g.getD i.val 0).toNat_lt
  rw [cg (by omega),if_neg (by omega),g_,UInt32.toNat_add,UInt16.toNat_toUInt32,UInt16.toNat_toUInt32,Nat.mod_eq_of_lt (show (f.getD i.val 0).toNat+(g.getD i.val 0).toNat<2^32 by omega)]
  rfl
 have h1:=of_decide_eq_false h1
 have hi:=i.2
 rw [show i.val=256 by omega,b9 (by omega)]
 exact ⟨rfl,rfl,trivial⟩
def qZ:GF:=fun l=>match l with
 | [.agg [.vec .u16 256 f],.agg [.vec .u16 256 g]]=>some ⟨[.agg [.vec .u16 256 (oo f g)]],[],some (f.length=256)⟩
 |_=>none
theorem kV:ab 208 (ap qZ):=af aj PX Tryz.func208 (by kernel_rfl) rfl (rs:= [.cell 4 141]) Tryz.results208 fun l g h hp=>by
 unfold qZ at h
 split at h
 ·cases h;exact ⟨Nat.le_of_ble_eq_true rfl,rfl,rfl,rfl,Lc _ _ hp⟩
 ·cases h
theorem zh (k:Nat) (hk:k<128):vc au (ai []) Tryz.f260.ntmps (ag Tryz.f260) ⟨al 0 [.one (.ob .int (k:Int))],[],2000⟩ (aD au Tryz.f260.ntmps [.tmp 2] [.one (.ob .int (cq k 7:Int))] []):=by
 refine Or.inr ⟨{i:Nat // i≤7},fun i=>⟨[(3,.one (.ob .int (i.val:Int))),(2,.one (.ob .int (cq k i.val:Int))),(0,.one (.ob .int ((k/2^i.val:Nat):Int)))],[]⟩,fun i=>7-i.val,⟨0,by omega⟩,?_⟩
 refine ⟨rfl,rfl,by show [((k/2^0:Nat):Int)]= [(k:Int)];simp,fun i=>⟨fun h1=> ?_,fun h1=> ?_⟩⟩
 ·have h1:=of_decide_eq_true h1
  have hi:=i.2
  have hr:=lE k i.val
  have h2:2^i.val≤2^7:=Nat.pow_le_pow_right (by omega) hi
  have e1:(cq k i.val:Int)*((2^(Nm.u64 (UInt64.ofNat 1)).toInt.toNat:Nat):Int)=((cq k i.val*2:Nat):Int):=by
   show _*((2^1:Nat):Int)=_
   omega
  have e3:k/2^i.val≤k:=Nat.div_le_self _ _
  have e5:=Int.natCast_nonneg (k/2^i.val)
  have e4:k/2^i.val&&&1≤1:=Nat.and_le_right
  refine ⟨by rw [e1];exact ⟨by decide,by decide,by omega,by omega⟩,⟨⟨⟨by omega,by omega⟩,by omega⟩,⟨by decide,by decide⟩,by decide⟩,?_,⟨by decide,by decide⟩,⟨by omega,by omega⟩,⟨i.val+1,by omega⟩,?_,rfl,?_,?_,trivial⟩
  ·rw [e1,Int.toNat_natCast,show Int.toNat 1=1 from rfl];exact ⟨⟨⟨by omega,by omega⟩,by omega⟩,⟨by omega,by omega⟩,by omega⟩
  ·show 7-(i.val+1)<7-i.val;omega
  ·show [((cq k i.val*2|||(k/2^i.val&&&1):Nat):Int)]= [((((cq k i.val:Int)*((2^(Nm.u64 (UInt64.ofNat 1)).toInt.toNat:Nat):Int)).toNat|||((((k/2^i.val:Nat):Int).toNat&&&Int.toNat 1:Nat):Int).toNat:Nat):Int)]
   rw [e1];rfl
  ·show [((k/2^(i.val+1):Nat):Int)]= [((k/2^i.val:Nat):Int)/((2^1:Nat):Int)]
   rw [Nat.pow_succ,←Nat.div_div_eq_div_mul];rfl
 have h1:=of_decide_eq_false h1
 have hi:=i.2
 rw [show i.val=7 by omega]
 exact ⟨rfl,trivial⟩
def kk:GF:=fun l=>match l with
 | [.one (.ob .int k)]=>some ⟨[.one (.ob .int (cq k.toNat 7:Int))],[],some (Dc 0 k 127)⟩
 |_=>none
theorem nE:ab 260 (ap kk):=af aj PZ Tryz.func260 (by kernel_rfl) rfl (rs:= [.tmp 2]) Tryz.results260 fun l g h hp=>by
 unfold kk at h
 split at h
 ·rename_i a
  cases h
  obtain ⟨h2,h3⟩:=hp
  obtain ⟨a,rfl⟩:=Int.eq_ofNat_of_zero_le h2
  exact ⟨Nat.le_of_ble_eq_true rfl,rfl,rfl,rfl,zh _ (by omega)⟩
 ·cases h
def Io:List (Nat×CF):=(208,ap qZ)::(260,ap kk)::DN
theorem DO:∀p∈Io,ab p.1 p.2:=ae kV<|ae nE v7
theorem PY:aq au (ai Io):=aA aj (aS DO)
def zV (i:Nat):UInt32:=UInt32.ofNat (aZ i)
def zo:List UInt32:=(List.range 128).map fun i=>zV (cq i 7)
abbrev zP (i:Nat):List UInt32:=bu 0 128 zV (List.replicate 128 0) i
set_option maxHeartbeats 1000000 in
theorem Ls:vc au (ai Io) Tryz.f243.ntmps (ag Tryz.f243) ⟨al 0 [],[],2000⟩ (aD au Tryz.f243.ntmps [.cell 0 251] [.agg [.vec .u32 128 zo]] []):=by
 refine Or.inr ⟨{i:Nat // 1≤i∧i≤128},fun i=>⟨[(2,.one (.ob .int (i.val:Int)))],[(2016,.blk 251 [.vec .u32 128 (zP i.val)])]⟩,fun i=>128-i.val,⟨1,by omega⟩,?_⟩
 refine ⟨rfl,rfl,by show zP 1=(List.replicate 128 0).set 0 (UInt32.ofNat 1);decide +kernel,fun i=>⟨fun h1=> ?_,fun h1=> ?_⟩⟩
 ·have h1:=of_decide_eq_true h1
  have hi:=i.2
  repeat refine sd ?_
  refine ⟨by decide,?_⟩
  repeat refine sd ?_
  refine sj ⟨i.val+1,by omega⟩<|sr<|sr ⟨?_,trivial⟩
  refine ((congrArg (fun z=>(zP i.val).set i.val z) ?_).trans bq).symm
  show (zP i.val).getD ((i.val:Int)-1).toNat 0*UInt32.ofNat 17%UInt32.ofNat 3329=zV i.val
  obtain ⟨j,hj⟩:∃j,i.val=j+1:=⟨i.val-1,by omega⟩
  have hz:=fA j
  rw [hj,show (((j+1:Nat):Int)-1).toNat=j by omega,cg (by omega),if_pos (by omega)]
  apply UInt32.toNat_inj.1
  rw [UInt32.toNat_mod,UInt32.toNat_mul,zV,zV,UInt32.toNat_ofNat',UInt32.toNat_ofNat',UInt32.toNat_ofNat',UInt32.toNat_ofNat',aZ,show 17%2^32=17 from rfl,show 3329%2^32=3329 from rfl,Nat.mod_eq_of_lt (show aZ j<2^32 by omega),Nat.mod_eq_of_lt (show aZ j*17<2^32 by omega),Nat.mod_eq_of_lt (show aZ j*17%3329<2^32 by omega)]
 have h1:=of_decide_eq_false h1
 have hi:=i.2
 rw [show i.val=128 by omega,show zP 128=(List.range 128).map zV from b9 (by omega)]
 refine Or.inr ⟨{i:Nat // i≤128},fun i=>⟨[(17,.one (.ob .int (i.val:Int)))],[(2000,.blk 251 [.vec .u32 128 (bu 0 128 (fun i=>zV (cq i 7)) (List.replicate 128 0) i.val)])]⟩,fun i=>128-i.val,⟨0,by omega⟩,?_⟩
 refine ⟨rfl,rfl,dl (by simp),fun i=>⟨fun h1=> ?_,fun h1=> ?_⟩⟩
 ·have h1:=of_decide_eq_true h1
  have hi:=i.2
  have hr:cq (i.val:Int).toNat 7<2^7:=lE _ _
  have hr2:cq i.val 7<2^7:=lE _ _
  refine ⟨⟨by omega,by omega⟩,?_⟩
  repeat refine sd ?_
  refine sj ⟨i.val+1,by omega⟩<|sr<|sr ⟨?_,trivial⟩
  refine ((congrArg (fun z=>(bu 0 128 (fun i=>zV (cq i 7)) (List.replicate 128 0) i.val).set i.val z) ?_).trans bq).symm
  show ((List.range 128).map zV).getD (cq i.val 7:Int).toNat 0=zV (cq i.val 7)
  rw [Int.toNat_natCast,a9 (by omega)]
 have h1:=of_decide_eq_false h1
 have hi:=i.2
 rw [show i.val=128 by omega,b9 (by omega)]
 exact ⟨rfl,rfl,trivial⟩
def xO:GF:=fun l=>match l with
 | []=>some ⟨[.agg [.vec .u32 128 zo]],[],none⟩
 |_=>none
theorem vR:ab 243 (ap xO):=af aj PY Tryz.func243 (by kernel_rfl) rfl (rs:= [.cell 0 251]) Tryz.results243 fun l g h hp=>by
 unfold xO at h
 split at h
 ·cases h;exact ⟨Nat.le_of_ble_eq_true rfl,rfl,rfl,rfl,Ls⟩
 ·cases h
theorem SD {z:Nat} (y:UInt16) (hz:z<3329):z*y.toNat<2^32:=by
 have:=y.toNat_lt
 exact Nat.lt_of_le_of_lt (Nat.mul_le_mul (show z≤3329 by omega) (show y.toNat≤65536 by omega)) (by decide)
theorem QI {z:Nat} (y:UInt16) (hz:z<3329):(UInt32.ofNat z*y.toUInt32%UInt32.ofNat 3329).toNat=z*y.toNat%3329:=by
 have:=SD y hz
 rw [UInt32.toNat_mod,UInt32.toNat_mul,UInt32.toNat_ofNat',UInt32.toNat_ofNat',UInt16.toNat_toUInt32,Nat.mod_eq_of_lt (show z<2^32 by omega),Nat.mod_eq_of_lt this]
theorem Tl (x y:UInt16) {z:Nat} (hz:z<3329):i7 (x.toUInt32+UInt32.ofNat z*y.toUInt32%UInt32.ofNat 3329)=UInt16.ofNat ((x.toNat%3329+z*y.toNat%3329)%3329):=by
 have h1:=x.toNat_lt
 rw [g_,UInt32.toNat_add,QI y hz,UInt16.toNat_toUInt32]
 congr 1
 generalize z*y.toNat=c
 omega
theorem Tm (x y:UInt16) {z:Nat} (hz:z<3329):i7 (x.toUInt32+UInt32.ofNat 3329-UInt32.ofNat z*y.toUInt32%UInt32.ofNat 3329)=UInt16.ofNat ((x.toNat%3329+3329-z*y.toNat%3329)%3329):=by
 have h1:=x.toNat_lt
 rw [g_,UInt32.toNat_sub,UInt32.toNat_add,QI y hz,UInt16.toNat_toUInt32,UInt32.toNat_ofNat']
 congr 1
 generalize z*y.toNat=c
 omega
def DP:List (Nat×CF):=(243,ap xO)::Io
theorem MF:∀p∈DP,ab p.1 p.2:=ae vR DO
theorem DW:aq au (ai DP):=aA aj (aS MF)
def eC (f:List UInt16):List UInt16:=oo f (List.replicate 256 0)
theorem jH (f g:List UInt16):(oo f g).length=256:=by simp [oo]
theorem Ba {i:Nat} (h:i<128):zo.getD i 0=UInt32.ofNat (aZ (cq i 7)):=a9 h
set_option maxHeartbeats 4000000 in
theorem Lf (f:List UInt16) (hf:f.length=256):vc au (ai DP) Tryz.f207.ntmps (ag Tryz.f207) ⟨al 0 [.agg [.vec .u16 256 f]],[],2000⟩ (aD au Tryz.f207.ntmps [.cell 2 141] [.agg [.vec .u16 256 (nf (eC f) 7)]] []):=by
 refine ⟨hf,?_⟩
 refine Or.inr ⟨{m:Nat // m≤7},fun m=>⟨[(5,.one (.ob .int ((128/2^m.val:Nat):Int))),(4,.one (.ob .int ((2^m.val:Nat):Int)))],[(2000,.blk 141 [.vec .u16 256 (nf (eC f) m.val)])]⟩,fun m=>7-m.val,⟨0,by omega⟩,?_⟩
 refine ⟨by show [((128/2^0:Nat):Int)]= [128];decide,by show [((2^0:Nat):Int)]= [1];decide,rfl,rfl,fun m=>⟨fun h1=> ?_,fun h1=> ?_⟩⟩
 ·have h1:=of_decide_eq_true h1
  have hm:=m.2
  have hm7:m.val<7:=by
   rcases Nat.lt_or_ge m.val 7 with h|h
   ·exact h
   ·rw [show m.val=7 by omega] at h1;simp at h1
  have hF:nf (eC f) (m.val+1)=oj (nf (eC f) m.val) (128/2^m.val) (2^m.val) (2^m.val):=rfl
  have hq:=(RK m.val 0 hm7).2.2
  have hc:=fun c=>And.intro (RK m.val c hm7).1 (RK m.val c hm7).2.1
  revert hF
  generalize nf (eC f) m.val=F
  intro hF
  have hK0:0<2^m.val:=Nat.two_pow_pos _
  generalize 128/2^m.val=n at h1 hq hc hF ⊢
  generalize 2^m.val=K at hq hc hF hK0 ⊢
  obtain ⟨q1,q2,q3,q4,q5⟩:=hq
  refine Or.inr ⟨{c:Nat // c≤K},fun c=>⟨[(6,.one (.ob .int ((2*n*c.val:Nat):Int))),(4,.one (.ob .int ((K+c.val:Nat):Int)))],[(2000,.blk 141 [.vec .u16 256 (oj F n K c.val)])]⟩,fun c=>K-c.val,⟨0,Nat.zero_le _⟩,?_⟩
  refine ⟨rfl,rfl,rfl,rfl,fun c=>⟨fun h2=> ?_,fun h2=> ?_⟩⟩
  ·have h2:=of_decide_eq_true h2
   have hcc:=c.2
   obtain ⟨h3,h4⟩:=(hc c.val).1 (by omega)
   have hG:oj F n K (c.val+1)=gi (oj F n K c.val) (aZ (cq (K+c.val) 7)) n (2*n*c.val) n:=rfl
   have hst:2*n*(c.val+1)=2*n*c.val+2*n:=Nat.mul_succ _ _
   revert hG
   generalize oj F n K c.val=G
   generalize 2*n*c.val=st at h2 h4 hst ⊢
   intro hG
   have hKc:K+c.val<128:=by omega
   repeat refine sd ?_
   refine Or.inr ⟨{i:Nat // i≤n},fun i=>⟨[(7,.one (.ob .int ((st+i.val:Nat):Int)))],[(2000,.blk 141 [.vec .u16 256 (gi G (aZ (cq (K+c.val) 7)) n st i.val)])]⟩,fun i=>n-i.val,⟨0,Nat.zero_le _⟩,?_⟩
   refine ⟨rfl,rfl,rfl,fun i=>sd ⟨fun h5=> ?_,fun h5=> ?_⟩⟩
   ·have h5:=of_decide_eq_true h5
    have hi:=i.2
    have hJ:gi G (aZ (cq (K+c.val) 7)) n st (i.val+1)=((gi G (aZ (cq (K+c.val) 7)) n st i.val).set (st+i.val+n) (UInt16.ofNat ((gu (gi G (aZ (cq (K+c.val) 7)) n st i.val) (st+i.val)%3329+3329-aZ (cq (K+c.val) 7)*gu (gi G (aZ (cq (K+c.val) 7)) n st i.val) (st+i.val+n)%3329)%3329))).set (st+i.val) (UInt16.ofNat ((gu (gi G (aZ (cq (K+c.val) 7)) n st i.val) (st+i.val)%3329+aZ (cq (K+c.val) 7)*gu (gi G (aZ (cq (K+c.val) 7)) n st i.val) (st+i.val+n)%3329)%3329)):=rfl
    revert hJ
    generalize gi G (aZ (cq (K+c.val) 7)) n st i.val=J
    intro hJ
    have hz:=fA (cq (K+c.val) 7)
    have e1:(((st+i.val:Nat):Int)+(n:Int)).toNat=st+i.val+n:=by omega
    repeat refine sd ?_
    refine ⟨by decide,?_⟩
    repeat refine sd ?_
    refine sj ⟨i.val+1,by omega⟩<|sr<|sr ⟨?_,trivial⟩
    show gi G (aZ (cq (K+c.val) 7)) n st (i.val+1)=(J.set ((st+i.val:Nat):Int).toNat (i7 (UInt16.toUInt32 (J.getD ((st+i.val:Nat):Int).toNat 0)+zo.getD ((K+c.val:Nat):Int).toNat 0*UInt16.toUInt32 (J.getD (((st+i.val:Nat):Int)+(n:Int)).toNat 0)%UInt32.ofNat 3329))).set (((st+i.val:Nat):Int)+(n:Int)).toNat (i7 (UInt16.toUInt32 (J.getD ((st+i.val:Nat):Int).toNat 0)+UInt32.ofNat 3329-zo.getD ((K+c.val:Nat):Int).toNat 0*UInt16.toUInt32 (J.getD (((st+i.val:Nat):Int)+(n:Int)).toNat 0)%UInt32.ofNat 3329))
    rw [hJ,e1,Int.toNat_natCast,Int.toNat_natCast,Ba hKc,Tl _ _ hz,Tm _ _ hz,List.set_comm _ _ (show st+i.val≠st+i.val+n by omega)]
    rfl
   have h5:=of_decide_eq_false h5
   have hi:=i.2
   repeat refine sd ?_
   refine sj ⟨c.val+1,h3⟩ ⟨congrArg (fun z:Int=> [z]) ?_,rfl,rfl,?_,trivial⟩
   ·show ((2*n*(c.val+1):Nat):Int)=(st:Int)+2*(n:Int)
    omega
   ·show oj F n K (c.val+1)=_
    rw [hG,show i.val=n by omega]
  have h2:=of_decide_eq_false h2
  have hcc:=c.2
  have h3:=(hc c.val).2 (by omega)
  repeat refine sd ?_
  refine sj ⟨m.val+1,by omega⟩ ⟨congrArg (fun z:Int=> [z]) ?_,congrArg (fun z:Int=> [z]) ?_,rfl,?_,trivial⟩
  ·show ((128/2^(m.val+1):Nat):Int)=(n:Int)/2
   rw [q4];rfl
  ·show ((2^(m.val+1):Nat):Int)=((K+c.val:Nat):Int)
   rw [q5,show c.val=K by omega]
  ·show nf (eC f) (m.val+1)=_
   rw [hF,show c.val=K by omega]
 have h1:=of_decide_eq_false h1
 have hm:=m.2
 have hm7:m.val=7:=by
  rcases Nat.lt_or_ge m.val 7 with h|h
  ·have:=(RK m.val 0 h).2.2.1;omega
  ·omega
 rw [hm7]
 exact ⟨rfl,rfl,trivial⟩
def xz:GF:=fun l=>match l with
 | [.agg [.vec .u16 256 f]]=>some ⟨[.agg [.vec .u16 256 (nf (eC f) 7)]],[],some (f.length=256)⟩
 |_=>none
theorem u7:ab 207 (ap xz):=af aj DW Tryz.func207 (by kernel_rfl) rfl (rs:= [.cell 2 141]) Tryz.results207 fun l g h hp=>by
 unfold xz at h
 split at h
 ·cases h;exact ⟨Nat.le_of_ble_eq_true rfl,rfl,rfl,rfl,Lf _ hp⟩
 ·cases h
def wb (x:UInt64) (i:Nat):Bool:=x.toNat.testBit i
theorem ew {x y:UInt64} (h:∀i,i<64→wb x i=wb y i):x=y:=by
 apply UInt64.toNat_inj.1
 apply Nat.eq_of_testBit_eq
 intro i
 rcases Nat.lt_or_ge i 64 with hi|hi
 ·exact h i hi
 ·have e:∀z:UInt64,z.toNat.testBit i=false:=fun z=>Nat.testBit_lt_two_pow (Nat.lt_of_lt_of_le z.toNat_lt (Nat.pow_le_pow_right (by omega) hi))
  rw [e,e]
theorem f6 (x y:UInt64) (i:Nat):wb (x^^^y) i=(wb x i ^^ wb y i):=by
 unfold wb;rw [UInt64.toNat_xor,Nat.testBit_xor]
theorem O0 (x y:UInt64) (i:Nat):wb (x&&&y) i=(wb x i&&wb y i):=by
 unfold wb;rw [UInt64.toNat_and,Nat.testBit_and]
theorem Rm (x y:UInt64) (i:Nat):wb (x|||y) i=(wb x i||wb y i):=by
 unfold wb;rw [UInt64.toNat_or,Nat.testBit_or]
theorem HH (x:UInt64) {i:Nat} (hi:i<64):wb (~~~x) i= !wb x i:=by
 unfold wb
 rw [UInt64.toNat_not,show UInt64.size-1-x.toNat=2^64-(x.toNat+1) by simp [UInt64.size],Nat.testBit_two_pow_sub_succ x.toNat_lt]
 simp [hi]
abbrev rk (x:UInt64) (n:Nat):UInt64:=jY x n|||iF x (64-n)
theorem HJ (x:UInt64) {n i:Nat} (hn:0<n∧n<64) (hi:i<64):wb (rk x n) i=wb x ((i+64-n)%64):=by
 rw [Rm]
 unfold wb jY iF
 rw [UInt64.toNat_ofNat',UInt64.toNat_ofNat',Nat.testBit_mod_two_pow,Nat.testBit_mod_two_pow,Nat.testBit_mul_two_pow,Nat.testBit_div_two_pow]
 rcases Nat.lt_or_ge i n with h|h
 ·rw [show (i+64-n)%64=i+(64-n) by omega]
  simp [hi,Nat.not_le.2 h]
 ·rw [show (i+64-n)%64=i-n by omega,Nat.testBit_lt_two_pow (x:=x.toNat) (i:=i+(64-n)) (Nat.lt_of_lt_of_le x.toNat_lt (Nat.pow_le_pow_right (by omega) (by omega)))]
  simp [hi,h]
theorem br {x y:UInt64} {n:Nat} (hn:0<n∧n<64) (h:rk x n=rk y n):x=y:=ew fun i hi=>by
 have:wb (rk x n) ((i+n)%64)=wb (rk y n) ((i+n)%64):=congrArg (fun z=>wb z ((i+n)%64)) h
 rw [HJ _ hn (Nat.mod_lt _ (by omega)),HJ _ hn (Nat.mod_lt _ (by omega)),show ((i+n)%64+64-n)%64=i by omega] at this
 exact this
def rI (x:UInt64):Nat→UInt64
 |0=>x
 |n+1=>rk (rI x n) 1
theorem vL (x:UInt64) {i:Nat} (hi:i<64):∀n,wb (rI x n) i=wb x ((i+63*n)%64):=fun n=>by
 induction n generalizing i with
 |zero=>rw [show (i+63*0)%64=i by omega];rfl
 |succ n ih=>rw [rI,HJ _ (by omega) hi,ih (Nat.mod_lt _ (by omega))];congr 1;omega
theorem QO (x:UInt64):rI x 64=x:=ew fun i hi=>by rw [vL x hi,show (i+63*64)%64=i by omega]
theorem Gt (x:UInt64) (n:Nat):∀m,rI (rI x n) m=rI x (n+m)
 |0=>rfl
 |m+1=>by show rk _ 1=rk _ 1;rw [Gt x n m];rfl
theorem Gu (x y:UInt64) (n:Nat):rI (x^^^y) n=rI x n^^^rI y n:=ew fun i hi=>by
 rw [f6,vL _ hi,vL _ hi,vL _ hi,f6]
theorem iu {z:Nat→UInt64} {a b n:Nat} (h:∀x,z x^^^z (x+a)^^^rI (z (x+b)) n=0) (x:Nat):z x^^^z (x+2*a)^^^rI (z (x+2*b)) (2*n)=0:=by
 have h1:=h x
 have h2:=h (x+a)
 have h3:=congrArg (fun u=>rI u n) (h (x+b))
 simp only [Gu,Gt] at h3
 have h0:rI 0 n=0:=ew fun i hi=>by rw [vL _ hi];simp [wb]
 rw [h0] at h3
 rw [show x+2*a=x+a+a by omega,show x+2*b=x+b+b by omega,show 2*n=n+n by omega]
 rw [show x+b+a=x+a+b by omega] at h3
 generalize z x=A at*
 generalize z (x+a)=B at*
 generalize rI (z (x+b)) n=C at*
 generalize z (x+a+a)=D at*
 generalize rI (z (x+a+b)) n=E at*
 generalize rI (z (x+b+b)) (n+n)=F at*
 refine ew fun i hi=> ?_
 have g1:=congrArg (fun u=>wb u i) h1
 have g2:=congrArg (fun u=>wb u i) h2
 have g3:=congrArg (fun u=>wb u i) h3
 simp only [f6] at*
 revert g1 g2 g3
 cases wb A i<;>cases wb B i<;>cases wb C i<;>cases wb D i<;>cases wb E i<;>cases wb F i<;>simp [wb]
theorem Ed {z:Nat→UInt64} (hp:∀x,z (x+5)=z x) (h:∀x,z x^^^z (x+4)^^^rI (z (x+1)) 1=0) (x:Nat):z x=0:=by
 have h6:=iu (iu (iu (iu (iu (iu h)))))
 have hq:∀k x,z (x+5*k)=z x:=fun k=>by
  induction k with
  |zero=>intro x;rfl
  |succ k ih=>intro x;rw [show x+5*(k+1)=x+5*k+5 by omega,hp,ih]
 have h7:∀x,z x^^^z (x+1)^^^z (x+4)=0:=fun x=>by
  have:=h6 x
  rw [show 2*(2*(2*(2*(2*(2*1)))))=64 from rfl,QO,show x+2*(2*(2*(2*(2*(2*4)))))=x+1+5*51 by omega,show x+64=x+4+5*12 by omega,hq,hq] at this
  exact this
 have a0:=h7 x
 have a1:=h7 (x+1)
 have a2:=h7 (x+2)
 have a3:=h7 (x+3)
 have a4:=h7 (x+4)
 rw [show x+1+4=x+5 by omega,hp,show x+1+1=x+2 by omega] at a1
 rw [show x+2+4=x+1+5 by omega,hp,show x+2+1=x+3 by omega] at a2
 rw [show x+3+4=x+2+5 by omega,hp,show x+3+1=x+4 by omega] at a3
 rw [show x+4+1=x+5 by omega,hp,show x+4+4=x+3+5 by omega,hp] at a4
 refine ew fun i hi=> ?_
 have g0:=congrArg (fun u=>wb u i) a0
 have g1:=congrArg (fun u=>wb u i) a1
 have g2:=congrArg (fun u=>wb u i) a2
 have g3:=congrArg (fun u=>wb u i) a3
 have g4:=congrArg (fun u=>wb u i) a4
 simp only [f6] at*
 revert g0 g1 g2 g3 g4
 cases wb (z x) i<;>cases wb (z (x+1)) i<;>cases wb (z (x+2)) i<;>cases wb (z (x+3)) i<;>cases wb (z (x+4)) i<;>simp [wb]
theorem Q_ {x y:UInt64} (h:x^^^y=0):x=y:=ew fun i hi=>by
 have:=congrArg (fun u=>wb u i) h
 simp only [f6] at this
 rw [show wb 0 i=false by simp [wb]] at this
 revert this
 cases wb x i<;>cases wb y i<;>simp
theorem lp {A B:List UInt64} (hA:A.length=25) (hB:B.length=25) (h:∀k,k<25→ax A k=ax B k):A=B:=by
 apply List.ext_getElem (by rw [hA,hB])
 intro k h1 h2
 have:=h k (by omega)
 unfold ax at this
 rw [List.getD_eq_getElem?_getD,List.getD_eq_getElem?_getD,List.getElem?_eq_getElem h1,List.getElem?_eq_getElem h2] at this
 exact this
theorem nK (A:List UInt64) {k:Nat} (hk:k<25):ax (bT A) k=ax A k^^^kD A (k%5):=by
 unfold bT ax
 simp [List.getD_eq_getElem?_getD,hk]
theorem Q5 (A:List UInt64) {x:Nat} (hx:x<5):kC (bT A) x=kC A x^^^kD A x:=by
 unfold kC
 rw [nK A (by omega),nK A (by omega),nK A (by omega),nK A (by omega),nK A (by omega),show (x+5)%5=x by omega,show (x+10)%5=x by omega,show (x+15)%5=x by omega,show (x+20)%5=x by omega,Nat.mod_eq_of_lt hx]
 refine ew fun i _=> ?_
 simp only [f6]
 cases wb (ax A x) i<;>cases wb (ax A (x+5)) i<;>cases wb (ax A (x+10)) i<;>cases wb (ax A (x+15)) i<;>cases wb (ax A (x+20)) i<;>cases wb (kD A x) i<;>rfl
theorem CI {A B:List UInt64} (hA:A.length=25) (hB:B.length=25) (h:bT A=bT B):A=B:=by
 have hz:∀x,x<5→kC A x=kC B x:=fun x hx=>by
  have:=Ed (z:=fun x=>kC A (x%5)^^^kC B (x%5)) (fun x=>by simp) (fun x=>by
   have e:kC (bT A) (x%5)=kC (bT B) (x%5):=by rw [h]
   rw [Q5 A (Nat.mod_lt _ (by omega)),Q5 B (Nat.mod_lt _ (by omega))] at e
   unfold kD at e
   rw [show (x%5+4)%5=(x+4)%5 by omega,show (x%5+1)%5=(x+1)%5 by omega] at e
   refine ew fun i hi=> ?_
   have e:=congrArg (fun u=>wb u i) e
   rw [show rI (kC A ((x+1)%5)^^^kC B ((x+1)%5)) 1=rk (kC A ((x+1)%5)) 1^^^rk (kC B ((x+1)%5)) 1 from Gu _ _ 1]
   simp only [f6,show ∀v,(jY v 1|||iF v 63)=rk v 1 from fun _=>rfl] at*
   rw [show wb 0 i=false by simp [wb]]
   revert e
   cases wb (kC A (x%5)) i<;>cases wb (kC B (x%5)) i<;>cases wb (kC A ((x+4)%5)) i<;>cases wb (kC B ((x+4)%5)) i<;>cases wb (rk (kC A ((x+1)%5)) 1) i<;>cases wb (rk (kC B ((x+1)%5)) 1) i<;>simp) x
  have:=Q_ this
  rwa [Nat.mod_eq_of_lt hx] at this
 refine lp hA hB fun k hk=> ?_
 have e:ax (bT A) k=ax (bT B) k:=by rw [h]
 rw [nK A hk,nK B hk] at e
 have:kD A (k%5)=kD B (k%5):=by
  unfold kD
  rw [hz _ (Nat.mod_lt _ (by omega)),hz _ (Nat.mod_lt _ (by omega))]
 rw [this] at e
 refine Q_ (ew fun i hi=> ?_)
 have e:=congrArg (fun u=>wb u i) e
 simp only [f6] at*
 rw [show wb 0 i=false by simp [wb]]
 revert e
 cases wb (ax A k) i<;>cases wb (ax B k) i<;>cases wb (kD B (k%5)) i<;>simp
def tt (a b c:UInt64):UInt64:=a^^^(~~~b&&&c)
theorem MU {a0 a1 a2 a3 a4 b0 b1 b2 b3 b4:UInt64} (h0:tt a0 a1 a2=tt b0 b1 b2) (h1:tt a1 a2 a3=tt b1 b2 b3) (h2:tt a2 a3 a4=tt b2 b3 b4) (h3:tt a3 a4 a0=tt b3 b4 b0) (h4:tt a4 a0 a1=tt b4 b0 b1):a0=b0:=ew fun i hi=>by
 have g:∀ {a b c d e f:UInt64},tt a b c=tt d e f→(wb a i ^^ (!wb b i&&wb c i))=(wb d i ^^ (!wb e i&&wb f i)):=fun {a b c d e f} h=>by
  have:=congrArg (fun u=>wb u i) h
  simp only [tt,f6,O0] at this
  rwa [HH _ hi,HH _ hi] at this
 have h0:=g h0;have h1:=g h1;have h2:=g h2;have h3:=g h3;have h4:=g h4
 revert h0 h1 h2 h3 h4
 generalize wb a0 i=x0;generalize wb a1 i=x1;generalize wb a2 i=x2;generalize wb a3 i=x3;generalize wb a4 i=x4
 generalize wb b0 i=y0;generalize wb b1 i=y1;generalize wb b2 i=y2;generalize wb b3 i=y3;generalize wb b4 i=y4
 revert x0 x1 x2 x3 x4 y0 y1 y2 y3 y4
 decide +kernel
theorem Ea (A:List UInt64) {k:Nat} (hk:k<25):ax (f_ A) k=tt (ax A k) (ax A ((k%5+1)%5+5*(k/5))) (ax A ((k%5+2)%5+5*(k/5))):=by
 unfold f_ tt ax
 simp [List.getD_eq_getElem?_getD,hk]
theorem IY {A B:List UInt64} (hA:A.length=25) (hB:B.length=25) (h:f_ A=f_ B):A=B:=by
 refine lp hA hB fun k hk=> ?_
 have e:∀j,j<25→tt (ax A j) (ax A ((j%5+1)%5+5*(j/5))) (ax A ((j%5+2)%5+5*(j/5)))=tt (ax B j) (ax B ((j%5+1)%5+5*(j/5))) (ax B ((j%5+2)%5+5*(j/5))):=fun j hj=>by
  rw [←Ea A hj,←Ea B hj,h]
 have e0:=e k hk
 have e1:=e ((k%5+1)%5+5*(k/5)) (by omega)
 have e2:=e ((k%5+2)%5+5*(k/5)) (by omega)
 have e3:=e ((k%5+3)%5+5*(k/5)) (by omega)
 have e4:=e ((k%5+4)%5+5*(k/5)) (by omega)
 have q:∀a b,a<5→((a+5*(k/5))%5+b)%5+5*((a+5*(k/5))/5)=(a+b)%5+5*(k/5):=fun a b h=>by omega
 have q2:∀c,(k%5+c)%5<5:=fun c=>Nat.mod_lt _ (by omega)
 rw [q _ _ (q2 _),q _ _ (q2 _)] at e1 e2 e3 e4
 rw [show ((k%5+1)%5+1)%5=(k%5+2)%5 by omega,show ((k%5+1)%5+2)%5=(k%5+3)%5 by omega] at e1
 rw [show ((k%5+2)%5+1)%5=(k%5+3)%5 by omega,show ((k%5+2)%5+2)%5=(k%5+4)%5 by omega] at e2
 rw [show ((k%5+3)%5+1)%5=(k%5+4)%5 by omega,show ((k%5+3)%5+2)%5+5*(k/5)=k by omega] at e3
 rw [show ((k%5+4)%5+1)%5+5*(k/5)=k by omega,show ((k%5+4)%5+2)%5=(k%5+1)%5 by omega] at e4
 exact MU e0 e1 e2 e3 e4
theorem jP (A:List UInt64):eo A= [ax A 0,rk (ax A 6) 44,rk (ax A 12) 43,rk (ax A 18) 21,rk (ax A 24) 14,rk (ax A 3) 28,rk (ax A 9) 20,rk (ax A 10) 3,rk (ax A 16) 45,rk (ax A 22) 61,rk (ax A 1) 1,rk (ax A 7) 6,rk (ax A 13) 25,rk (ax A 19) 8,rk (ax A 20) 18,rk (ax A 4) 27,rk (ax A 5) 36,rk (ax A 11) 10,rk (ax A 17) 15,rk (ax A 23) 56,rk (ax A 2) 62,rk (ax A 8) 55,rk (ax A 14) 39,rk (ax A 15) 41,rk (ax A 21) 2]:=by
 simp [eo,Cs,rT,List.replicate]
theorem Cg {A B:List UInt64} (hA:A.length=25) (hB:B.length=25) (h:eo A=eo B):A=B:=by
 rw [jP,jP] at h
 simp only [List.cons.injEq,and_true] at h
 obtain ⟨h0,h6,h12,h18,h24,h3,h9,h10,h16,h22,h1,h7,h13,h19,h20,h4,h5,h11,h17,h23,h2,h8,h14,h15,h21⟩:=h
 refine lp hA hB fun k hk=> ?_
 have c:k=0∨k=1∨k=2∨k=3∨k=4∨k=5∨k=6∨k=7∨k=8∨k=9∨k=10∨k=11∨k=12∨k=13∨k=14∨k=15∨k=16∨k=17∨k=18∨k=19∨k=20∨k=21∨k=22∨k=23∨k=24:=by omega
 rcases c with rfl|rfl|rfl|rfl|rfl|rfl|rfl|rfl|rfl|rfl|rfl|rfl|rfl|rfl|rfl|rfl|rfl|rfl|rfl|rfl|rfl|rfl|rfl|rfl|rfl
 ·exact h0
 ·exact br (by omega) h1
 ·exact br (by omega) h2
 ·exact br (by omega) h3
 ·exact br (by omega) h4
 ·exact br (by omega) h5
 ·exact br (by omega) h6
 ·exact br (by omega) h7
 ·exact br (by omega) h8
 ·exact br (by omega) h9
 ·exact br (by omega) h10
 ·exact br (by omega) h11
 ·exact br (by omega) h12
 ·exact br (by omega) h13
 ·exact br (by omega) h14
 ·exact br (by omega) h15
 ·exact br (by omega) h16
 ·exact br (by omega) h17
 ·exact br (by omega) h18
 ·exact br (by omega) h19
 ·exact br (by omega) h20
 ·exact br (by omega) h21
 ·exact br (by omega) h22
 ·exact br (by omega) h23
 ·exact br (by omega) h24
theorem rr (l:UInt8):∀j,∃c l',∀A,0<A.length→eK A l j=(A.set 0 (ax A 0^^^c),l')
 |0=>⟨0,l,fun A hA=>by
  cases A with
  |nil=>cases hA
  |cons a r=>simp [eK,ax]⟩
 |j+1=>by
  obtain ⟨c,l',h⟩:=rr l j
  by_cases e:l'&&&1=1
  ·refine ⟨c^^^jY 1 (jY 1 j-1).toNat,Sy l',fun A hA=> ?_⟩
   rw [eK,h A hA]
   cases A with
   |nil=>cases hA
   |cons a r=>simp [ax,e,UInt64.xor_assoc]
  ·refine ⟨c,Sy l',fun A hA=> ?_⟩
   rw [eK,h A hA]
   simp [e]
theorem GI {A B:List UInt64} {c:UInt64} (hA:A.length=25) (hB:B.length=25) (h:A.set 0 (ax A 0^^^c)=B.set 0 (ax B 0^^^c)):A=B:=by
 cases A with
 |nil=>cases hA
 |cons a r=>cases B with
  |nil=>cases hB
  |cons b s=>
   simp [ax] at h
   rw [h.1,h.2]
theorem Co {s t:List UInt64×UInt8} (hs:s.1.length=25) (ht:t.1.length=25) (hl:s.2=t.2) (h:(i5 s).1=(i5 t).1):s.1=t.1:=by
 unfold i5 at h
 rw [←hl] at h
 obtain ⟨c,l',hx⟩:=rr s.2 7
 have h3:∀A,(f_ A).length=25:=fun A=>by simp [f_]
 have h2:∀A,(eo A).length=25:=fun A=>by rw [jP];rfl
 have h1:∀A,(bT A).length=25:=fun A=>by simp [bT]
 rw [hx _ (by rw [h3];omega),hx _ (by rw [h3];omega)] at h
 exact CI hs ht (Cg (h1 _) (h1 _) (IY (h2 _) (h2 _) (GI (h3 _) (h3 _) h)))
theorem Fy (A B:List UInt64):∀i,(pf A i).2=(pf B i).2
 |0=>rfl
 |i+1=>by
  show (i5 (pf A i)).2=(i5 (pf B i)).2
  unfold i5
  rw [Fy A B i]
  obtain ⟨c,l',hx⟩:=rr (pf B i).2 7
  rw [hx _ (by simp [f_]),hx _ (by simp [f_])]
theorem Ai {A B:List UInt64} (hA:A.length=25) (hB:B.length=25):∀i,(pf A i).1=(pf B i).1→A=B
 |0,h=>h
 |i+1,h=>Ai hA hB i (Co (lm hA i) (lm hB i) (Fy A B i) h)
theorem uJ {A B:List UInt64} (hA:A.length=25) (hB:B.length=25) (h:bi A=bi B):A=B:=Ai hA hB 24 h
theorem Gk:∀(N:Nat) (g:Nat→Nat),(∀i,i≤N→g i<N)→∃i j,i<j∧j≤N∧g i=g j
 |0,g,h=>absurd (h 0 (Nat.le_refl _)) (Nat.not_lt_zero _)
 |N+1,g,h=>by
  by_cases he:∃i,i<N+1∧g i=g (N+1)
  ·obtain ⟨i,h1,h2⟩:=he
   exact ⟨i,N+1,h1,Nat.le_refl _,h2⟩
  have hn:∀i,i≤N→g i≠g (N+1):=fun i hi e=>he ⟨i,by omega,e⟩
  have hl:=h (N+1) (Nat.le_refl _)
  obtain ⟨i,j,h1,h2,h3⟩:=Gk N (fun i=>if g i=N then g (N+1) else g i) fun i hi=>by
   have:=h i (by omega)
   have:=hn i hi
   show (if g i=N then g (N+1) else g i)<N
   split<;>omega
  refine ⟨i,j,h1,by omega,?_⟩
  have a:=hn i (by omega)
  have b:=hn j h2
  split at h3<;>split at h3<;>omega
def om:List UInt64→Nat
 | []=>0
 |a::r=>a.toNat+18446744073709551616*om r
theorem uy:∀ {A B:List UInt64},A.length=B.length→om A=om B→A=B
 | [],[],_,_=>rfl
 |a::r,b::s,hl,h=>by
  have ha:=a.toNat_lt
  have hb:=b.toNat_lt
  simp only [om] at h
  have h1:a.toNat=b.toNat:=by omega
  have h2:om r=om s:=by omega
  rw [UInt64.toNat_inj.1 h1,uy (by simpa using hl) h2]
theorem AF:∀A:List UInt64,om A<18446744073709551616^A.length
 | []=>by simp [om]
 |a::r=>by
  have ha:=a.toNat_lt
  have:=AF r
  simp only [om,List.length_cons]
  rw [Nat.pow_succ,Nat.mul_comm]
  generalize 18446744073709551616^r.length=P at*
  omega
theorem A1 {A B:List UInt64} (hA:A.length=25) (hB:B.length=25):∀k,fZ A k=fZ B k→A=B
 |0,h=>h
 |k+1,h=>A1 hA hB k (uJ (dX hA k) (dX hB k) h)
theorem ir (A:List UInt64) (n:Nat):∀m,fZ (fZ A n) m=fZ A (n+m)
 |0=>rfl
 |m+1=>by show bi _=bi _;rw [ir A n m];rfl
theorem GP {A:List UInt64} (hA:A.length=25):∃m,0<m∧m≤18446744073709551616^25∧fZ A m=A:=by
 generalize hN:(18446744073709551616^25:Nat)=N
 obtain ⟨i,j,h1,h2,h3⟩:=Gk N (fun i=>om (fZ A i)) fun i _=>by
  have:=AF (fZ A i)
  rwa [dX hA,hN] at this
 have h4:=uy (by rw [dX hA,dX hA]) h3
 refine ⟨j-i,by omega,by omega,?_⟩
 rw [show j=(j-i)+i by omega,←ir] at h4
 exact (A1 hA (dX hA _) i h4).symm
theorem pE {A:List UInt64} {m:Nat} (h:fZ A m=A):∀n,fZ A (n*m)=A
 |0=>by simp [fZ]
 |n+1=>by rw [Nat.succ_mul,←ir,pE h n,h]
def p8 (n:Nat):Nat:=if n=0 then 1 else 2*p8 (n-1)
termination_by n
decreasing_by omega
theorem zA:∀n,p8 n=2^n
 |0=>by rw [p8];rfl
 |n+1=>by rw [p8,if_neg (by omega),Nat.add_sub_cancel,zA n,Nat.pow_succ,Nat.mul_comm]
def dT (x:UInt16) (s:List UInt16×Nat):List UInt16×Nat:=if x<3329∧s.2<256 then (s.1.set s.2 x,s.2+1) else s
def On (a b:UInt8):UInt16:=a.toUInt16|||KF (b&&&15).toUInt16 8
def Pd (b c:UInt8):UInt16:=(r8 b 4).toUInt16|||KF c.toUInt16 4
def uS (b:Nat→UInt8):Nat→List UInt16×Nat
 |0=>(List.replicate 256 0,0)
 |k+1=>dT (Pd (b (3*k+1)) (b (3*k+2))) (dT (On (b (3*k)) (b (3*k+1))) (uS b k))
structure Sk (s:List UInt16×Nat):Prop where
 len:s.1.length=256
 le:s.2≤256
 lt:∀x∈s.1,x<3329
theorem dK {x:UInt16} {s:List UInt16×Nat} (h:Sk s):Sk (dT x s)∧s.2≤(dT x s).2:=by
 unfold dT
 split
 ·rename_i c
  exact ⟨⟨by rw [List.length_set];exact h.len,c.2,fun y hy=>by
   rcases List.mem_or_eq_of_mem_set hy with h1|h1
   ·exact h.lt y h1
   ·rw [h1];exact c.1⟩,Nat.le_succ _⟩
 ·exact ⟨h,Nat.le_refl _⟩
theorem iN (b:Nat→UInt8):∀k,Sk (uS b k)
 |0=>⟨List.length_replicate,Nat.zero_le _,fun x hx=>by rw [(List.mem_replicate.1 hx).2];decide⟩
 |k+1=>(dK (dK (iN b k)).1).1
theorem A4 (b:Nat→UInt8) (k:Nat):(uS b k).2≤(uS b (k+1)).2:=Nat.le_trans (dK (iN b k)).2 (dK (dK (iN b k)).1).2
theorem lN (b:Nat→UInt8) (k:Nat):∀n,(uS b k).2≤(uS b (k+n)).2
 |0=>Nat.le_refl _
 |n+1=>Nat.le_trans (lN b k n) (A4 b (k+n))
theorem nL {x:UInt16} {s:List UInt16×Nat} (h:s.2=256):dT x s=s:=if_neg fun c=>absurd c.2 (by omega)
theorem lM {b:Nat→UInt8} {k:Nat} (h:(uS b k).2=256):∀n,uS b (k+n)=uS b k
 |0=>rfl
 |n+1=>by
  show dT _ (dT _ (uS b (k+n)))=_
  rw [lM h n,nL h,nL h]
theorem Oo {b:Nat→UInt8} {k:Nat} (h0:b (3*k)=0) (h1:b (3*k+1)=0) (h:(uS b k).2<256):(uS b k).2+1≤(uS b (k+1)).2:=by
 refine Nat.le_trans ?_ (dK (dK (iN b k)).1).2
 rw [h0,h1]
 unfold dT
 rw [if_pos ⟨by decide,h⟩]
 exact Nat.le_refl _
theorem GZ {b:Nat→UInt8} {m:Nat} (h:∀n,0<n→∃k,k<n*m∧(n-1)*m≤k∧b (3*k)=0∧b (3*k+1)=0):∀n,min n 256≤(uS b (n*m)).2
 |0=>by omega
 |n+1=>by
  have h1:=GZ h n
  obtain ⟨k,h2,h3,h4,h5⟩:=h (n+1) (by omega)
  rw [Nat.add_sub_cancel] at h3
  have h6:(uS b (n*m)).2≤(uS b k).2:=by
   have:=lN b (n*m) (k-n*m)
   rwa [show n*m+(k-n*m)=k by omega] at this
  have h7:(uS b (k+1)).2≤(uS b ((n+1)*m)).2:=by
   have:=lN b (k+1) ((n+1)*m-(k+1))
   rwa [show k+1+((n+1)*m-(k+1))=(n+1)*m by omega] at this
  rcases Nat.lt_or_ge (uS b k).2 256 with h8|h8
  ·have:=Oo h4 h5 h8
   omega
  ·have:=A4 b k
   omega
theorem vu {s:List UInt64} {m:List UInt8} {l:Nat} (hs:s.length=25) (h0:ax s l=0) (hm:∀i,i/8=l→m.getD i 0=0):∀i,ax (Dk s m 0 i) l=0
 |0=>h0
 |i+1=>by
  have ih:=vu hs h0 hm i
  unfold Dk
  by_cases e:i/8=l
  ·rw [Nat.zero_add,hm i e,e,ih]
   unfold ax
   rw [List.getD_eq_getElem?_getD,List.getElem?_set]
   rw [if_pos rfl]
   split<;>simp [jY]
  ·unfold ax at*
   rw [List.getD_eq_getElem?_getD,List.getElem?_set,if_neg e,←List.getD_eq_getElem?_getD]
   exact ih
def Dl (b:List UInt8):List UInt64:=Dk (List.replicate 25 0) (je 168 31 b) 0 168
theorem A6 (b:List UInt8):(Dl b).length=25:=lI List.length_replicate _ _ _
theorem KR {b:List UInt8} (hb:b.length=34):ax (Dl b) 5=0:=by
 refine vu List.length_replicate (by decide) (fun i hi=> ?_) 168
 have h1:40≤i∧i<48:=by omega
 unfold je
 rw [hb,show k9 168 34=133 by decide]
 rw [List.getD_eq_getElem?_getD,List.getElem?_set,if_neg (by omega)]
 unfold y6
 rw [List.getElem?_append_right (by omega),hb,List.getElem?_cons,if_neg (by omega),List.getElem?_replicate]
 split<;>rfl
def CM (b:List UInt8) (j:Nat):UInt8:=CG 168 (bi (Dl b)) j
theorem A7 {b:List UInt8} (hb:b.length=34) {t i:Nat} (h:fZ (Dl b) (t+1)=Dl b) (hi:i=42∨i=43):CM b (168*t+i)=0:=by
 unfold CM
 have e:fZ (bi (Dl b)) t=fZ (Dl b) (t+1):=by
  have:=ir (Dl b) 1 t
  rw [Nat.add_comm t 1]
  exact this
 rw [y7 _ (by omega),e,h]
 rcases hi with rfl|rfl<;>simp [KR hb,iF]
theorem Q9 {m:Nat} (h:m≤18446744073709551616^25):256*(56*m)≤p8 1700:=by
 rw [zA]
 have e:256*56*18446744073709551616^25≤2^1700:=by decide +kernel
 generalize 18446744073709551616^25=X at h e
 generalize 2^1700=Y at e ⊢
 omega
theorem G0 {b:List UInt8} (hb:b.length=34):∃m,0<m∧256*m≤p8 1700∧(uS (CM b) (256*m)).2=256:=by
 obtain ⟨m,h1,h2,h3⟩:=GP (A6 b)
 refine ⟨56*m,by omega,?_,?_⟩
 ·exact Q9 h2
 ·have:=GZ (b:=CM b) (m:=56*m) (fun n hn=> ?_) 256
  ·have h4:=(iN (CM b) (256*(56*m))).le
   omega
  ·have hq:=pE h3 n
   obtain ⟨t,ht⟩:∃t,n*m=t+1:=⟨n*m-1,by have:=Nat.mul_pos hn h1;omega⟩
   rw [ht] at hq
   have hu:n*(56*m)=56*(t+1):=by rw [←ht,Nat.mul_left_comm]
   have hu2:(n-1)*(56*m)+56*m=n*(56*m):=by
    rw [←Nat.succ_mul];congr 1;omega
   refine ⟨56*t+14,by omega,by omega,?_,?_⟩
   ·rw [show 3*(56*t+14)=168*t+42 by omega];exact A7 hb hq (.inl rfl)
   ·rw [show 3*(56*t+14)+1=168*t+43 by omega];exact A7 hb hq (.inr rfl)
theorem Q8 {b:List UInt8} (hb:b.length=34) {k:Nat} (hk:p8 1700≤k):(uS (CM b) k).2=256:=by
 obtain ⟨m,_,h2,h3⟩:=G0 hb
 revert hk h2
 generalize p8 1700=K
 intro hk h2
 obtain ⟨n,rfl⟩:∃n,k=256*m+n:=⟨k-256*m,by omega⟩
 rw [lM h3 n];exact h3
def uF (b:Nat→UInt8) (k:Nat):List UInt16:=(uS b k).1
theorem Q7 (b:Nat→UInt8) (k:Nat):(uF b k).length=256∧∀x∈uF b k,x<3329:=⟨(iN b k).len,(iN b k).lt⟩
theorem Q6 {b:Nat→UInt8} {k K:Nat} (h:(uS b k).2=256) (h2:(uS b K).2=256):(uS b k).1=uF b K:=by
 unfold uF
 rcases Nat.le_total k K with hk|hk
 ·obtain ⟨n,rfl⟩:=Nat.exists_eq_add_of_le hk
  rw [lM h n]
 ·obtain ⟨n,rfl⟩:=Nat.exists_eq_add_of_le hk
  rw [lM h2 n]
def nM (b:List UInt8):List UInt16:=uF (CM b) (p8 1700)
theorem KO {b:List UInt8} {k:Nat} (h:(uS (CM b) k).2=256) (hb:b.length=34):(uS (CM b) k).1=nM b:=Q6 h (Q8 hb (Nat.le_refl _))
theorem KP (b:List UInt8):(nM b).length=256∧∀x∈nM b,x<3329:=Q7 _ _
set_option maxRecDepth 10000
theorem SO:aq au (ai []):=aA aj (aS fun p hp=>by cases hp)
def GA (k:Int):UInt64:=UInt64.ofNat k.toNat&&&63
def Cj (x:UInt64) (k:Int):UInt64:=jY x (GA k).toNat|||iF x (64-GA k).toNat
theorem OM (x:UInt64) (k:Int) (hk:0≤k):vc au (ai []) Tryz.f236.ntmps (ag Tryz.f236) ⟨al 0 [.one (.ob .u64 x),.one (.ob .int k)],[],2000⟩ (aD au Tryz.f236.ntmps [.tmp 4] [.one (.ob .u64 (Cj x k))] []):=⟨hk,rfl,trivial⟩
def E9:GF:=fun l=>match l with
 | [.one (.ob .u64 x),.one (.ob .int k)]=>some ⟨[.one (.ob .u64 (Cj x k))],[],some (0≤k)⟩
 |_=>none
theorem yP:ab 236 (ap E9):=af aj SO Tryz.func236 (by kernel_rfl) rfl (rs:= [.tmp 4]) Tryz.results236 fun l g h hp=>by
 unfold E9 at h
 split at h
 ·cases h;exact ⟨Nat.le_of_ble_eq_true rfl,rfl,rfl,rfl,OM _ _ hp⟩
 ·cases h
theorem AR (x:UInt64) {n:Nat} (h:0<n%64) (h2:n<1000):Cj x (n:Int)=rk x (n%64):=by
 have e:(GA (n:Int)).toNat=n%64:=by
  rw [GA,UInt64.toNat_and,UInt64.toNat_ofNat',Int.toNat_natCast,Nat.mod_eq_of_lt (by omega),show (63:UInt64).toNat=2^6-1 from rfl,Nat.and_two_pow_sub_one_eq_mod]
 have e2:(64-GA (n:Int)).toNat=64-n%64:=by
  rw [UInt64.toNat_sub,e,show (64:UInt64).toNat=64 from rfl];omega
 rw [Cj,e,e2]
def O4:List (Nat×CF):= [(236,ap E9)]
theorem LA:∀p∈O4,ab p.1 p.2:=ae yP fun p hp=>by cases hp
theorem DR:aq au (ai O4):=aA aj (aS LA)
def Mn (A:List UInt64):Nat→List UInt64
 |0=>List.replicate 5 0
 |i+1=>(Mn A i).set (i%5) ((Mn A i).getD (i%5) 0^^^ax A i)
theorem KN (A:List UInt64):Mn A 25=(List.range 5).map (kC A):=by
 have e:Mn A 25= [0^^^ax A 0^^^ax A 5^^^ax A 10^^^ax A 15^^^ax A 20,0^^^ax A 1^^^ax A 6^^^ax A 11^^^ax A 16^^^ax A 21,0^^^ax A 2^^^ax A 7^^^ax A 12^^^ax A 17^^^ax A 22,0^^^ax A 3^^^ax A 8^^^ax A 13^^^ax A 18^^^ax A 23,0^^^ax A 4^^^ax A 9^^^ax A 14^^^ax A 19^^^ax A 24]:=by kernel_rfl
 rw [e]
 simp [kC,List.range_succ]
theorem Ll (A:List UInt64) (hA:A.length=25):vc au (ai O4) Tryz.f268.ntmps (ag Tryz.f268) ⟨al 0 [.agg [.vec .u64 25 A]],[],2000⟩ (aD au Tryz.f268.ntmps [.cell 2 284] [.agg [.vec .u64 25 (bT A)]] []):=by
 refine Or.inr ⟨{i:Nat // i≤25},fun i=>⟨[(9,.one (.ob .int (i.val:Int)))],[(2032,.blk 120 [.vec .u64 5 (Mn A i.val)])]⟩,fun i=>25-i.val,⟨0,by omega⟩,?_⟩
 refine ⟨rfl,rfl,rfl,fun i=>⟨fun h1=> ?_,fun h1=> ?_⟩⟩
 ·have h1:=of_decide_eq_true h1
  have hi:=i.2
  repeat refine sd ?_
  refine sj ⟨i.val+1,by omega⟩<|sr<|sr ⟨?_,trivial⟩
  show (Mn A i.val).set ((i.val:Int)%5).toNat ((Mn A i.val).getD ((i.val:Int)%5).toNat 0^^^A.getD ((i.val:Int)).toNat 0)=Mn A (i.val+1)
  rw [show ((i.val:Int)%5).toNat=i.val%5 by omega,Int.toNat_natCast];rfl
 have h1:=of_decide_eq_false h1
 have hi:=i.2
 rw [show i.val=25 by omega,KN]
 refine Or.inr ⟨{j:Nat // j≤25},fun j=>⟨[(21,.one (.ob .int (j.val:Int)))],[(2000,.blk 284 [.vec .u64 25 (bu 0 25 (fun k=>ax A k^^^kD A (k%5)) A j.val)])]⟩,fun j=>25-j.val,⟨0,by omega⟩,?_⟩
 refine ⟨rfl,rfl,dl hA,fun j=>⟨fun h1=> ?_,fun h1=> ?_⟩⟩
 ·have h1:=of_decide_eq_true h1
  have hj:=j.2
  repeat refine sd ?_
  refine sj ⟨j.val+1,by omega⟩<|sr<|sr ⟨?_,trivial⟩
  refine ((congrArg (fun z=>(bu 0 25 (fun k=>ax A k^^^kD A (k%5)) A j.val).set j.val z) ?_).trans bq).symm
  show (bu 0 25 (fun k=>ax A k^^^kD A (k%5)) A j.val).getD j.val 0^^^(((List.range 5).map (kC A)).getD (((j.val:Int)%5+5-1)%5).toNat 0^^^Cj (((List.range 5).map (kC A)).getD (((j.val:Int)%5+1)%5).toNat 0) ((1:Nat):Int))=_
  rw [cg (by omega),if_neg (by omega),show (((j.val:Int)%5+5-1)%5).toNat=(j.val%5+4)%5 by omega,show (((j.val:Int)%5+1)%5).toNat=(j.val%5+1)%5 by omega,a9 (by omega),a9 (by omega),AR _ (by decide) (by decide)]
  rfl
 have h1:=of_decide_eq_false h1
 have hj:=j.2
 rw [show j.val=25 by omega,b9 (by omega)]
 exact ⟨rfl,rfl,trivial⟩
def xI:GF:=fun l=>match l with
 | [.agg [.vec .u64 25 A]]=>some ⟨[.agg [.vec .u64 25 (bT A)]],[],some (A.length=25)⟩
 |_=>none
theorem vy:ab 268 (ap xI):=af aj DR Tryz.func268 (by kernel_rfl) rfl (rs:= [.cell 2 284]) Tryz.results268 fun l g h hp=>by
 unfold xI at h
 split at h
 ·cases h;exact ⟨Nat.le_of_ble_eq_true rfl,rfl,rfl,rfl,Ll _ hp⟩
 ·cases h
def eD (A B:List UInt64):Nat→(Nat×Nat)×List UInt64
 |0=>((1,0),B)
 |t+1=>(((eD A B t).1.2,(2*(eD A B t).1.1+3*(eD A B t).1.2)%5),(eD A B t).2.set ((eD A B t).1.2+5*((2*(eD A B t).1.1+3*(eD A B t).1.2)%5)) (rk (ax A ((eD A B t).1.1+5*(eD A B t).1.2)) (rT t)))
theorem GE (A B:List UInt64):∀t,(eD A B t).1.1<5∧(eD A B t).1.2<5
 |0=>⟨by simp [eD],by simp [eD]⟩
 |t+1=>⟨(GE A B t).2,Nat.mod_lt _ (by omega)⟩
theorem Qe {A:List UInt64} (h:A.length=25):A= [ax A 0,ax A 1,ax A 2,ax A 3,ax A 4,ax A 5,ax A 6,ax A 7,ax A 8,ax A 9,ax A 10,ax A 11,ax A 12,ax A 13,ax A 14,ax A 15,ax A 16,ax A 17,ax A 18,ax A 19,ax A 20,ax A 21,ax A 22,ax A 23,ax A 24]:=by
 refine lp h rfl fun k hk=> ?_
 have c:k=0∨k=1∨k=2∨k=3∨k=4∨k=5∨k=6∨k=7∨k=8∨k=9∨k=10∨k=11∨k=12∨k=13∨k=14∨k=15∨k=16∨k=17∨k=18∨k=19∨k=20∨k=21∨k=22∨k=23∨k=24:=by omega
 rcases c with rfl|rfl|rfl|rfl|rfl|rfl|rfl|rfl|rfl|rfl|rfl|rfl|rfl|rfl|rfl|rfl|rfl|rfl|rfl|rfl|rfl|rfl|rfl|rfl|rfl<;>rfl
theorem KC {A:List UInt64} (h:A.length=25):(eD A A 24).2=eo A:=by
 have e:∀B,B= [ax A 0,ax A 1,ax A 2,ax A 3,ax A 4,ax A 5,ax A 6,ax A 7,ax A 8,ax A 9,ax A 10,ax A 11,ax A 12,ax A 13,ax A 14,ax A 15,ax A 16,ax A 17,ax A 18,ax A 19,ax A 20,ax A 21,ax A 22,ax A 23,ax A 24]→(eD A B 24).2=eo A:=fun B hB=>by
  rw [hB,jP]
  kernel_rfl
 exact e A (Qe h)
theorem Re (A:List UInt64) (hA:A.length=25):vc au (ai O4) Tryz.f269.ntmps (ag Tryz.f269) ⟨al 0 [.agg [.vec .u64 25 A]],[],2000⟩ (aD au Tryz.f269.ntmps [.cell 2 284] [.agg [.vec .u64 25 (eo A)]] []):=by
 refine Or.inr ⟨{t:Nat // t≤24},fun t=>⟨[(9,.one (.ob .int (t.val:Int))),(4,.one (.ob .int ((eD A A t.val).1.1:Int))),(5,.one (.ob .int ((eD A A t.val).1.2:Int)))],[(2048,.blk 284 [.vec .u64 25 (eD A A t.val).2])]⟩,fun t=>24-t.val,⟨0,by omega⟩,?_⟩
 refine ⟨rfl,rfl,rfl,rfl,rfl,fun t=>⟨fun h1=> ?_,fun h1=> ?_⟩⟩
 ·have h1:=of_decide_eq_true h1
  have ht:=t.2
  obtain ⟨hx,hy⟩:=GE A A t.val
  obtain ⟨hn,hm⟩:=Og t.val (by omega)
  have hm2:((t.val:Int)+1)*((t.val:Int)+2)=(((t.val+1)*(t.val+2):Nat):Int):=by simp
  have hn2:((t.val:Int)+1)*((t.val:Int)+2)/2=(((t.val+1)*(t.val+2)/2:Nat):Int):=by rw [hm2];omega
  repeat refine sd ?_
  have hs:eD A A (t.val+1)=(((eD A A t.val).1.2,(2*(eD A A t.val).1.1+3*(eD A A t.val).1.2)%5),(eD A A t.val).2.set ((eD A A t.val).1.2+5*((2*(eD A A t.val).1.1+3*(eD A A t.val).1.2)%5)) (rk (ax A ((eD A A t.val).1.1+5*(eD A A t.val).1.2)) (rT t.val))):=rfl
  have e1:(((eD A A t.val).1.1:Int)+5*((eD A A t.val).1.2:Int)).toNat=(eD A A t.val).1.1+5*(eD A A t.val).1.2:=by omega
  have e2:=Oh (eD A A t.val).1.1 (eD A A t.val).1.2
  refine sj ⟨t.val+1,by omega⟩<|sr<|sr ⟨congrArg (fun z:Int=> [z]) ?_,rfl,?_,trivial⟩
  ·show (((2*(eD A A t.val).1.1+3*(eD A A t.val).1.2)%5:Nat):Int)=(2*((eD A A t.val).1.1:Int)+3*((eD A A t.val).1.2:Int))%5
   omega
  ·show (eD A A (t.val+1)).2=(eD A A t.val).2.set (((eD A A t.val).1.2:Int)+5*((2*((eD A A t.val).1.1:Int)+3*((eD A A t.val).1.2:Int))%5)).toNat (Cj (A.getD (((eD A A t.val).1.1:Int)+5*((eD A A t.val).1.2:Int)).toNat 0) (((t.val:Int)+1)*((t.val:Int)+2)/2))
   rw [hs,e1,e2,hn2,AR _ hn (by omega)]
   rfl
 have h1:=of_decide_eq_false h1
 have ht:=t.2
 rw [show t.val=24 by omega,KC hA]
 exact ⟨rfl,rfl,trivial⟩
def NB:GF:=fun l=>match l with
 | [.agg [.vec .u64 25 A]]=>some ⟨[.agg [.vec .u64 25 (eo A)]],[],some (A.length=25)⟩
 |_=>none
theorem Ci:ab 269 (ap NB):=af aj DR Tryz.func269 (by kernel_rfl) rfl (rs:= [.cell 2 284]) Tryz.results269 fun l g h hp=>by
 unfold NB at h
 split at h
 ·cases h;exact ⟨Nat.le_of_ble_eq_true rfl,rfl,rfl,rfl,Re _ hp⟩
 ·cases h
abbrev Sp (A:List UInt64) (k:Nat):UInt64:=ax A k^^^(~~~ax A ((k%5+1)%5+5*(k/5))&&&ax A ((k%5+2)%5+5*(k/5)))
theorem Ra (A:List UInt64) (hA:A.length=25):vc au (ai O4) Tryz.f270.ntmps (ag Tryz.f270) ⟨al 0 [.agg [.vec .u64 25 A]],[],2000⟩ (aD au Tryz.f270.ntmps [.cell 2 284] [.agg [.vec .u64 25 (f_ A)]] []):=by
 refine Or.inr ⟨{i:Nat // i≤25},fun i=>⟨[(7,.one (.ob .int (i.val:Int)))],[(2048,.blk 284 [.vec .u64 25 (bu 0 25 (Sp A) A i.val)])]⟩,fun i=>25-i.val,⟨0,by omega⟩,?_⟩
 refine ⟨rfl,rfl,dl hA,fun i=>⟨fun h1=> ?_,fun h1=> ?_⟩⟩
 ·have h1:=of_decide_eq_true h1
  have hi:=i.2
  repeat refine sd ?_
  refine sj ⟨i.val+1,by omega⟩<|sr<|sr ⟨?_,trivial⟩
  refine ((congrArg (fun z=>(bu 0 25 (Sp A) A i.val).set i.val z) ?_).trans bq).symm
  show (bu 0 25 (Sp A) A i.val).getD i.val 0^^^(~~~A.getD ((i.val:Int)-(i.val:Int)%5+((i.val:Int)+1)%5).toNat 0&&&A.getD ((i.val:Int)-(i.val:Int)%5+((i.val:Int)+2)%5).toNat 0)=_
  rw [cg (by omega),if_neg (by omega),show ((i.val:Int)-(i.val:Int)%5+((i.val:Int)+1)%5).toNat=(i.val%5+1)%5+5*(i.val/5) by omega,show ((i.val:Int)-(i.val:Int)%5+((i.val:Int)+2)%5).toNat=(i.val%5+2)%5+5*(i.val/5) by omega]
  rfl
 have h1:=of_decide_eq_false h1
 have hi:=i.2
 rw [show i.val=25 by omega,b9 (by omega)]
 exact ⟨rfl,rfl,trivial⟩
def Nu:GF:=fun l=>match l with
 | [.agg [.vec .u64 25 A]]=>some ⟨[.agg [.vec .u64 25 (f_ A)]],[],some (A.length=25)⟩
 |_=>none
theorem Bo:ab 270 (ap Nu):=af aj DR Tryz.func270 (by kernel_rfl) rfl (rs:= [.cell 2 284]) Tryz.results270 fun l g h hp=>by
 unfold Nu at h
 split at h
 ·cases h;exact ⟨Nat.le_of_ble_eq_true rfl,rfl,rfl,rfl,Ra _ hp⟩
 ·cases h
def Sx (i:Nat):UInt64:=ax (eK [0] (pf [] i).2 7).1 0
def JN:List UInt64:= [1,32898,9223372036854808714,9223372039002292224,32907,2147483649,9223372039002292353,9223372036854808585,138,136,2147516425,2147483658,2147516555,9223372036854775947,9223372036854808713,9223372036854808579,9223372036854808578,9223372036854775936,32778,9223372039002259466,9223372039002292353,9223372036854808704,2147483649,9223372039002292232]
theorem NM:∀i,i<24→JN.getD i 0=Sx i:=by decide +kernel
theorem NN (A:List UInt64) (i:Nat):(pf A (i+1)).1=(f_ (eo (bT (pf A i).1))).set 0 (ax (f_ (eo (bT (pf A i).1))) 0^^^Sx i):=by
 show (eK (f_ (eo (bT (pf A i).1))) (pf A i).2 7).1=_
 rw [Fy A [] i,Sx]
 obtain ⟨c,l',h⟩:=rr (pf [] i).2 7
 rw [h _ (by simp [f_]),h [0] (by simp)]
 simp [ax]
theorem CV:vc au (ai []) Tryz.f271.ntmps (ag Tryz.f271) ⟨al 0 [],[],2000⟩ (aD au Tryz.f271.ntmps [.cell 0 288] [.agg [.vec .u64 24 JN]] []):=⟨rfl,rfl,trivial⟩
def mA:GF:=fun l=>match l with
 | []=>some ⟨[.agg [.vec .u64 24 JN]],[],none⟩
 |_=>none
theorem og:ab 271 (ap mA):=af aj SO Tryz.func271 (by kernel_rfl) rfl (rs:= [.cell 0 288]) Tryz.results271 fun l g h hp=>by
 unfold mA at h
 split at h
 ·cases h;exact ⟨Nat.le_of_ble_eq_true rfl,rfl,rfl,rfl,CV⟩
 ·cases h
def RT:List (Nat×CF):=(268,ap xI)::(269,ap NB)::(270,ap Nu)::(271,ap mA)::O4
theorem Pl:∀p∈RT,ab p.1 p.2:=ae vy<|ae Ci<|ae Bo<|ae og LA
theorem R5:aq au (ai RT):=aA aj (aS Pl)
theorem K8 (A:List UInt64) (hA:A.length=25):vc au (ai RT) Tryz.f258.ntmps (ag Tryz.f258) ⟨al 0 [.agg [.vec .u64 25 A]],[],2000⟩ (aD au Tryz.f258.ntmps [.cell 2 260] [.agg [.vec .u64 25 (bi A)]] []):=by
 refine Or.inr ⟨{i:Nat // i≤24},fun i=>⟨[(12,.one (.ob .int (i.val:Int)))],[(2048,.blk 284 [.vec .u64 25 (pf A i.val).1])]⟩,fun i=>24-i.val,⟨0,by omega⟩,?_⟩
 refine ⟨rfl,rfl,rfl,fun i=>⟨fun h1=> ?_,fun h1=> ?_⟩⟩
 ·have h1:=of_decide_eq_true h1
  have hi:=i.2
  have h1':i.val<24:=by omega
  have h25:=lm hA i.val
  have hS:=NN A i.val
  revert h25 hS
  generalize (pf A i.val).1=S
  intro h25 hS
  repeat refine sd ?_
  refine Or.inl ⟨4,⟨h25,by simp [bT],by rw [jP];rfl,?_⟩⟩
  repeat refine sd ?_
  refine sj ⟨i.val+1,by omega⟩<|sr<|sr ⟨?_,trivial⟩
  show (pf A (i.val+1)).1=(f_ (eo (bT S))).set 0 ((f_ (eo (bT S))).getD 0 0^^^JN.getD (i.val:Int).toNat 0)
  rw [hS,Int.toNat_natCast,NM _ h1']
  rfl
 have h1:=of_decide_eq_false h1
 have hi:=i.2
 rw [show i.val=24 by omega]
 exact ⟨rfl,rfl,trivial⟩
set_option maxRecDepth 10000
def xp:GF:=fun l=>match l with
 | [.agg [.vec .u64 25 A]]=>some ⟨[.agg [.vec .u64 25 (bi A)]],[],some (A.length=25)⟩
 |_=>none
theorem uO:ab 258 (ap xp):=af aj R5 Tryz.func258 (by kernel_rfl) rfl (rs:= [.cell 2 260]) Tryz.results258 fun l g h hp=>by
 unfold xp at h
 split at h
 ·cases h;exact ⟨Nat.le_of_ble_eq_true rfl,rfl,rfl,rfl,K8 _ hp⟩
 ·cases h
def Rt:List (Nat×CF):= [(258,ap xp),(102,ap ju)]
theorem LB:∀p∈Rt,ab p.1 p.2:=ae uO<|ae fS fun p hp=>by cases hp
theorem R6:aq au (ai Rt):=aA aj (aS LB)
theorem mJ {α:Type} (l:List α) (n i:Nat) (d:α):(l.drop n).getD i d=l.getD (n+i) d:=by
 simp [List.getD_eq_getElem?_getD,List.getElem?_drop]
def Dj (r:Nat) (x:UInt8) (b:List UInt8):List UInt64:=Di r (je r x b) ((je r x b).length/r)
set_option maxHeartbeats 4000000 in
theorem Hr (r:Nat) (x:UInt8) (q:List (List UInt8)) (hr:mQ r) (hb:q.flatten.length≤8000000):vc au (ai Rt) Tryz.f240.ntmps (ag Tryz.f240) ⟨al 0 [.one (.ob .int (r:Int)),.one (.ob .u8 x),.one (.bb q)],[],2000⟩ (aD au Tryz.f240.ntmps [.tmp 6] [.one (.ptr 0 0)] [(0,.blk 268 [.vec .u64 25 (Dj r x q.flatten),.ob .int (r:Int),.ob .int 0])]):=by
 have hr2:72≤r∧r≤168:=by rcases hr with rfl|rfl|rfl<;>omega
 have hl:(q.flatten++ [x]).length=q.flatten.length+1:=by simp
 obtain ⟨hz1,K,hK⟩:=Oj (n:=q.flatten.length) hr
 have hz:((r:Int)-((q.flatten++ [x]).length:Int)%(r:Int))%(r:Int)=((k9 r q.flatten.length:Nat):Int):=by
  rw [hl];unfold k9
  rcases hr with rfl|rfl|rfl<;>omega
 have hz2:q.flatten++ [x]++List.replicate (k9 r q.flatten.length) 0=y6 q.flatten x (k9 r q.flatten.length):=by simp [y6]
 have hzl:=AY q.flatten x (k9 r q.flatten.length)
 have hm0:0≤((q.flatten++ [x]).length:Int)%(r:Int)∧((q.flatten++ [x]).length:Int)%(r:Int)<r:=⟨Int.emod_nonneg _ (by omega),Int.emod_lt_of_pos _ (by omega)⟩
 refine ⟨by omega,by omega,⟨by omega,by omega⟩,⟨by omega,by omega⟩,⟨by omega,by omega⟩,⟨by rw [hz];omega,by rw [hz,Int.toNat_natCast,hz2,hzl];omega⟩,fun _=> ?_⟩
 rw [hz,Int.toNat_natCast,hz2]
 have hM:=AZ r x q.flatten
 have hset:(y6 q.flatten x (k9 r q.flatten.length)).set (((y6 q.flatten x (k9 r q.flatten.length)).length:Int)-1).toNat ((y6 q.flatten x (k9 r q.flatten.length)).getD (((y6 q.flatten x (k9 r q.flatten.length)).length:Int)-1).toNat 0|||128)=je r x q.flatten:=by
  rw [hzl,show (((q.flatten.length+1+k9 r q.flatten.length:Nat):Int)-1).toNat=q.flatten.length+k9 r q.flatten.length by omega]
  rfl
 refine ⟨⟨by omega,by omega⟩,⟨by omega,by omega⟩,by omega,⟨by omega,by omega⟩,by omega,?_⟩
 refine fun _=> ?_
 refine Or.inr ⟨{k:Nat // k≤K},fun k=>⟨[(7,.one (.ro .u8 ((je r x q.flatten).drop (r*k.val))))],[(2464,.blk 268 [.vec .u64 25 (Di r (je r x q.flatten) k.val),.ob .int (r:Int),.ob .int 0])]⟩,fun k=>K-k.val,⟨0,by omega⟩,?_⟩
 refine ⟨?_,rfl,rfl,rfl,rfl,fun k hl3=>⟨fun h1=> ?_,fun h1=> ?_⟩⟩
 ·show (je r x q.flatten).drop (r*0)=(y6 q.flatten x (k9 r q.flatten.length)).set (((y6 q.flatten x (k9 r q.flatten.length)).length:Int)-1).toNat ((y6 q.flatten x (k9 r q.flatten.length)).getD (((y6 q.flatten x (k9 r q.flatten.length)).length:Int)-1).toNat 0|||128)
  rw [hset,Nat.mul_zero];rfl
 ·have h1:=of_decide_eq_true h1
  have hk:=k.2
  have hd:((je r x q.flatten).drop (r*k.val)).length=(je r x q.flatten).length-r*k.val:=List.length_drop
  have h4:k.val<K:=by
   rcases Nat.lt_or_ge k.val K with h|h
   ·exact h
   ·have:r*K≤r*k.val:=Nat.mul_le_mul_left r h
    omega
  have h5:r*k.val+r≤(je r x q.flatten).length:=by
   rw [hM,hK,←Nat.mul_succ]
   exact Nat.mul_le_mul_left r h4
  generalize hO:r*k.val=O at h5 hd
  refine Or.inr ⟨{i:Nat // i≤r},fun i=>⟨[(43,.one (.ob .int (i.val:Int)))],[(2464,.blk 268 [.vec .u64 25 (Dk (Di r (je r x q.flatten) k.val) (je r x q.flatten) O i.val),.ob .int (r:Int),.ob .int 0])]⟩,fun i=>r-i.val,⟨0,by omega⟩,?_⟩
  refine ⟨rfl,rfl,rfl,rfl,rfl,fun i=>⟨fun h7=> ?_,fun h7=> ?_⟩⟩
  ·have h7:=of_decide_eq_true h7
   have hi:=i.2
   repeat refine sd ?_
   refine sj ⟨i.val+1,by omega⟩<|sr<|sr ⟨?_,rfl,rfl,trivial⟩
   show Dk (Di r (je r x q.flatten) k.val) (je r x q.flatten) O (i.val+1)=(Dk (Di r (je r x q.flatten) k.val) (je r x q.flatten) O i.val).set ((i.val:Int)/8).toNat ((Dk (Di r (je r x q.flatten) k.val) (je r x q.flatten) O i.val).getD ((i.val:Int)/8).toNat 0^^^jY (UInt8.toUInt64 (((je r x q.flatten).drop O).getD (i.val:Int).toNat 0)) (8*((i.val:Int)%8)).toNat)
   rw [SC,SZ,Int.toNat_natCast,mJ]
   rfl
  have h7:=of_decide_eq_false h7
  have hi:=i.2
  rw [show i.val=r by omega]
  refine ⟨lI (sB _ _ _) _ _ _,?_⟩
  have hO2:r*(k.val+1)=O+r:=by rw [Nat.mul_succ,hO]
  refine ⟨⟨by show (0:Int)≤(r:Int);omega,by show (r:Int)≤(((je r x q.flatten).drop O).length:Nat);omega⟩,sj ⟨k.val+1,by omega⟩ ⟨?_,rfl,?_,rfl,rfl,trivial⟩⟩
  ·show (je r x q.flatten).drop (r*(k.val+1))=((je r x q.flatten).drop O).drop (r:Int).toNat
   rw [hO2,List.drop_drop,Int.toNat_natCast]
  ·show Di r (je r x q.flatten) (k.val+1)=_
   rw [Di,hO]
 have h1:=of_decide_eq_false h1
 have hk:=k.2
 have hd:((je r x q.flatten).drop (r*k.val)).length=(je r x q.flatten).length-r*k.val:=List.length_drop
 have h4:k.val=K:=by
  rcases Nat.lt_or_ge k.val K with h|h
  ·have:r*k.val<r*K:=Nat.mul_lt_mul_of_pos_left h (by omega)
   omega
  ·omega
 have hS:Dj r x q.flatten=Di r (je r x q.flatten) K:=by
  unfold Dj
  rw [hM,hK,Nat.mul_div_cancel_left _ (by omega)]
 rw [hS,h4]
 exact ⟨rfl,rfl,rfl,rfl,trivial⟩
theorem sC (r:Nat) (x:UInt8) (b:List UInt8):(Dj r x b).length=25:=sB _ _ _
def ra:GF:=fun l=>match l with
 | [.one (.ob .int r),.one (.ob .u8 x),.one (.bb q)]=>some ⟨[.one (.ptr 0 0)],[(0,.blk 268 [.vec .u64 25 (Dj r.toNat x q.flatten),.ob .int (r.toNat:Int),.ob .int 0])],some (mQ r.toNat∧q.flatten.length≤8000000)⟩
 |_=>none
theorem sA:ab 240 (ap ra):=af aj R6 Tryz.func240 (by kernel_rfl) rfl (rs:= [.tmp 6]) Tryz.results240 fun l g h hp=>by
 unfold ra at h
 split at h
 ·rename_i r x q
  cases h
  obtain ⟨h1,h2⟩:=hp
  obtain ⟨r,rfl⟩:∃m:Nat,r=(m:Int):=⟨r.toNat,vz (by rcases h1 with h|h|h<;>rw [h]<;>decide)⟩
  exact ⟨Nat.le_of_ble_eq_true rfl,rfl,rfl,rfl,Hr _ _ _ h1 h2⟩
 ·cases h
set_option maxRecDepth 10000
def Ru:List (Nat×CF):=(240,ap ra)::Rt
theorem LC:∀p∈Ru,ab p.1 p.2:=ae sA LB
theorem R7:aq au (ai Ru):=aA aj (aS LC)
def cN (r at' n:Nat):Nat:=(at'+n-1)/r
def nW (r:Nat) (s:List UInt64) (a n:Nat):List UInt8:=(List.range n).map fun j=>CG r s (a+j)
theorem nC {r a i:Nat} (hr:0<r):r*cN r a i≤a+i∧a+i-r*cN r a i≤r:=by
 unfold cN
 have h1:=Nat.div_add_mod (a+i-1) r
 have h2:=Nat.mod_lt (a+i-1) hr
 generalize r*((a+i-1)/r)=O at*
 omega
theorem Mi {r a:Nat} (hr:0<r) (h:a≤r):cN r a 0=0:=Nat.div_eq_of_lt (by omega)
theorem Gw {r a i:Nat} (hr:0<r) (h:a+i-r*cN r a i=r):a+i=r*(cN r a i+1)∧cN r a (i+1)=cN r a i+1:=by
 have h1:a+i=r*(cN r a i+1):=by rw [Nat.mul_succ];omega
 refine ⟨h1,?_⟩
 show (a+(i+1)-1)/r=_
 rw [show a+(i+1)-1=a+i by omega,h1,Nat.mul_div_cancel_left _ hr]
theorem Gx {r a i:Nat} (hr:0<r) (h:¬a+i-r*cN r a i=r):cN r a (i+1)=cN r a i:=by
 obtain ⟨h1,h2⟩:=nC (a:=a) (i:=i) hr
 show (a+(i+1)-1)/r=_
 have e:a+(i+1)-1=r*cN r a i+(a+i-r*cN r a i):=by omega
 rw [e,Nat.mul_add_div hr,Nat.div_eq_of_lt (by omega),Nat.add_zero]
theorem uZ (r:Nat) (s:List UInt64) (a i:Nat):nW r s a (i+1)=nW r s a i++ [CG r s (a+i)]:=yJ _ _
theorem jN (r:Nat) (s:List UInt64) (a i:Nat):(nW r s a i).length=i:=by simp [nW]
set_option maxHeartbeats 4000000 in
theorem OK (r:Nat) (s:List UInt64) (a n:Nat) (hr:mQ r) (hs:s.length=25) (ha:a≤r) (hn:n≤65536):vc au (ai Ru) Tryz.f241.ntmps (ag Tryz.f241) ⟨al 0 [.one (.ptr 1000 0),.one (.ob .int (n:Int))],aQ 1000 [.blk 268 [.vec .u64 25 s,.ob .int (r:Int),.ob .int (a:Int)]],2000⟩ (bR au Tryz.f241.ntmps [.tmp 4] [.one (.rw 0)] [(0,.row 5 .u8 (nW r s a n)),(1000,.blk 268 [.vec .u64 25 (fZ s (cN r a n)),.ob .int (r:Int),.ob .int ((a+n-r*cN r a n:Nat):Int)])] [.blk 268 [.vec .u64 25 s,.ob .int (r:Int),.ob .int (a:Int)]] []):=by
 have hr2:72≤r∧r≤168:=by rcases hr with rfl|rfl|rfl<;>omega
 refine Or.inr ⟨{i:Nat // i≤n},fun i=>⟨[(4,.one (.rw 0))],[(0,.row 5 .u8 (nW r s a i.val)),(1000,.blk 268 [.vec .u64 25 (fZ s (cN r a i.val)),.ob .int (r:Int),.ob .int ((a+i.val-r*cN r a i.val:Nat):Int)])]⟩,fun i=>n-i.val,⟨0,by omega⟩,?_⟩
 refine ⟨rfl,rfl,by rw [show cN r a 0=0 from Mi (by omega) ha];rfl,rfl,?_,fun i hl=>⟨fun h1=>⟨fun h2=> ?_,fun h2=> ?_⟩,fun h1=> ?_⟩⟩
 ·show [((a+0-r*cN r a 0:Nat):Int)]= [(a:Int)]
  rw [Mi (by omega) ha];simp
 ·have h1:=of_decide_eq_true h1
  have h2:=of_decide_eq_true h2
  rw [jN] at h1
  have h2:a+i.val-r*cN r a i.val=r:=by omega
  obtain ⟨f1,f2⟩:=Gw (by omega) h2
  have hQ:=dX hs (cN r a i.val)
  have hb:nW r s a (i.val+1)=nW r s a i.val++ [(iF ((bi (fZ s (cN r a i.val))).getD 0 0) 0).toUInt8]:=by
   rw [uZ,f1,show r*(cN r a i.val+1)=r*(cN r a i.val+1)+0 from rfl,y7 _ (by omega)];rfl
  refine ⟨hQ,⟨?_,sj ⟨i.val+1,by omega⟩ ⟨hb,rfl,?_,rfl,?_,trivial⟩⟩⟩
  ·show (nW r s a i.val++ [(iF ((bi (fZ s (cN r a i.val))).getD 0 0) 0).toUInt8]).length≤16777216
   rw [←hb,jN];omega
  ·show fZ s (cN r a (i.val+1))=bi (fZ s (cN r a i.val))
   rw [f2];rfl
  ·show [((a+(i.val+1)-r*cN r a (i.val+1):Nat):Int)]= [(1:Int)]
   rw [f2,←f1]
   exact congrArg (fun z:Int=> [z]) (by omega)
 ·have h1:=of_decide_eq_true h1
  have h2:=of_decide_eq_false h2
  rw [jN] at h1
  have h2:¬a+i.val-r*cN r a i.val=r:=by omega
  obtain ⟨s1,s2⟩:=nC (r:=r) (a:=a) (i:=i.val) (by omega)
  have f2:=Gx (by omega) h2
  obtain ⟨A,hA⟩:∃A,a+i.val-r*cN r a i.val=A:=⟨_,rfl⟩
  rw [hA] at h2 s2
  have hb:nW r s a (i.val+1)=nW r s a i.val++ [(iF ((fZ s (cN r a i.val)).getD ((A:Int)/8).toNat 0) (8*((A:Int)%8)).toNat).toUInt8]:=by
   rw [uZ,show a+i.val=r*cN r a i.val+A by omega,y7 _ (by omega),SC,SZ];rfl
  have f3:a+(i.val+1)-r*cN r a (i.val+1)=A+1:=by rw [f2];omega
  have hl2:=jN r s a (i.val+1)
  rw [hA]
  refine ⟨⟨⟨by omega,by omega⟩,by omega,by omega⟩,⟨by omega,by show (A:Int)/8<25;omega⟩,by omega,?_⟩
  repeat refine sd ?_
  refine ⟨?_,?_⟩
  ·show (nW r s a i.val++ [(iF ((fZ s (cN r a i.val)).getD ((A:Int)/8).toNat 0) (8*((A:Int)%8)).toNat).toUInt8]).length≤16777216
   rw [←hb,hl2];omega
  refine ⟨⟨by omega,by omega⟩,sj ⟨i.val+1,by omega⟩ ⟨hb,rfl,?_,rfl,?_,trivial⟩⟩
  ·show fZ s (cN r a (i.val+1))=fZ s (cN r a i.val)
   rw [f2]
  ·show [((a+(i.val+1)-r*cN r a (i.val+1):Nat):Int)]= [(A:Int)+1]
   rw [f3];rfl
 ·have h1:=of_decide_eq_false h1
  have hi:=i.2
  rw [jN] at h1
  rw [show i.val=n by omega]
  exact ⟨rfl,rfl,rfl,rfl,rfl,trivial⟩
def QL (r a n:Int) (s:List UInt64):Prop:=mQ r.toNat∧s.length=25∧0≤a∧a≤r∧Dc 0 n 65536
def E6:fB:=fun l cs=>match l,cs with
 | [.one (.ptr 1000 0),.one (.ob .int n)],[.blk 268 [.vec .u64 25 s,.ob .int r,.ob .int a]]=>some ⟨[.one (.rw 0)],[(0,.row 5 .u8 (nW r.toNat s a.toNat n.toNat)),(1000,.blk 268 [.vec .u64 25 (fZ s (cN r.toNat a.toNat n.toNat)),.ob .int r,.ob .int ((a.toNat+n.toNat-r.toNat*cN r.toNat a.toNat n.toNat:Nat):Int)])],[],some (QL r a n s)⟩
 |_,_=>none
theorem yK:ab 241 (iz E6):=aW aj R7 Tryz.func241 (by kernel_rfl) rfl (rs:= [.tmp 4]) Tryz.results241 fun l cs g h hp=>by
 unfold E6 at h
 split at h
 ·rename_i n s r a
  cases h
  obtain ⟨h1,h2,h3,h4,h5,h6⟩:=hp
  obtain ⟨n,rfl⟩:=Int.eq_ofNat_of_zero_le h5
  obtain ⟨a,rfl⟩:=Int.eq_ofNat_of_zero_le h3
  obtain ⟨r,rfl⟩:∃m:Nat,r=(m:Int):=⟨r.toNat,vz (by rcases h1 with h|h|h<;>rw [h]<;>decide)⟩
  exact ⟨Nat.le_of_ble_eq_true rfl,rfl,rfl,rfl,OK _ _ _ _ h1 h2 (by omega) (by omega)⟩
 ·cases h
def Mu:List (Nat×CF):=(241,iz E6)::Ru
theorem Pm:∀p∈Mu,ab p.1 p.2:=ae yK LC
theorem DS:aq au (ai Mu):=aA aj (aS Pm)
theorem sf (r:Nat) (s:List UInt64) (n:Nat):nW r s 0 n=(List.range n).map (CG r s):=by
 unfold nW
 refine List.map_congr_left fun j _=> ?_
 rw [Nat.zero_add]
theorem Rf (n:Int) (q:List (List UInt8)) (hn:0≤n) (hq:q.flatten.length≤8000000):vc au (ai Mu) Tryz.f259.ntmps (ag Tryz.f259) ⟨al 0 [.one (.ob .int n),.one (.bb q)],[],2000⟩ (aD au Tryz.f259.ntmps [.tmp 4] [.one (.rw 0)] [(0,.row 5 .u8 (eR 136 31 q.flatten (min n 65536).toNat))]):=by
 refine ⟨⟨.inr (.inl rfl),hq⟩,⟨.inr (.inl rfl),sC _ _ _,by decide,by decide,?_,?_⟩,?_,trivial⟩
 ·show 0≤min n 65536;omega
 ·show min n 65536≤65536;omega
 ·show eR 136 31 q.flatten (min n 65536).toNat=nW 136 (Dj 136 31 q.flatten) 0 (min n 65536).toNat
  rw [sf];rfl
def NC:GF:=fun l=>match l with
 | [.one (.ob .int n),.one (.bb q)]=>some ⟨[.one (.rw 0)],[(0,.row 5 .u8 (eR 136 31 q.flatten (min n 65536).toNat))],some (0≤n∧q.flatten.length≤8000000)⟩
 |_=>none
theorem CD:ab 259 (ap NC):=af aj DS Tryz.func259 (by kernel_rfl) rfl (rs:= [.tmp 4]) Tryz.results259 fun l g h hp=>by
 unfold NC at h
 split at h
 ·cases h;exact ⟨Nat.le_of_ble_eq_true rfl,rfl,rfl,rfl,Rf _ _ hp.1 hp.2⟩
 ·cases h
theorem ON (q:List (List UInt8)) (hq:q.flatten.length≤8000000):vc au (ai Mu) Tryz.f212.ntmps (ag Tryz.f212) ⟨al 0 [.one (.bb q)],[],2000⟩ (aD au Tryz.f212.ntmps [.tmp 2] [.one (.rw 0)] [(0,.row 5 .u8 (f8 32 q.flatten))]):=by
 refine ⟨⟨.inr (.inl rfl),hq⟩,⟨.inr (.inl rfl),sC _ _ _,by decide,by decide,by decide,by decide⟩,?_,trivial⟩
 show f8 32 q.flatten=nW 136 (Dj 136 6 q.flatten) 0 32
 rw [sf];rfl
def E_:GF:=fun l=>match l with
 | [.one (.bb q)]=>some ⟨[.one (.rw 0)],[(0,.row 5 .u8 (f8 32 q.flatten))],some (q.flatten.length≤8000000)⟩
 |_=>none
theorem yR:ab 212 (ap E_):=af aj DS Tryz.func212 (by kernel_rfl) rfl (rs:= [.tmp 2]) Tryz.results212 fun l g h hp=>by
 unfold E_ at h
 split at h
 ·cases h;exact ⟨Nat.le_of_ble_eq_true rfl,rfl,rfl,rfl,ON _ hp⟩
 ·cases h
theorem OO (q:List (List UInt8)) (hq:q.flatten.length≤8000000):vc au (ai Mu) Tryz.f204.ntmps (ag Tryz.f204) ⟨al 0 [.one (.bb q)],[],2000⟩ (aD au Tryz.f204.ntmps [.tmp 2] [.one (.rw 0)] [(0,.row 5 .u8 (f8 64 q.flatten))]):=by
 refine ⟨⟨.inl rfl,hq⟩,⟨.inl rfl,sC _ _ _,by decide,by decide,by decide,by decide⟩,?_,trivial⟩
 show f8 64 q.flatten=nW 72 (Dj 72 6 q.flatten) 0 64
 rw [sf];rfl
def Fa:GF:=fun l=>match l with
 | [.one (.bb q)]=>some ⟨[.one (.rw 0)],[(0,.row 5 .u8 (f8 64 q.flatten))],some (q.flatten.length≤8000000)⟩
 |_=>none
theorem yS:ab 204 (ap Fa):=af aj DS Tryz.func204 (by kernel_rfl) rfl (rs:= [.tmp 2]) Tryz.results204 fun l g h hp=>by
 unfold Fa at h
 split at h
 ·cases h;exact ⟨Nat.le_of_ble_eq_true rfl,rfl,rfl,rfl,OO _ hp⟩
 ·cases h
theorem K7 (q:List (List UInt8)) (hq:q.flatten.length≤8000000):vc au (ai Mu) Tryz.f261.ntmps (ag Tryz.f261) ⟨al 0 [.one (.bb q)],[],2000⟩ (aD au Tryz.f261.ntmps [.tmp 2] [.one (.ptr 0 0)] [(0,.blk 291 [.ptr 1 0]),(1,.blk 268 [.vec .u64 25 (Dj 168 31 q.flatten),.ob .int 168,.ob .int 0])]):=by
 exact ⟨⟨.inr (.inr rfl),hq⟩,rfl,rfl,rfl,rfl,trivial⟩
def xo:GF:=fun l=>match l with
 | [.one (.bb q)]=>some ⟨[.one (.ptr 0 0)],[(0,.blk 291 [.ptr 1 0]),(1,.blk 268 [.vec .u64 25 (Dj 168 31 q.flatten),.ob .int 168,.ob .int 0])],some (q.flatten.length≤8000000)⟩
 |_=>none
theorem ur:ab 261 (ap xo):=af aj DS Tryz.func261 (by kernel_rfl) rfl (rs:= [.tmp 2]) Tryz.results261 fun l g h hp=>by
 unfold xo at h
 split at h
 ·cases h;exact ⟨Nat.le_of_ble_eq_true rfl,rfl,rfl,rfl,K7 _ hp⟩
 ·cases h
theorem Hm (s:List UInt64) (a n:Int) (hs:s.length=25) (ha:0≤a∧a≤168) (hn:1≤n∧n≤65536):vc au (ai Mu) Tryz.f262.ntmps (ag Tryz.f262) ⟨al 0 [.one (.ptr 1000 0),.one (.ob .int n)],aQ 1000 [.blk 291 [.ptr 1001 0],.blk 268 [.vec .u64 25 s,.ob .int 168,.ob .int a]],2000⟩ (bR au Tryz.f262.ntmps [.tmp 4] [.one (.rw 0)] [(0,.row 5 .u8 (nW 168 s a.toNat n.toNat)),(1001,.blk 268 [.vec .u64 25 (fZ s (cN 168 a.toNat n.toNat)),.ob .int 168,.ob .int ((a.toNat+n.toNat-168*cN 168 a.toNat n.toNat:Nat):Int)])] [.blk 291 [.ptr 1001 0],.blk 268 [.vec .u64 25 s,.ob .int 168,.ob .int a]] []):=by
 refine ⟨fun h=>absurd (of_decide_eq_true h) (by omega),fun h=>⟨h,fun h2=>absurd (of_decide_eq_true h2) (by show ¬65536<n;omega),fun h2=> ?_⟩⟩
 exact ⟨⟨.inr (.inr rfl),hs,ha.1,ha.2,by omega,hn.2⟩,rfl,rfl,rfl,rfl,rfl,trivial⟩
def qX:fB:=fun l cs=>match l,cs with
 | [.one (.ptr 1000 0),.one (.ob .int n)],[.blk 291 [.ptr 1001 0],.blk 268 [.vec .u64 25 s,.ob .int 168,.ob .int a]]=>some ⟨[.one (.rw 0)],[(0,.row 5 .u8 (nW 168 s a.toNat n.toNat)),(1001,.blk 268 [.vec .u64 25 (fZ s (cN 168 a.toNat n.toNat)),.ob .int 168,.ob .int ((a.toNat+n.toNat-168*cN 168 a.toNat n.toNat:Nat):Int)])],[],some (s.length=25∧(0≤a∧a≤168)∧1≤n∧n≤65536)⟩
 |_,_=>none
theorem sg:ab 262 (iz qX):=aW aj DS Tryz.func262 (by kernel_rfl) rfl (rs:= [.tmp 4]) Tryz.results262 fun l cs g h hp=>by
 unfold qX at h
 split at h
 ·cases h;exact ⟨Nat.le_of_ble_eq_true rfl,rfl,rfl,rfl,Hm _ _ _ hp.1 hp.2.1 hp.2.2⟩
 ·cases h
set_option maxRecDepth 10000
def RU:List (Nat×CF):= [(261,ap xo),(262,iz qX)]
theorem Pn:∀p∈RU,ab p.1 p.2:=ae ur<|ae sg fun p hp=>by cases hp
theorem R8:aq au (ai RU):=aA aj (aS Pn)
theorem KI (r:Nat) (s:List UInt64) (hr:0<r) (q j:Nat):CG r (fZ s q) j=CG r s (r*q+j):=by
 unfold CG
 rw [ir,Nat.mul_add_div hr,Nat.mul_add_mod]
theorem Kt (s:List UInt64) (k:Nat) {A Q:Nat} (hA:504*k-168*cN 168 0 (504*k)=A) (hQ:cN 168 0 (504*k)=Q):nW 168 (fZ s Q) A 504=(List.range 504).map (fun j=>CG 168 s (504*k+j))∧Q+cN 168 A 504=cN 168 0 (504*(k+1))∧A+504-168*cN 168 A 504=504*(k+1)-168*cN 168 0 (504*(k+1))∧A≤168:=by
 obtain ⟨h1,h2⟩:=nC (r:=168) (a:=0) (i:=504*k) (by omega)
 rw [hQ] at h1 h2 hA
 have e:504*k=168*Q+A:=by omega
 refine ⟨?_,?_,?_,by omega⟩
 ·refine List.map_congr_left fun j _=> ?_
  rw [KI _ _ (by omega),e,Nat.add_assoc]
 ·unfold cN
  omega
 ·unfold cN
  omega
def cR (seed:List UInt8) (i j:UInt8):List UInt8:=seed++ [i,j]
set_option maxHeartbeats 4000000 in
theorem Rh (seed:List UInt8) (i j:UInt8) (hs:seed.length=32):vc au (ai RU) Tryz.f245.ntmps (ag Tryz.f245) ⟨al 0 [.one (.ro .u8 seed),.one (.ob .u8 i),.one (.ob .u8 j)],[],2000⟩ (aD au Tryz.f245.ntmps [.cell 6 141] [.agg [.vec .u16 256 (nM (cR seed i j))]] []):=by
 have hb:(cR seed i j).length=34:=by simp [cR,hs]
 obtain ⟨m,hm0,_,hm⟩:=G0 hb
 have hf: [seed,[i,j]].flatten=cR seed i j:=by simp [cR]
 refine ⟨by rw [hf];omega,?_⟩
 have hS:Dj 168 31 [seed,[i,j]].flatten=bi (Dl (cR seed i j)):=by
  rw [hf]
  unfold Dj
  rw [AZ,hb,show (34+1+k9 168 34)/168=0+1 by decide]
  rfl
 rw [hS]
 have hS2:(bi (Dl (cR seed i j))).length=25:=fU (A6 _)
 have hB:∀n,CM (cR seed i j) n=CG 168 (bi (Dl (cR seed i j))) n:=fun _=>rfl
 have hfin:∀k,(uS (CM (cR seed i j)) k).2=256→(uS (CM (cR seed i j)) k).1=nM (cR seed i j):=fun k h=>KO h hb
 generalize bi (Dl (cR seed i j))=S at hS2 hB
 generalize CM (cR seed i j)=B at hB hm hfin
 refine Or.inr ⟨{k:Nat // k≤256*m},fun k=>⟨[(8,.one (.ob .int ((uS B (168*k.val)).2:Int)))],[(2000,.blk 141 [.vec .u16 256 (uS B (168*k.val)).1]),(2097,.blk 268 [.vec .u64 25 (fZ S (cN 168 0 (504*k.val))),.ob .int 168,.ob .int ((504*k.val-168*cN 168 0 (504*k.val):Nat):Int)])]⟩,fun k=>256*m-k.val,⟨0,by omega⟩,?_⟩
 have h0:cN 168 0 (504*0)=0:=by decide
 refine ⟨rfl,rfl,rfl,rfl,by show fZ S (cN 168 0 (504*0))=S;rw [h0];rfl,rfl,by show [((504*0-168*cN 168 0 (504*0):Nat):Int)]= [0];rw [h0];rfl,fun k=>⟨fun h1=> ?_,fun h1=> ?_⟩⟩
 ·have h1:=of_decide_eq_true h1
  obtain ⟨A,hA⟩:∃A,504*k.val-168*cN 168 0 (504*k.val)=A:=⟨_,rfl⟩
  obtain ⟨Q,hQ⟩:∃Q,cN 168 0 (504*k.val)=Q:=⟨_,rfl⟩
  obtain ⟨r1,r2,r3,r4⟩:=Kt S k.val hA hQ
  have hk:k.val+1≤256*m:=by
   rcases Nat.lt_or_ge k.val (256*m) with h|h
   ·exact h
   ·have:=lN B (256*m) (168*k.val-256*m)
    rw [show 256*m+(168*k.val-256*m)=168*k.val by omega] at this
    omega
  rw [hA,hQ]
  obtain ⟨C,hC⟩:∃C,(List.range 504).map (fun j=>CG 168 S (504*k.val+j))=C:=⟨_,rfl⟩
  have hC1:C.length=504:=by rw [←hC];simp
  have hC2:∀t,t<504→C.getD t 0=B (504*k.val+t):=fun t ht=>by rw [←hC,a9 ht,hB]
  rw [hC] at r1
  clear hC
  refine ⟨⟨dX hS2 _,⟨Int.natCast_nonneg _,by show (A:Int)≤168;omega⟩,by decide,by decide⟩,Or.inr ⟨{t:Nat // t≤168},fun t=>⟨[(9,.one (.ro .u8 (C.drop (3*t.val)))),(8,.one (.ob .int ((uS B (168*k.val+t.val)).2:Int)))],[(2000,.blk 141 [.vec .u16 256 (uS B (168*k.val+t.val)).1])]⟩,fun t=>168-t.val,⟨0,by omega⟩,?_⟩⟩
  refine ⟨?_,rfl,rfl,rfl,fun t hl=>⟨fun h2=> ?_,fun h2=> ?_⟩⟩
  ·show C.drop (3*0)=nW 168 (fZ S Q) (A:Int).toNat 504
   rw [Int.toNat_natCast,r1];rfl
  ·have h2:=of_decide_eq_true h2
   have ht:=t.2
   have hd:(C.drop (3*t.val)).length=C.length-3*t.val:=List.length_drop
   have hg:∀x,x<3→t.val<168→(C.drop (3*t.val)).getD x 0=B (3*(168*k.val+t.val)+x):=fun x hx ht=>by
    rw [mJ,hC2 _ (by omega)];congr 1;omega
   have h3:t.val<168:=by omega
   have hd2:(C.drop (3*t.val)).length=504-3*t.val:=by rw [hd,hC1]
   have g0:0<(C.drop (3*t.val)).length:=by rw [hd2];omega
   have g1:1<(C.drop (3*t.val)).length:=by rw [hd2];omega
   have g2:2<(C.drop (3*t.val)).length:=by rw [hd2];omega
   obtain ⟨V,hV0,hV2,hV⟩:∃V:Nat→List UInt16×Nat,V 0=uS B (168*k.val+t.val)∧V 2=uS B (168*k.val+(t.val+1))∧∀i,i<2→V (i+1)=dT ([On ((C.drop (3*t.val)).getD 0 0) ((C.drop (3*t.val)).getD 1 0),Pd ((C.drop (3*t.val)).getD 1 0) ((C.drop (3*t.val)).getD 2 0)].getD i 0) (V i):=by
    refine ⟨fun i=>match i with |0=>uS B (168*k.val+t.val)|1=>dT (On ((C.drop (3*t.val)).getD 0 0) ((C.drop (3*t.val)).getD 1 0)) (uS B (168*k.val+t.val))|_=>uS B (168*k.val+(t.val+1)),rfl,rfl,fun i hi=> ?_⟩
    rcases i with _|_|i
    ·rfl
    ·show uS B (168*k.val+(t.val+1))=dT (Pd _ _) (dT (On _ _) _)
     rw [hg 0 (by omega) h3,hg 1 (by omega) h3,hg 2 (by omega) h3]
     rfl
    ·omega
   have hV1:∀i,i≤2→(V i).2≤256:=fun i hi=>by
    have u0:=iN B (168*k.val+t.val)
    have u2:=iN B (168*k.val+(t.val+1))
    rcases i with _|_|_|i
    ·rw [hV0];exact u0.le
    ·rw [hV 0 (by omega),hV0];exact (dK u0).1.le
    ·rw [hV2];exact u2.le
    ·omega
   refine ⟨g0,g1,g1,g2,fun _=> ?_⟩
   refine Or.inr ⟨{i:Nat // i≤2},fun i=>⟨[(51,.one (.ob .int (i.val:Int))),(8,.one (.ob .int ((V i.val).2:Int)))],[(2000,.blk 141 [.vec .u16 256 (V i.val).1])]⟩,fun i=>2-i.val,⟨0,by omega⟩,?_⟩
   refine ⟨rfl,by show [((V 0).2:Int)]= [_];rw [hV0],rfl,by show (V 0).1=_;rw [hV0],fun i=>⟨fun h4=> ?_,fun h4=> ?_⟩⟩
   ·have h4:=of_decide_eq_true h4
    have hi:=i.2
    have hi2:i.val<2:=by
     have h4:(i.val:Int)<((2:Nat):Int):=h4
     omega
    have hv1:=hV1 i.val (by omega)
    have hvs:=hV i.val hi2
    obtain ⟨x,hx⟩:∃x,[On ((C.drop (3*t.val)).getD 0 0) ((C.drop (3*t.val)).getD 1 0),Pd ((C.drop (3*t.val)).getD 1 0) ((C.drop (3*t.val)).getD 2 0)].getD i.val 0=x:=⟨_,rfl⟩
    have hxx:∀p:UInt16→Prop,p ([On ((C.drop (3*t.val)).getD 0 0) ((C.drop (3*t.val)).getD 1 0),Pd ((C.drop (3*t.val)).getD 1 0) ((C.drop (3*t.val)).getD 2 0)].getD i.val 0)→p x:=fun p h=>by rw [hx] at h;exact h
    rw [hx] at hvs
    refine ⟨⟨by omega,h4⟩,by show i.val<2;exact hi2,fun h5=> ?_,fun h5=> ?_⟩
    ·have h5':x<3329:=hxx (fun x=>x<3329) (of_decide_eq_true h5)
     refine ⟨h5,fun h6=> ?_,fun h6=> ?_⟩
     ·have h6':(V i.val).2<256:=by
       have:((V i.val).2:Int)<256:=of_decide_eq_true h6
       omega
      rw [dT,if_pos ⟨h5',h6'⟩] at hvs
      refine ⟨⟨by omega,by show ((V i.val).2:Int)<256;omega⟩,by show ((V i.val).2:Int).toNat<256;omega,⟨by omega,by omega⟩,⟨by omega,by omega⟩,⟨i.val+1,by omega⟩,?_,rfl,?_,rfl,?_,trivial⟩
      ·show 2-(i.val+1)<2-i.val;omega
      ·show [((V (i.val+1)).2:Int)]= [((V i.val).2:Int)+1]
       rw [hvs];rfl
      ·show (V (i.val+1)).1=(V i.val).1.set ((V i.val).2:Int).toNat ([On ((C.drop (3*t.val)).getD 0 0) ((C.drop (3*t.val)).getD 1 0),Pd ((C.drop (3*t.val)).getD 1 0) ((C.drop (3*t.val)).getD 2 0)].getD i.val 0)
       rw [hx,hvs];rfl
     ·have h6':¬(V i.val).2<256:=by
       have:¬((V i.val).2:Int)<256:=of_decide_eq_false h6
       omega
      rw [dT,if_neg fun c=>h6' c.2] at hvs
      refine ⟨⟨by omega,by omega⟩,⟨i.val+1,by omega⟩,?_,rfl,?_,rfl,?_,trivial⟩
      ·show 2-(i.val+1)<2-i.val;omega
      ·show [((V (i.val+1)).2:Int)]= [((V i.val).2:Int)]
       rw [hvs]
      ·show (V (i.val+1)).1=(V i.val).1
       rw [hvs]
    ·have h5':¬x<3329:=hxx (fun x=>¬x<3329) (of_decide_eq_false h5)
     rw [dT,if_neg fun c=>h5' c.1] at hvs
     refine ⟨h5,⟨by omega,by omega⟩,⟨i.val+1,by omega⟩,?_,rfl,?_,rfl,?_,trivial⟩
     ·show 2-(i.val+1)<2-i.val;omega
     ·show [((V (i.val+1)).2:Int)]= [((V i.val).2:Int)]
      rw [hvs]
     ·show (V (i.val+1)).1=(V i.val).1
      rw [hvs]
   ·have h4:¬(i.val:Int)<((2:Nat):Int):=of_decide_eq_false h4
    have hi:=i.2
    rw [show i.val=2 by omega,hV2]
    refine ⟨⟨by decide,by show (3:Int)≤((C.drop (3*t.val)).length:Nat);omega⟩,⟨t.val+1,by omega⟩,?_,?_,rfl,rfl,rfl,trivial⟩
    ·show 168-(t.val+1)<168-t.val;omega
    ·show C.drop (3*(t.val+1))=(C.drop (3*t.val)).drop 3
     rw [List.drop_drop];congr 1
  ·have h2:¬(0:Int)<((C.drop (3*t.val)).length:Nat):=of_decide_eq_false h2
   have ht:=t.2
   have hd:(C.drop (3*t.val)).length=C.length-3*t.val:=List.length_drop
   have e:t.val=168:=by omega
   rw [e]
   have hu:168*(k.val+1)=168*k.val+168:=by omega
   refine ⟨⟨k.val+1,hk⟩,?_,?_,rfl,?_,rfl,?_,rfl,?_,trivial⟩
   ·show 256*m-(k.val+1)<256*m-k.val;omega
   ·show [((uS B (168*(k.val+1))).2:Int)]= [((uS B (168*k.val+168)).2:Int)]
    rw [hu]
   ·show (uS B (168*(k.val+1))).1=(uS B (168*k.val+168)).1
    rw [hu]
   ·show fZ S (cN 168 0 (504*(k.val+1)))=fZ (fZ S Q) (cN 168 (A:Int).toNat 504)
    rw [ir,Int.toNat_natCast,r2]
   ·show [((504*(k.val+1)-168*cN 168 0 (504*(k.val+1)):Nat):Int)]= [(((A:Int).toNat+504-168*cN 168 (A:Int).toNat 504:Nat):Int)]
    rw [Int.toNat_natCast,r3]
 ·have h1:¬((uS B (168*k.val)).2:Int)<256:=of_decide_eq_false h1
  have h2:=(iN B (168*k.val)).le
  rw [←hfin (168*k.val) (by omega)]
  exact ⟨rfl,rfl,trivial⟩
def NF:GF:=fun l=>match l with
 | [.one (.ro .u8 seed),.one (.ob .u8 i),.one (.ob .u8 j)]=>some ⟨[.agg [.vec .u16 256 (nM (cR seed i j))]],[],some (seed.length=32)⟩
 |_=>none
theorem CK:ab 245 (ap NF):=af aj R8 Tryz.func245 (by kernel_rfl) rfl (rs:= [.cell 6 141]) Tryz.results245 fun l g h hp=>by
 unfold NF at h
 split at h
 ·cases h;exact ⟨Nat.le_of_ble_eq_true rfl,rfl,rfl,rfl,Rh _ _ _ hp⟩
 ·cases h
set_option maxRecDepth 10000
def Rv:List (Nat×CF):=(259,ap NC)::DN
theorem LD:∀p∈Rv,ab p.1 p.2:=ae CD v7
theorem R9:aq au (ai Rv):=aA aj (aS LD)
theorem pI (x:UInt32) (k:Nat):(k_ x k&&&1).toNat=x.toNat/2^k%2:=by
 have h:=Nat.lt_of_le_of_lt (Nat.div_le_self x.toNat (2^k)) x.toNat_lt
 rw [UInt32.toNat_and,k_,UInt32.toNat_ofNat',Nat.mod_eq_of_lt h]
 exact Nat.and_one_is_mod _
theorem N1 {y0 y1 y2 y3:UInt32} (b0:y0.toNat<2) (b1:y1.toNat<2) (b2:y2.toNat<2) (b3:y3.toNat<2):(y0+y1+UInt32.ofNat 3329-y2-y3).toNat=y0.toNat+y1.toNat+3329-y2.toNat-y3.toNat:=by
 rw [UInt32.toNat_sub,UInt32.toNat_sub,UInt32.toNat_add,UInt32.toNat_add,show (UInt32.ofNat 3329).toNat=3329 from rfl]
 omega
theorem N2 (x:UInt32):i7 ((x&&&1)+(k_ x 1&&&1)+UInt32.ofNat 3329-(k_ x 2&&&1)-(k_ x 3&&&1))=UInt16.ofNat ((x.toNat/2^0%2+x.toNat/2^1%2+3329-x.toNat/2^2%2-x.toNat/2^3%2)%3329):=by
 have e0:(x&&&1).toNat=x.toNat/2^0%2:=by
  rw [UInt32.toNat_and,Nat.pow_zero,Nat.div_one]
  exact Nat.and_one_is_mod _
 rw [g_,N1 (by rw [e0];exact Nat.mod_lt _ (by omega)) (by rw [pI];exact Nat.mod_lt _ (by omega)) (by rw [pI];exact Nat.mod_lt _ (by omega)) (by rw [pI];exact Nat.mod_lt _ (by omega)),e0,pI,pI,pI]
theorem rJ (D:List UInt8) (i k:Nat) (hk:k<4):cG D (4*i+k)=(k_ (UInt8.toUInt32 (D.getD (i/2) 0)) (i%2*4)).toNat/2^k%2:=by
 have hb:=(D.getD (i/2) 0).toNat_lt
 have h:=Nat.lt_of_le_of_lt (Nat.div_le_self (D.getD (i/2) 0).toNat (2^(i%2*4))) (show _<2^32 by omega)
 rw [cG,show (4*i+k)/8=i/2 by omega,show (4*i+k)%8=i%2*4+k by omega,k_,UInt32.toNat_ofNat',UInt8.toNat_toUInt32,Nat.mod_eq_of_lt h,Nat.pow_add,Nat.div_div_eq_div_mul]
set_option maxHeartbeats 2000000 in
theorem C0 (s:List UInt8) (n:UInt8) (h:s.length≤1000):vc au (ai Rv) Tryz.f242.ntmps (ag Tryz.f242) ⟨al 0 [.one (.ro .u8 s),.one (.ob .u8 n)],[],2000⟩ (aD au Tryz.f242.ntmps [.cell 4 141] [.agg [.vec .u16 256 (dn s n)]] []):=by
 have e1: [s,[n]].flatten=s++ [n]:=by simp
 refine ⟨⟨by decide,by rw [e1];simp;omega⟩,?_⟩
 rw [e1]
 have hD:(ep 32 128 (s++ [n])).length=128:=gR _ _ _ _
 have hN:dn s n=(List.range 256).map fun i=>UInt16.ofNat ((cG (ep 32 128 (s++ [n])) (4*i)+cG (ep 32 128 (s++ [n])) (4*i+1)+3329-cG (ep 32 128 (s++ [n])) (4*i+2)-cG (ep 32 128 (s++ [n])) (4*i+3))%3329):=rfl
 have hk:eR 136 31 (s++ [n]) (min 128 65536:Int).toNat=ep 32 128 (s++ [n]):=rfl
 rw [hk]
 generalize ep 32 128 (s++ [n])=D at hD hN ⊢
 rw [hN]
 refine Or.inr ⟨{i:Nat // i≤256},fun i=>⟨[(13,.one (.ob .int (i.val:Int)))],[(2000,.blk 141 [.vec .u16 256 (bu 0 256 (fun i=>UInt16.ofNat ((cG D (4*i)+cG D (4*i+1)+3329-cG D (4*i+2)-cG D (4*i+3))%3329)) (List.replicate 256 0) i.val)])]⟩,fun i=>256-i.val,⟨0,by omega⟩,?_⟩
 refine ⟨rfl,rfl,dl List.length_replicate,fun i=>⟨fun h1=> ?_,fun h1=> ?_⟩⟩
 ·have h1:=of_decide_eq_true h1
  have hi:=i.2
  repeat refine sd ?_
  refine sj ⟨i.val+1,by omega⟩<|sr<|sr ⟨?_,trivial⟩
  refine ((congrArg (List.set _ i.val) ?_).trans bq).symm
  show i7 ((k_ (UInt8.toUInt32 (D.getD ((i.val:Int)/2).toNat 0)) ((i.val:Int)%2*4).toNat&&&1)+(k_ (k_ (UInt8.toUInt32 (D.getD ((i.val:Int)/2).toNat 0)) ((i.val:Int)%2*4).toNat) 1&&&1)+UInt32.ofNat 3329-(k_ (k_ (UInt8.toUInt32 (D.getD ((i.val:Int)/2).toNat 0)) ((i.val:Int)%2*4).toNat) 2&&&1)-(k_ (k_ (UInt8.toUInt32 (D.getD ((i.val:Int)/2).toNat 0)) ((i.val:Int)%2*4).toNat) 3&&&1))=_
  rw [show ((i.val:Int)/2).toNat=i.val/2 by omega,show ((i.val:Int)%2*4).toNat=i.val%2*4 by omega,N2,←rJ D i.val 0 (by omega),←rJ D i.val 1 (by omega),←rJ D i.val 2 (by omega),←rJ D i.val 3 (by omega)]
  rfl
 have h1:=of_decide_eq_false h1
 have hi:=i.2
 rw [show i.val=256 by omega,b9 (by omega)]
 exact ⟨rfl,rfl,trivial⟩
def mF:GF:=fun l=>match l with
 | [.one (.ro .u8 s),.one (.ob .u8 n)]=>some ⟨[.agg [.vec .u16 256 (dn s n)]],[],some (s.length≤1000)⟩
 |_=>none
theorem ow:ab 242 (ap mF):=af aj R9 Tryz.func242 (by kernel_rfl) rfl (rs:= [.cell 4 141]) Tryz.results242 fun l g h hp=>by
 unfold mF at h
 split at h
 ·cases h;exact ⟨Nat.le_of_ble_eq_true rfl,rfl,rfl,rfl,C0 _ _ hp⟩
 ·cases h
theorem pK (a:Nat):∀b,aZ (a+b)=aZ a*aZ b%3329
 |0=>by have:=fA a;rw [Nat.add_zero,aZ,Nat.mul_one,Nat.mod_eq_of_lt this]
 |b+1=>by
  show aZ (a+b)*17%3329=aZ a*(aZ b*17%3329)%3329
  rw [pK a b,Nat.mod_mul_mod,Nat.mul_mod_mod,Nat.mul_assoc]
theorem Tf (r:Nat):(UInt32.ofNat (aZ r)*UInt32.ofNat (aZ r)%UInt32.ofNat 3329*UInt32.ofNat 17%UInt32.ofNat 3329)=UInt32.ofNat (aZ (2*r+1)):=by
 have h1:=fA r
 have h2:=fA (2*r+1)
 have h3:aZ r*aZ r≤3329*3329:=Nat.mul_le_mul (by omega) (by omega)
 have e:aZ (2*r+1)=aZ r*aZ r%3329*17%3329:=by
  show aZ (2*r)*17%3329=_
  rw [Nat.two_mul,pK]
 apply UInt32.toNat_inj.1
 rw [e]
 generalize aZ r=z at*
 rw [UInt32.toNat_mod,UInt32.toNat_mul,UInt32.toNat_mod,UInt32.toNat_mul,UInt32.toNat_ofNat',UInt32.toNat_ofNat',UInt32.toNat_ofNat',UInt32.toNat_ofNat',show 17%2^32=17 from rfl,show 3329%2^32=3329 from rfl,Nat.mod_eq_of_lt (show z<2^32 by omega)]
 generalize z*z=y at*
 have hv:=Nat.mod_lt y (show 3329>0 by omega)
 have hw:=Nat.mod_lt (y%3329*17) (show 3329>0 by omega)
 rw [Nat.mod_eq_of_lt (show y<2^32 by omega),Nat.mod_eq_of_lt (show y%3329*17<2^32 by omega),Nat.mod_eq_of_lt (show y%3329*17%3329<2^32 by omega)]
def rZ (f g b:List UInt16):Nat→List UInt16
 |0=>b
 |i+1=>((rZ f g b i).set (2*i) (UInt16.ofNat ((rY f (2*i)*rY g (2*i)+rY f (2*i+1)*rY g (2*i+1)%3329*aZ (2*cq i 7+1))%3329))).set (2*i+1) (UInt16.ofNat ((rY f (2*i)*rY g (2*i+1)+rY f (2*i+1)*rY g (2*i))%3329))
theorem Me (f g:List UInt16):∀i,rZ f g (List.replicate 256 0) i=eO f g i
 |0=>rfl
 |i+1=>by rw [rZ,Me f g i];rfl
theorem ii (f g b:List UInt16):∀i,(rZ f g b i).length=b.length
 |0=>rfl
 |i+1=>by rw [rZ,List.length_set,List.length_set,ii f g b i]
theorem fg (l:List UInt16) (i j:Nat) (x:UInt16):(l.set i x).getD j 0=if i=j∧j<l.length then x else l.getD j 0:=by
 rw [List.getD_eq_getElem?_getD,List.getElem?_set]
 by_cases h:i=j
 ·subst h
  by_cases h2:i<l.length
  ·simp [h2]
  ·simp [h2]
 ·simp [h]
theorem yD (f g b:List UInt16):∀i j,2*i≤j→(rZ f g b i).getD j 0=b.getD j 0
 |0,j,_=>rfl
 |i+1,j,h=>by rw [rZ,fg,fg,if_neg (by omega),if_neg (by omega),yD f g b i j (by omega)]
theorem Gm (f g b b':List UInt16) (hb:b.length=b'.length):∀i j,j<2*i→2*i≤b.length→(rZ f g b i).getD j 0=(rZ f g b' i).getD j 0
 |0,j,h,_=>by omega
 |i+1,j,h,hl=>by
  have l1:=ii f g b i
  have l2:=ii f g b' i
  rw [rZ,rZ,fg,fg,fg,fg]
  simp only [List.length_set,l1,l2,hb]
  split
  ·rfl
  ·split
   ·rfl
   ·exact Gm f g b b' hb i j (by omega) (by omega)
theorem Kj (f g b:List UInt16) (hb:b.length=256):rZ f g b 128=eO f g 128:=by
 rw [←Me]
 apply List.ext_getElem (by rw [ii,ii,hb];rfl)
 intro j h1 h2
 have:=Gm f g b (List.replicate 256 0) (by rw [hb];rfl) 128 j (by rw [ii] at h1;omega) (by omega)
 rw [List.getD_eq_getElem?_getD,List.getD_eq_getElem?_getD,List.getElem?_eq_getElem h1,List.getElem?_eq_getElem h2] at this
 exact this
theorem ri (f:List UInt16) {i:Nat} (h:i<256):(eC f).getD i 0=UInt16.ofNat (rY f i):=by
 unfold eC oo
 rw [a9 h]
 show UInt16.ofNat ((gu f i+gu (List.replicate 256 0) i)%3329)=_
 rw [show gu (List.replicate 256 0) i=0 by unfold gu;rw [List.getD_eq_getElem?_getD,List.getElem?_replicate];split<;>rfl,Nat.add_zero,rY]
theorem sK {n:Nat} (h:n<3329):(UInt16.ofNat n).toUInt32=UInt32.ofNat n:=by
 apply UInt32.toNat_inj.1
 rw [UInt16.toNat_toUInt32,UInt16.toNat_ofNat',UInt32.toNat_ofNat',Nat.mod_eq_of_lt (by omega),Nat.mod_eq_of_lt (by omega)]
theorem dN (f:List UInt16) (i:Nat):rY f i<3329:=Nat.mod_lt _ (by omega)
theorem uq {x y:Nat} (hx:x<3329) (hy:y<3329):x*y≤11082241:=Nat.mul_le_mul (show x≤3329 by omega) (show y≤3329 by omega)
theorem FV {x y:Nat} (hx:x<3329) (hy:y<3329):(UInt32.ofNat x*UInt32.ofNat y).toNat=x*y:=by
 have:=uq hx hy
 rw [UInt32.toNat_mul,UInt32.toNat_ofNat',UInt32.toNat_ofNat',Nat.mod_eq_of_lt (show x<2^32 by omega),Nat.mod_eq_of_lt (show y<2^32 by omega),Nat.mod_eq_of_lt (by omega)]
theorem Tt {a b c d z:Nat} (ha:a<3329) (hb:b<3329) (hc:c<3329) (hd:d<3329) (hz:z<3329):i7 (UInt32.ofNat a*UInt32.ofNat c+UInt32.ofNat b*UInt32.ofNat d%UInt32.ofNat 3329*UInt32.ofNat z)=UInt16.ofNat ((a*c+b*d%3329*z)%3329):=by
 have h1:=uq ha hc
 have hv:=Nat.mod_lt (b*d) (show 3329>0 by omega)
 have h2:=uq hv hz
 have e:UInt32.ofNat b*UInt32.ofNat d%UInt32.ofNat 3329=UInt32.ofNat (b*d%3329):=by
  apply UInt32.toNat_inj.1
  rw [UInt32.toNat_mod,FV hb hd,UInt32.toNat_ofNat',UInt32.toNat_ofNat',Nat.mod_eq_of_lt (show b*d%3329<2^32 by omega)]
 rw [g_,e,UInt32.toNat_add,FV ha hc,FV hv hz,Nat.mod_eq_of_lt (show a*c+b*d%3329*z<2^32 by omega)]
theorem Tu {a b c d:Nat} (ha:a<3329) (hb:b<3329) (hc:c<3329) (hd:d<3329):i7 (UInt32.ofNat a*UInt32.ofNat d+UInt32.ofNat b*UInt32.ofNat c)=UInt16.ofNat ((a*d+b*c)%3329):=by
 have h1:=uq ha hd
 have h2:=uq hb hc
 rw [g_,UInt32.toNat_add,FV ha hd,FV hb hc,Nat.mod_eq_of_lt (show a*d+b*c<2^32 by omega)]
set_option maxHeartbeats 4000000 in
theorem Le (f g:List UInt16) (hf:f.length=256) (hg:g.length=256):vc au (ai DP) Tryz.f247.ntmps (ag Tryz.f247) ⟨al 0 [.agg [.vec .u16 256 f],.agg [.vec .u16 256 g]],[],2000⟩ (aD au Tryz.f247.ntmps [.cell 4 141] [.agg [.vec .u16 256 (eO f g 128)]] []):=by
 refine ⟨hf,hg,?_⟩
 have hrl:(eC f).length=256:=jH _ _
 refine Or.inr ⟨{c:Nat // c≤128},fun c=>⟨[(6,.one (.ob .int ((2*c.val:Nat):Int)))],[(2000,.blk 141 [.vec .u16 256 (rZ f g (eC f) c.val)])]⟩,fun c=>128-c.val,⟨0,by omega⟩,?_⟩
 refine ⟨rfl,rfl,rfl,fun c=>⟨fun h1=> ?_,fun h1=> ?_⟩⟩
 ·have h1:=of_decide_eq_true h1
  have hc:=c.2
  have hc2:c.val<128:=by omega
  repeat first |refine sd ?_|refine ⟨by decide,?_⟩
  refine sj ⟨c.val+1,by omega⟩ ⟨congrArg (fun z:Int=> [z]) ?_,rfl,?_,trivial⟩
  ·show ((2*(c.val+1):Nat):Int)=((2*c.val:Nat):Int)+2
   omega
  have hz:=fA (2*cq c.val 7+1)
  show rZ f g (eC f) (c.val+1)=((rZ f g (eC f) c.val).set ((2*c.val:Nat):Int).toNat (i7 (UInt16.toUInt32 ((rZ f g (eC f) c.val).getD ((2*c.val:Nat):Int).toNat 0)*UInt16.toUInt32 ((eC g).getD ((2*c.val:Nat):Int).toNat 0)+UInt16.toUInt32 ((rZ f g (eC f) c.val).getD (((2*c.val:Nat):Int)+1).toNat 0)*UInt16.toUInt32 ((eC g).getD (((2*c.val:Nat):Int)+1).toNat 0)%UInt32.ofNat 3329*(zo.getD (((2*c.val:Nat):Int)/2).toNat 0*zo.getD (((2*c.val:Nat):Int)/2).toNat 0%UInt32.ofNat 3329*UInt32.ofNat 17%UInt32.ofNat 3329)))).set (((2*c.val:Nat):Int)+1).toNat (i7 (UInt16.toUInt32 ((rZ f g (eC f) c.val).getD ((2*c.val:Nat):Int).toNat 0)*UInt16.toUInt32 ((eC g).getD (((2*c.val:Nat):Int)+1).toNat 0)+UInt16.toUInt32 ((rZ f g (eC f) c.val).getD (((2*c.val:Nat):Int)+1).toNat 0)*UInt16.toUInt32 ((eC g).getD ((2*c.val:Nat):Int).toNat 0)))
  rw [show ((2*c.val:Nat):Int).toNat=2*c.val by omega,show (((2*c.val:Nat):Int)+1).toNat=2*c.val+1 by omega,show (((2*c.val:Nat):Int)/2).toNat=c.val by omega,Ba hc2,Tf,yD _ _ _ _ _ (Nat.le_refl _),yD _ _ _ _ _ (Nat.le_succ _),ri f (by omega),ri f (by omega),ri g (by omega),ri g (by omega),sK (dN _ _),sK (dN _ _),sK (dN _ _),sK (dN _ _),Tt (dN _ _) (dN _ _) (dN _ _) (dN _ _) hz,Tu (dN _ _) (dN _ _) (dN _ _) (dN _ _)]
  rfl
 have h1:=of_decide_eq_false h1
 have hc:=c.2
 rw [show c.val=128 by omega,Kj _ _ _ hrl]
 exact ⟨rfl,rfl,trivial⟩
def xy:GF:=fun l=>match l with
 | [.agg [.vec .u16 256 f],.agg [.vec .u16 256 g]]=>some ⟨[.agg [.vec .u16 256 (eO f g 128)]],[],some (f.length=256∧g.length=256)⟩
 |_=>none
theorem u6:ab 247 (ap xy):=af aj DW Tryz.func247 (by kernel_rfl) rfl (rs:= [.cell 4 141]) Tryz.results247 fun l g h hp=>by
 unfold xy at h
 split at h
 ·cases h;exact ⟨Nat.le_of_ble_eq_true rfl,rfl,rfl,rfl,Le _ _ hp.1 hp.2⟩
 ·cases h
theorem FQ (g:Nat) {d k:Nat} (hk:k<d):g%2^d/2^k%2=g/2^k%2:=by
 have h:=Nat.testBit_mod_two_pow g d k
 rw [Nat.testBit_eq_decide_div_mod_eq,Nat.testBit_eq_decide_div_mod_eq,decide_eq_true hk,Bool.true_and,Bool.eq_iff_iff,decide_eq_true_iff,decide_eq_true_iff] at h
 have a:=Nat.mod_lt (g%2^d/2^k) (show 2>0 by omega)
 have b:=Nat.mod_lt (g/2^k) (show 2>0 by omega)
 omega
theorem IF (x:UInt16) (k:Nat):(Oe x k&&&1).toUInt8=UInt8.ofNat (x.toNat/2^k&&&1):=by
 have h:=Nat.lt_of_le_of_lt (Nat.div_le_self x.toNat (2^k)) x.toNat_lt
 apply UInt8.toNat_inj.1
 rw [UInt16.toNat_toUInt8,UInt16.toNat_and,Oe,UInt16.toNat_ofNat',UInt8.toNat_ofNat',Nat.mod_eq_of_lt h]
 rfl
set_option maxHeartbeats 2000000 in
theorem Ld (f:List UInt16) (d:Nat) (hd:1≤d∧d≤12):vc au (ai DP) Tryz.f248.ntmps (ag Tryz.f248) ⟨al 0 [.agg [.vec .u16 256 f],.one (.ob .int (d:Int))],[],2000⟩ (aD au Tryz.f248.ntmps [.tmp 4,.tmp 5] [.one (.rw 0),.one (.ob .int 0)] [(0,.row 5 .u8 (bN d f))]):=by
 refine ⟨fun h1=> ?_,fun h1=>⟨h1,fun h2=> ?_,fun h2=> ?_⟩⟩
 ·have h1:=of_decide_eq_true h1;omega
 ·have h2:=of_decide_eq_true h2;omega
 refine sd<|⟨⟨show (0:Int)≤32*(d:Int) by omega,rfl,show 32*(d:Int)≤16777216 by omega⟩,?_⟩
 refine Or.inr ⟨{i:Nat // i≤256},fun i=>⟨[(21,.one (.ob .int (i.val:Int)))],[(2176,.row 5 .u8 (aX (32*d) (gd d f%2^(d*i.val))))]⟩,fun i=>256-i.val,⟨0,by omega⟩,?_⟩
 refine ⟨rfl,?_,fun i=>⟨fun h3=> ?_,fun h3=> ?_⟩⟩
 ·show aX (32*d) (gd d f%2^(d*0))=List.replicate (32*(d:Int)).toNat 0
  rw [Nat.mul_zero,Nat.pow_zero,Nat.mod_one,FB,show (32*(d:Int)).toNat=32*d by omega]
 ·have h3:=of_decide_eq_true h3
  have hi:=i.2
  have hL:(aX (32*d) (gd d f%2^(d*i.val))).length=32*d:=ao _ _
  have m1:(i.val:Int)*(d:Int)=((d*i.val:Nat):Int):=by rw [Nat.mul_comm];rfl
  have m2:d*i.val+d≤d*256:=by rw [←Nat.mul_succ];exact Nat.mul_le_mul_left _ (by omega)
  have m3:d*256≤12*256:=Nat.mul_le_mul_right _ hd.2
  have b1:0≤(i.val:Int)*(d:Int):=by rw [m1];exact Int.natCast_nonneg _
  have b2:(i.val:Int)*(d:Int)+(d:Int)≤256*(d:Int):=by rw [m1];omega
  have hbit:=fun k hk=>tN (d:=d) f (i:=i.val) (k:=k) (by omega) hk
  repeat refine sd ?_
  refine ⟨fun h4=> ?_,fun h4=> ?_⟩
  all_goals
   first
    |(have h4:d=12:=by have:=of_decide_eq_true h4;omega
      have hx:∀k,k<d→(f.getD (i.val:Int).toNat 0%UInt16.ofNat 3329).toNat/2^k%2=pv d f i.val/2^k%2:=fun k _=>by
       rw [pv,if_pos h4,UInt16.toNat_mod];rfl
      refine ⟨by decide,?_⟩
      revert hx
      show (∀k,k<d→(f.getD (i.val:Int).toNat (Kd.df .u16)%UInt16.ofNat 3329).toNat/2^k%2=pv d f i.val/2^k%2)→_
      generalize f.getD (i.val:Int).toNat (Kd.df .u16)%UInt16.ofNat 3329=x)
    |(have h4:¬d=12:=by have:=of_decide_eq_false h4;omega
      have hx:∀k,k<d→(f.getD (i.val:Int).toNat 0).toNat/2^k%2=pv d f i.val/2^k%2:=fun k hk=>by
       rw [pv,if_neg h4,FQ _ hk];rfl
      revert hx
      show (∀k,k<d→(f.getD (i.val:Int).toNat (Kd.df .u16)).toNat/2^k%2=pv d f i.val/2^k%2)→_
      generalize f.getD (i.val:Int).toNat (Kd.df .u16)=x)
   intro hx
   refine Or.inr ⟨{k:Nat // k≤d},fun k=>⟨[(30,.one (.ob .int (k.val:Int)))],[(2176,.row 5 .u8 (aX (32*d) (gd d f%2^(d*i.val+k.val))))]⟩,fun k=>d-k.val,⟨0,Nat.zero_le _⟩,?_⟩
   refine ⟨rfl,rfl,fun k=>⟨fun h5=> ?_,fun h5=> ?_⟩⟩
   ·have h5:=of_decide_eq_true h5
    have hk:=k.2
    have hX:=JV (gd d f) (d*i.val+k.val)
    rw [hbit k.val (by omega),←hx k.val (by omega)] at hX
    have hXl:=Nat.mod_lt (gd d f) (Nat.two_pow_pos (d*i.val+k.val))
    have hl:(aX (32*d) (gd d f%2^(d*i.val+k.val))).length=32*d:=ao _ _
    refine sd<|sd ?_
    rw [m1,show ((d*i.val:Nat):Int)+(k.val:Int)=((d*i.val+k.val:Nat):Int) from rfl]
    have m4:d*i.val+k.val+1=d*i.val+(k.val+1):=rfl
    rw [m4] at hX
    generalize hE:gd d f%2^(d*i.val+(k.val+1))=X' at hX
    generalize gd d f%2^(d*i.val+k.val)=X at hX hXl hl ⊢
    generalize hA:d*i.val+k.val=a at hX hXl hl ⊢
    repeat refine sd ?_
    refine sj ⟨k.val+1,by omega⟩<|sr ⟨?_,trivial⟩
    show aX (32*d) (gd d f%2^(d*i.val+(k.val+1)))=(aX (32*d) X).set ((a:Int)/8).toNat ((aX (32*d) X).getD ((a:Int)/8).toNat 0|||s8 (Oe x (k.val:Int).toNat&&&1).toUInt8 ((a:Int)%8).toNat)
    rw [hE,hX,SC,show ((a:Int)%8).toNat=a%8 by omega,Int.toNat_natCast,IF,Nat.and_one_is_mod]
    exact (JO hXl (Nat.lt_succ_iff.1 (Nat.mod_lt _ (by omega)))).symm
   have h5:=of_decide_eq_false h5
   have hk:=k.2
   refine sd<|sj ⟨i.val+1,by omega⟩<|sr ⟨?_,trivial⟩
   show aX (32*d) (gd d f%2^(d*(i.val+1)))=aX (32*d) (gd d f%2^(d*i.val+k.val))
   rw [show d*(i.val+1)=d*i.val+k.val by rw [Nat.mul_succ];omega]
 ·have h3:=of_decide_eq_false h3
  have hi:=i.2
  refine ⟨rfl,?_,trivial⟩
  show aX (32*d) (gd d f)=aX (32*d) (gd d f%2^(d*i.val))
  rw [show i.val=256 by omega,Nat.mod_eq_of_lt (Jk d f)]
def xw:GF:=fun l=>match l with
 | [.agg [.vec .u16 256 f],.one (.ob .int d)]=>some ⟨[.one (.rw 0),.one (.ob .int 0)],[(0,.row 5 .u8 (bN d.toNat f))],some (Dc 1 d 12)⟩
 |_=>none
theorem u5:ab 248 (ap xw):=af aj DW Tryz.func248 (by kernel_rfl) rfl (rs:= [.tmp 4,.tmp 5]) Tryz.results248 fun l g h hp=>by
 unfold xw at h
 split at h
 ·rename_i f d
  cases h
  obtain ⟨h1,h2⟩:=hp
  obtain ⟨d,rfl⟩:=Int.eq_ofNat_of_zero_le (show (0:Int)≤d by omega)
  exact ⟨Nat.le_of_ble_eq_true rfl,rfl,rfl,rfl,Ld _ _ ⟨by omega,by omega⟩⟩
 ·cases h
set_option maxRecDepth 10000
def Dn:List (Nat×CF):=(208,ap qZ)::(248,ap xw)::(247,ap xy)::(242,ap mF)::(207,ap xz)::Rv
theorem Do:∀p∈Dn,ab p.1 p.2:=ae kV<|ae u5<|ae u6<|ae ow<|ae u7 LD
theorem LO:aq au (ai Dn):=aA aj (aS Do)
@[reducible] def jO (a b c:List UInt16):AV:= .agg [.vec .u16 256 a,.vec .u16 256 b,.vec .u16 256 c]
def ol (f:List UInt16):List UInt16:=nf (eC f) 7
theorem Hf (a b c:List UInt16) (ha:a.length=256) (hb:b.length=256) (hc:c.length=256):vc au (ai Dn) Tryz.f206.ntmps (ag Tryz.f206) ⟨al 0 [jO a b c,.one (.fv 207 [] [])],[],2000⟩ (aD au Tryz.f206.ntmps [.cell 4 143] [jO (ol a) (ol b) (ol c)] []):=by
 refine Or.inl ⟨4,?_⟩
 exact ⟨ha,hb,hc,rfl,rfl,rfl,rfl,rfl,rfl,trivial⟩
def qQ:GF:=fun l=>match l with
 | [.agg [.vec .u16 256 a,.vec .u16 256 b,.vec .u16 256 c],.one (.fv 207 [] [])]=>some ⟨[jO (ol a) (ol b) (ol c)],[],some (a.length=256∧b.length=256∧c.length=256)⟩
 |_=>none
theorem ru:ab 206 (ap qQ):=af aj LO Tryz.func206 (by kernel_rfl) rfl (rs:= [.cell 4 143]) Tryz.results206 fun l g h hp=>by
 unfold qQ at h
 split at h
 ·cases h;exact ⟨Nat.le_of_ble_eq_true rfl,rfl,rfl,rfl,Hf _ _ _ hp.1 hp.2.1 hp.2.2⟩
 ·cases h
theorem Hh (a b c x y z:List UInt16) (ha:a.length=256) (hb:b.length=256) (hc:c.length=256) (hx:x.length=256) (hy:y.length=256) (hz:z.length=256):vc au (ai Dn) Tryz.f246.ntmps (ag Tryz.f246) ⟨al 0 [jO a b c,jO x y z,.one (.fv 247 [] [])],[],2000⟩ (aD au Tryz.f246.ntmps [.cell 6 143] [jO (eO a x 128) (eO b y 128) (eO c z 128)] []):=by
 refine Or.inl ⟨4,?_⟩
 exact ⟨⟨ha,hx⟩,⟨hb,hy⟩,⟨hc,hz⟩,rfl,rfl,rfl,rfl,rfl,rfl,trivial⟩
def qU:GF:=fun l=>match l with
 | [.agg [.vec .u16 256 a,.vec .u16 256 b,.vec .u16 256 c],.agg [.vec .u16 256 x,.vec .u16 256 y,.vec .u16 256 z],.one (.fv 247 [] [])]=>some ⟨[jO (eO a x 128) (eO b y 128) (eO c z 128)],[],some ((a.length=256∧b.length=256∧c.length=256)∧x.length=256∧y.length=256∧z.length=256)⟩
 |_=>none
theorem ry:ab 246 (ap qU):=af aj LO Tryz.func246 (by kernel_rfl) rfl (rs:= [.cell 6 143]) Tryz.results246 fun l g h hp=>by
 unfold qU at h
 split at h
 ·cases h;exact ⟨Nat.le_of_ble_eq_true rfl,rfl,rfl,rfl,Hh _ _ _ _ _ _ hp.1.1 hp.1.2.1 hp.1.2.2 hp.2.1 hp.2.2.1 hp.2.2.2⟩
 ·cases h
def Bc:List (Nat×CF):=(246,ap qU)::(206,ap qQ)::Dn
theorem Dp:∀p∈Bc,ab p.1 p.2:=ae ry<|ae ru Do
theorem DQ:aq au (ai Bc):=aA aj (aS Dp)
def Nj (a b c x y z:List UInt16):List UInt16:=oo (oo (oo (List.replicate 256 0) (eO a x 128)) (eO b y 128)) (eO c z 128)
theorem K5 (a b c x y z:List UInt16) (ha:a.length=256) (hb:b.length=256) (hc:c.length=256) (hx:x.length=256) (hy:y.length=256) (hz:z.length=256):vc au (ai Bc) Tryz.f210.ntmps (ag Tryz.f210) ⟨al 0 [jO a b c,jO x y z],[],2000⟩ (aD au Tryz.f210.ntmps [.cell 4 141] [.agg [.vec .u16 256 (Nj a b c x y z)]] []):=by
 refine ⟨⟨⟨ha,hb,hc⟩,hx,hy,hz⟩,?_⟩
 refine Or.inl ⟨4,?_⟩
 exact ⟨rfl,jH _ _,jH _ _,rfl,rfl,trivial⟩
def xm:GF:=fun l=>match l with
 | [.agg [.vec .u16 256 a,.vec .u16 256 b,.vec .u16 256 c],.agg [.vec .u16 256 x,.vec .u16 256 y,.vec .u16 256 z]]=>some ⟨[.agg [.vec .u16 256 (Nj a b c x y z)]],[],some ((a.length=256∧b.length=256∧c.length=256)∧x.length=256∧y.length=256∧z.length=256)⟩
 |_=>none
theorem ud:ab 210 (ap xm):=af aj DQ Tryz.func210 (by kernel_rfl) rfl (rs:= [.cell 4 141]) Tryz.results210 fun l g h hp=>by
 unfold xm at h
 split at h
 ·cases h;exact ⟨Nat.le_of_ble_eq_true rfl,rfl,rfl,rfl,K5 _ _ _ _ _ _ hp.1.1 hp.1.2.1 hp.1.2.2 hp.2.1 hp.2.2.1 hp.2.2.2⟩
 ·cases h
theorem zg (a b c:List UInt16):vc au (ai Bc) Tryz.f211.ntmps (ag Tryz.f211) ⟨al 0 [jO a b c],[],2000⟩ (aD au Tryz.f211.ntmps [.tmp 2] [.one (.rw 0)] [(0,.row 5 .u8 (bN 12 a++bN 12 b++bN 12 c))]):=by
 refine Or.inl ⟨4,?_⟩
 have h:=fun f=>fc 12 f
 have i12:Dc 1 (12:Int) 12:=⟨by decide,by decide⟩
 exact ⟨i12,by show ([]++bN 12 a).length≤16777216;simp [h],i12,by show ([]++bN 12 a++bN 12 b).length≤16777216;simp [h],i12,by show ([]++bN 12 a++bN 12 b++bN 12 c).length≤16777216;simp [h],rfl,trivial⟩
def kj:GF:=fun l=>match l with
 | [.agg [.vec .u16 256 a,.vec .u16 256 b,.vec .u16 256 c]]=>some ⟨[.one (.rw 0)],[(0,.row 5 .u8 (bN 12 a++bN 12 b++bN 12 c))],none⟩
 |_=>none
theorem mY:ab 211 (ap kj):=af aj DQ Tryz.func211 (by kernel_rfl) rfl (rs:= [.tmp 2]) Tryz.results211 fun l g h hp=>by
 unfold kj at h
 split at h
 ·cases h;exact ⟨Nat.le_of_ble_eq_true rfl,rfl,rfl,rfl,zg _ _ _⟩
 ·cases h
theorem CW (s:List UInt8) (n:Nat) (hs:s.length≤1000) (hn:n≤200):vc au (ai Bc) Tryz.f205.ntmps (ag Tryz.f205) ⟨al 0 [.one (.ro .u8 s),.one (.ob .int (n:Int))],[],2000⟩ (aD au Tryz.f205.ntmps [.cell 4 143] [jO (dn s (UInt8.ofNat n)) (dn s (UInt8.ofNat (n+1))) (dn s (UInt8.ofNat (n+2)))] []):=by
 have h:=fun k:Nat=>fun hk:k≤2=>show jm ((n:Int)+(k:Int)) from ⟨by omega,by omega⟩
 exact Or.inl ⟨4,h 0 (by omega),by show (0:Int)≤(n:Int)+0;omega,hs,h 1 (by omega),by show (0:Int)≤(n:Int)+1;omega,hs,h 2 (by omega),by show (0:Int)≤(n:Int)+2;omega,hs,rfl,rfl,rfl,rfl,rfl,rfl,trivial⟩
def mB:GF:=fun l=>match l with
 | [.one (.ro .u8 s),.one (.ob .int n)]=>some ⟨[jO (dn s (UInt8.ofNat n.toNat)) (dn s (UInt8.ofNat (n.toNat+1))) (dn s (UInt8.ofNat (n.toNat+2)))],[],some (s.length≤1000∧Dc 0 n 200)⟩
 |_=>none
theorem oe:ab 205 (ap mB):=af aj DQ Tryz.func205 (by kernel_rfl) rfl (rs:= [.cell 4 143]) Tryz.results205 fun l g h hp=>by
 unfold mB at h
 split at h
 ·rename_i s n
  cases h
  obtain ⟨h0,h1,h2⟩:=hp
  obtain ⟨n,rfl⟩:=Int.eq_ofNat_of_zero_le h1
  exact ⟨Nat.le_of_ble_eq_true rfl,rfl,rfl,rfl,CW _ _ h0 (by omega)⟩
 ·cases h
def Ia:List (Nat×CF):=(245,ap NF)::(205,ap mB)::Bc
theorem Dq:∀p∈Ia,ab p.1 p.2:=ae CK<|ae oe Dp
theorem Pw:aq au (ai Ia):=aA aj (aS Dq)
def H9 (s:List UInt8) (i:UInt8) (b:Bool) (j:UInt8):List UInt16:=match b with
 |false=>nM (cR s j i)
 |true=>nM (cR s i j)
theorem zf (s:List UInt8) (n:Nat) (b:Bool) (hs:s.length=32):vc au (ai Ia) Tryz.f209.ntmps (ag Tryz.f209) ⟨al 0 [.one (.ro .u8 s),.one (.ob .int (n:Int)),.one (.ob .bool b)],[],2000⟩ (aD au Tryz.f209.ntmps [.cell 6 143] [jO (H9 s (UInt8.ofNat n) b 0) (H9 s (UInt8.ofNat n) b 1) (H9 s (UInt8.ofNat n) b 2)] []):=by
 refine Or.inl ⟨4,?_⟩
 have h0:0≤(n:Int):=Int.natCast_nonneg n
 cases b
 ·iterate 3
   refine ⟨by decide,h0,?_⟩
   refine ⟨fun h=> ?_,fun _=> ?_⟩
   ·cases h
   refine ⟨hs,?_⟩
  exact ⟨rfl,rfl,rfl,rfl,rfl,rfl,trivial⟩
 ·iterate 3
   refine ⟨by decide,h0,?_⟩
   refine ⟨fun _=> ?_,fun h=> ?_⟩
   rotate_left
   ·cases h
   refine ⟨hs,?_⟩
  exact ⟨rfl,rfl,rfl,rfl,rfl,rfl,trivial⟩
def ki:GF:=fun l=>match l with
 | [.one (.ro .u8 s),.one (.ob .int n),.one (.ob .bool b)]=>some ⟨[jO (H9 s (UInt8.ofNat n.toNat) b 0) (H9 s (UInt8.ofNat n.toNat) b 1) (H9 s (UInt8.ofNat n.toNat) b 2)],[],some (s.length=32∧0≤n)⟩
 |_=>none
theorem mX:ab 209 (ap ki):=af aj Pw Tryz.func209 (by kernel_rfl) rfl (rs:= [.cell 6 143]) Tryz.results209 fun l g h hp=>by
 unfold ki at h
 split at h
 ·rename_i s n b
  cases h
  obtain ⟨h0,h1⟩:=hp
  obtain ⟨n,rfl⟩:=Int.eq_ofNat_of_zero_le h1
  exact ⟨Nat.le_of_ble_eq_true rfl,rfl,rfl,rfl,zf _ _ _ h0⟩
 ·cases h
def Ms:List (Nat×CF):=(209,ap ki)::(210,ap xm)::(211,ap kj)::(212,ap E_)::(204,ap Fa)::(102,ap ju)::Ia
theorem Mt:∀p∈Ms,ab p.1 p.2:=ae mX<|ae ud<|ae mY<|ae yR<|ae yS<|ae fS Dq
theorem Px:aq au (ai Ms):=aA aj (aS Mt)
theorem uv (l:List UInt16) (z n st:Nat):∀i,(gi l z n st i).length=l.length
 |0=>rfl
 |i+1=>by rw [gi,List.length_set,List.length_set,uv l z n st i]
theorem uu (l:List UInt16) (n k:Nat):∀c,(oj l n k c).length=l.length
 |0=>rfl
 |c+1=>by rw [oj,uv,uu l n k c]
theorem uw (l:List UInt16):∀m,(nf l m).length=l.length
 |0=>rfl
 |m+1=>by rw [nf,uu,uw l m]
theorem F3 (l:List UInt16):(ol l).length=256:=by rw [ol,uw];exact jH _ _
theorem rE (s:List UInt8) (i:UInt8) (j:UInt8):(H9 s i false j).length=256:=(KP _).1
def pS (d:List UInt8) (i:UInt8):List UInt16:=ol (dn (BG d) i)
def pT (d:List UInt8) (i:UInt8):List UInt16:=oo (pS d (i+3)) (Nj (nM (cR (mT d) 0 i)) (nM (cR (mT d) 1 i)) (nM (cR (mT d) 2 i)) (pS d 0) (pS d 1) (pS d 2))
def bB (d:List UInt8):List UInt8:=bN 12 (pT d 0)++bN 12 (pT d 1)++bN 12 (pT d 2)++mT d
def Gf (d:List UInt8):List UInt8:=bN 12 (pS d 0)++bN 12 (pS d 1)++bN 12 (pS d 2)
def Mc (d z:List UInt8):List UInt8:=Gf d++bB d++f8 32 (bB d)++z
theorem eN (d:List UInt8):(bB d).length=1184:=by simp only [bB,List.length_append,fc,mU]
theorem Gg (d:List UInt8):(Gf d).length=1152:=by simp only [Gf,List.length_append,fc]
set_option maxHeartbeats 4000000 in
theorem Hg (d z:List UInt8) (hd:d.length=32) (hz:z.length=32):vc au (ai Ms) Tryz.f126.ntmps (ag Tryz.f126) ⟨al 0 [.one (.ro .u8 d),.one (.ro .u8 z)],[],2000⟩ (aD au Tryz.f126.ntmps [.tmp 4,.tmp 5,.tmp 6] [.one (.rw 0),.one (.rw 1),.one (.ob .int 0)] [(0,.row 5 .u8 (bB d)),(1,.row 5 .u8 (Mc d z))]):=by
 have e1: [d,[UInt8.ofNat 3]].flatten=d++ [3]:=by simp
 refine ⟨fun h1=> ?_,fun h1=>⟨h1,fun _ _=>⟨fun h2=> ?_,fun h2=> ?_⟩⟩⟩
 ·have h1:=of_decide_eq_true h1;omega
 ·have h2:=of_decide_eq_true h2;omega
 refine ⟨by rw [e1];simp;omega,?_⟩
 rw [e1]
 have hg2:f8 64 (d++ [3])=kG d:=rfl
 rw [hg2]
 have hl:=xX d
 have hk1:(mT d).length=32:=mU d
 have hk2:(BG d).length≤1000:=by rw [Fx];decide
 have hn:∀i,(dn (BG d) i).length=256:=fun i=>by simp [dn]
 have hlo:(0:Int)≤32∧(32:Int)≤((kG d).length:Int):=⟨by decide,by omega⟩
 have hS:∀i,(ol (dn (BG d) i)).length=256:=fun i=>F3 _
 have hSS:=And.intro (hS (UInt8.ofNat (Int.toNat 0))) (And.intro (hS (UInt8.ofNat (Int.toNat 0+1))) (hS (UInt8.ofNat (Int.toNat 0+2))))
 have hM:∀i,(H9 (mT d) i false 0).length=256∧(H9 (mT d) i false 1).length=256∧(H9 (mT d) i false 2).length=256:=fun i=>⟨rE _ _ _,rE _ _ _,rE _ _ _⟩
 refine ⟨⟨hlo,trivial⟩,hlo,⟨hk2,by decide,by decide⟩,⟨hn _,hn _,hn _⟩,⟨hk2,by decide,by decide⟩,⟨hn _,hn _,hn _⟩,?_⟩
 refine Or.inl ⟨4,?_⟩
 refine ⟨⟨hk1,by decide⟩,⟨hM _,hSS⟩,hS _,⟨hk1,by decide⟩,⟨hM _,hSS⟩,hS _,⟨hk1,by decide⟩,⟨hM _,hSS⟩,hS _,?_⟩
 refine ⟨?_,?_⟩
 ·show (bB d).length≤_
  rw [eN];decide
 have e2: [bB d].flatten=bB d:=by simp
 refine ⟨?_,?_,rfl,?_,?_,trivial⟩
 ·show [bB d].flatten.length≤_
  rw [e2,eN];decide
 ·show [Gf d,bB d,f8 32 [bB d].flatten,z].flatten.length≤_
  simp only [List.flatten_cons,List.flatten_nil,List.length_append,List.length_nil,Gg,eN,f8,gR,hz]
  decide
 ·show bB d= [bN 12 (pT d 0)++bN 12 (pT d 1)++bN 12 (pT d 2),mT d].flatten
  simp [bB]
 ·show Mc d z= [Gf d,bB d,f8 32 [bB d].flatten,z].flatten
  rw [e2]
  simp [Mc]
def qT:GF:=fun l=>match l with
 | [.one (.ro .u8 d),.one (.ro .u8 z)]=>some ⟨[.one (.rw 0),.one (.rw 1),.one (.ob .int 0)],[(0,.row 5 .u8 (bB d)),(1,.row 5 .u8 (Mc d z))],some (d.length=32∧z.length=32)⟩
 |_=>none
theorem rx:ab 126 (ap qT):=af aj Px Tryz.func126 (by kernel_rfl) rfl (rs:= [.tmp 4,.tmp 5,.tmp 6]) Tryz.results126 fun l g h hp=>by
 unfold qT at h
 split at h
 ·cases h;exact ⟨Nat.le_of_ble_eq_true rfl,rfl,rfl,rfl,Hg _ _ hp.1 hp.2⟩
 ·cases h
set_option maxRecDepth 10000
theorem D8 {L N a:Nat} (h:a<8*L):cG (aX L N) a=N/2^a%2:=by
 have hd:a/8<L:=by omega
 have e:((aX L N).getD (a/8) 0).toNat=N/2^(8*(a/8))%256:=by
  rw [List.getD_eq_getElem?_getD,List.getElem?_eq_getElem (by rw [ao];exact hd)]
  simp [aX]
 rw [cG,e]
 have e2:2^a=2^(8*(a/8))*2^(a%8):=by rw [←Nat.pow_add];congr 1;omega
 rw [e2,←Nat.div_div_eq_div_mul]
 generalize N/2^(8*(a/8))=M
 have hr:a%8<8:=Nat.mod_lt _ (by omega)
 generalize a%8=r at*
 have hc:r=0∨r=1∨r=2∨r=3∨r=4∨r=5∨r=6∨r=7:=by omega
 rcases hc with rfl|rfl|rfl|rfl|rfl|rfl|rfl|rfl<;>omega
theorem AE {c:List UInt8} {i v:Nat}:∀ {m:Nat},(∀k,k<m→cG c (12*i+k)=v/2^k%2)→eX c i m=v%2^m
 |0,_=>by simp [eX,Nat.mod_one]
 |m+1,h=>by
  rw [eX,AE fun k hk=>h k (by omega),h m (by omega),Nat.mod_pow_succ,Nat.mul_comm]
theorem rB {b:List UInt8} {i:Nat} {f:List UInt16} (h:∀j,j<384→(b.drop (384*i)).getD j 0=(bN 12 f).getD j 0):eg (ek b i)=true:=by
 rw [eg,List.all_eq_true]
 intro j hj
 have hj:j<256:=List.mem_range.1 hj
 refine decide_eq_true ?_
 have e:eX (b.drop (384*i)) j 12=pv 12 f j%2^12:=AE fun k hk=>by
  rw [cG,h _ (by omega),←cG,bN,D8 (by omega),tN f hj hk]
 have hv:pv 12 f j<3329:=by
  unfold pv
  rw [if_pos rfl]
  exact Nat.mod_lt _ (by omega)
 rw [ek,a9 hj,Pe,e,Nat.mod_eq_of_lt (by omega),UInt16.toNat_ofNat',Nat.mod_eq_of_lt (by omega)]
 exact hv
theorem IZ (f g h:List UInt16) {r:List UInt8} (hr:r.length=32):tw (bN 12 f++bN 12 g++bN 12 h++r)=0:=by
 have l0:(bN 12 f).length=384:=fc _ _
 have l1:(bN 12 g).length=384:=fc _ _
 have l2:(bN 12 h).length=384:=fc _ _
 have h0:eg (ek (bN 12 f++bN 12 g++bN 12 h++r) 0)=true:=rB (f:=f) fun j hj=>by
  rw [List.getD_eq_getElem?_getD,List.getD_eq_getElem?_getD,List.getElem?_drop,List.append_assoc,List.append_assoc,List.getElem?_append_left (by omega)]
  simp
 have h1:eg (ek (bN 12 f++bN 12 g++bN 12 h++r) 1)=true:=rB (f:=g) fun j hj=>by
  rw [List.getD_eq_getElem?_getD,List.getD_eq_getElem?_getD,List.getElem?_drop,List.append_assoc,List.append_assoc,List.getElem?_append_right (by omega),List.getElem?_append_left (by omega),l0,show 384*1+j-384=j by omega]
 have h2:eg (ek (bN 12 f++bN 12 g++bN 12 h++r) 2)=true:=rB (f:=h) fun j hj=>by
  rw [List.getD_eq_getElem?_getD,List.getD_eq_getElem?_getD,List.getElem?_drop,List.append_assoc,List.getElem?_append_right (by rw [List.length_append];omega),List.getElem?_append_left (by rw [List.length_append];omega),List.length_append,l0,l1,show 384*2+j-(384+384)=j by omega]
 rw [tw,if_pos (by simp only [List.length_append,l0,l1,l2,hr]),if_pos h0,if_pos h1,if_pos h2]
theorem I0 (d:List UInt8):tw (bB d)=0:=IZ _ _ _ (mU d)
theorem Fu {n:Int} (h0:0≤n) (h1:n≤1000):JJ n=td (UInt64.ofNat n.toNat) 4 4:=by
 have e1:(UInt32.ofNat n.toNat).toUInt64=UInt64.ofNat n.toNat:=by
  apply UInt64.toNat_inj.1
  rw [UInt32.toNat_toUInt64,UInt32.toNat_ofNat',UInt64.toNat_ofNat',Nat.mod_eq_of_lt (by omega),Nat.mod_eq_of_lt (by omega)]
 rw [JJ,e1,D7,fD,show (8:Nat)=4+4 from rfl,fO,List.reverse_append,List.drop_append_of_le_length (by rw [List.length_reverse,ao];exact Nat.le_refl _),List.drop_of_length_le (by rw [List.length_reverse,ao];exact Nat.le_refl _),List.nil_append,List.take_of_length_le (by rw [List.length_reverse,ao];exact Nat.le_refl _)]
structure RP (E:List UInt8→List UInt8):Prop where
 len:∀d,(E d).length=1184
 ck:∀d,tw (E d)=0
theorem ST:RP bB:=⟨eN,I0⟩
def xY (E:List UInt8→List UInt8) (seed:List UInt8) (v n:Int):List UInt8:=match decide (v=2) with |true=>E (dz seed n).1|false=> []
def BK (E:List UInt8→List UInt8) (seed:List UInt8) (v n:Int):List UInt8:=match decide (v=2) with |true=>eP (bA seed) (xZ v n (decide (n=0)) (E (dz seed n).1))|false=> []
def aE (E:List UInt8→List UInt8) (seed:List UInt8) (v n m:Int):Bn:=⟨dV (bA seed),f7 (mR seed),f7 (mS seed),eP (bA seed) (BQ v (f7 (mS seed))),n,J7 seed n,BJ v m,xY E seed v m,BK E seed v m,BL v m,v⟩
def Mf (v n m:Int):Prop:=1≤v∧v≤2∧0≤n∧n≤1000∧0≤m∧m≤1000
section
variable {E:List UInt8→List UInt8}
theorem pq (hE:RP E) (seed:List UInt8) {v n m:Int} (h:Mf v n m):bZ (aE E seed v n m)=false:=by
 obtain ⟨hv1,hv2,hn0,hn1,hm0,hm1⟩:=h
 have a1:decide (((aE E seed v n m).sign.length:Int)=32)=true:=decide_eq_true (by rw [show (aE E seed v n m).sign.length=32 from fp _];rfl)
 have a2:decide (((aE E seed v n m).ident.length:Int)=32)=true:=decide_eq_true (by rw [show (aE E seed v n m).ident.length=32 from nS _];rfl)
 have a3:decide (((aE E seed v n m).medium.length:Int)=32)=true:=decide_eq_true (by rw [show (aE E seed v n m).medium.length=32 from nS _];rfl)
 have a4:decide (((aE E seed v n m).medsig.length:Int)≠64)=false:=decide_eq_false (by rw [show (aE E seed v n m).medsig.length=64 from im _ _];simp)
 have a5:decide ((aE E seed v n m).onceId<0)=false:=decide_eq_false (Int.not_lt.2 hn0)
 have a6:decide (((aE E seed v n m).once.length:Int)≠gU (aE E seed v n m))=false:=decide_eq_false (by
  rw [Decidable.not_not]
  show ((J7 seed n).length:Int)=match decide (0<n) with |true=>32|false=>0
  unfold J7
  cases decide (0<n) with
  |true=>show ((f7 (L9 seed n)).length:Int)=32;rw [nS];rfl
  |false=>rfl)
 have a7:gQ (aE E seed v n m)=true:=by
  rw [gQ]
  split
  ·rename_i e
   have e:v=1:=of_decide_eq_true e
   have e2:decide (v=2)=false:=decide_eq_false (by omega)
   simp [aE,BJ,xY,BK,BL,e2]
  ·rename_i e
   have e:¬v=1:=of_decide_eq_false e
   have e1:v=2:=by omega
   have e2:decide (v=2)=true:=decide_eq_true e1
   simp [aE,BJ,xY,BK,BL,e1,hE.len,im,hm0]
 rw [bZ,a1,a2,a3,a4,a5,a6,a7];rfl
theorem C7 (hE:RP E) (seed:List UInt8) {v n m:Int} (h:Mf v n m) {least:Int} (hl:least≤v):aU (aE E seed v n m) least=0:=by
 have hm:oB (aE E seed v n m)=0:=vJ (bA seed) (BQ v (f7 (mS seed)))
 have h8:decide ((aE E seed v n m).version<least)=false:=decide_eq_false (Int.not_lt.2 hl)
 rw [aU,pq hE seed h,h8,hm]
 by_cases e:v=1
 ·rw [show decide ((0:Int)≠0)=false from rfl,show decide ((aE E seed v n m).version=1)=true from decide_eq_true e]
 ·obtain ⟨hv1,hv2,hn0,hn1,hm0,hm1⟩:=h
  have e1:v=2:=by omega
  have e2:decide (v=2)=true:=decide_eq_true e1
  have hk:vI (aE E seed v n m)=0:=by
   have k1:(aE E seed v n m).kemsig=eP (bA seed) (xZ v m (decide (m=0)) (E (dz seed m).1)):=by show BK E seed v m=_;rw [BK,e2]
   have k2:(t_ (aE E seed v n m)).flatten=xZ v m (decide (m=0)) (E (dz seed m).1):=by
    rw [t_,show (aE E seed v n m).kemId=m by show BJ v m=m;rw [BJ,e2],show (aE E seed v n m).last=decide (m=0) by show BL v m=_;rw [BL,e2],show (aE E seed v n m).kem=E (dz seed m).1 by show xY E seed v m=_;rw [xY,e2],Fu hm0 hm1]
    rfl
   rw [vI,k1,k2]
   exact vJ _ _
  rw [show decide ((0:Int)≠0)=false from rfl,show decide ((aE E seed v n m).version=1)=false from decide_eq_false e,hk,show (aE E seed v n m).kem=E (dz seed m).1 by show xY E seed v m=_;rw [xY,e2],hE.ck]
  rfl
end
inductive GD where
 |no
 |ok (g:Pg)
 |dec (p:Bool) (a b:GD)
def GD.to (k:Pg→R aH):GD→R aH
 | .no=> .fail
 | .ok g=>k g
 | .dec p a b=> .dec p fun x=>match x with |true=>a.to k|false=>b.to k
def GD.at (g:Pg):GD→Prop
 | .no=>False
 | .ok g'=>g=g'
 | .dec p a b=>(p=true∧a.at g)∨(p=false∧b.at g)
abbrev Mr:Type:=List AV→List Ch→GD
def MR (G:Mr):CF:=fun nx args=>tY args [] fun l ns=>JB (fun ns cs=>match uz (cM l) ns cs with
 |true=>(G (cM l) cs).to fun g=>vT (cX nx ns) g.outs fun o=>vU (cX nx ns) g.us fun u=>Jr (cX nx ns) g.d fun d=> .pure ⟨o,d++u,g.pre,none⟩
 |false=> .fail) 40 0 ns []
section
variable {ty:Nat→TE} {ct:Nat→Option CF} {H:Nat→Option Ch} {η:a8} {w:World} {nx:Nat} {sl:Nat→List AV} {res:aH}
theorem GD.to_run {k:Pg→R aH} (G:GD):∀ {ds:List Bool} {rd:List cz} {qs:List (Bool×Bool)},(G.to k).run sl H ds= .ok res rd qs→(∀q∈qs,q.1=q.2)→∃g ds' rd' qs',G.at g∧(k g).run sl H ds'= .ok res rd' qs':=by
 induction G with
 |no=>intro ds rd qs h _;cases h
 |ok g=>intro ds rd qs h _;exact ⟨g,ds,rd,qs,rfl,h⟩
 |dec p a b iha ihb=>
  intro ds rd qs h hq
  cases ds with
  |nil=>cases h
  |cons d ds=>
   unfold GD.to at h
   rw [R.run] at h
   generalize hr:R.run sl H _ ds=r at h
   cases r with
   |ok x rd1 q1=>
    simp only [RR.asm,RR.ok.injEq] at h
    obtain ⟨rfl,rfl,rfl⟩:=h
    have hp:p=d:=hq (p,d) (by simp)
    have hq1:∀q∈q1,q.1=q.2:=fun q hm=>hq q (by simp [hm])
    cases d with
    |true=>
     obtain ⟨g,ds',rd',qs',h1,h2⟩:=iha hr hq1
     exact ⟨g,ds',rd',qs',.inl ⟨hp,h1⟩,h2⟩
    |false=>
     obtain ⟨g,ds',rd',qs',h1,h2⟩:=ihb hr hq1
     exact ⟨g,ds',rd',qs',.inr ⟨hp,h1⟩,h2⟩
   |need p=>cases h
   |fail=>cases h
theorem oJ (hT : a_ ty) (hO : aq ty ct) {f : Nat} {fn : Func} {c : Code} {rs : List ResultVar} (hf : Tryz.prog.funcs[f]? = some fn) (hn : (fn.name == "runtime.NumGoroutine") = false) (hb : fn.body = some c) (hr : fn.results = rs.toArray) {G : Mr}
  (hG:∀l cs g,(G l cs).at g→aY g.pre→l.length≤fn.ntmps∧g.outs.length=rs.length∧cD cs.length g.outs=true∧gy cs.length g.us=true∧vc ty ct fn.ntmps c ⟨al 0 l,aQ 1000 cs,2000⟩ (bR ty fn.ntmps rs g.outs g.us cs g.d)):ab f (MR G):=by
 refine ⟨⟨fn,c,hf,hn,hb⟩,fun nx args sl H ds res rd qs h hq hp η w vs hH hv hfree=> ?_⟩
 obtain ⟨l',n1,e1,e2,e3⟩:=g9 nx args []
 unfold MR at h
 rw [e1] at h
 obtain ⟨ns,cs,rd',g1,g2,g3,g4⟩:=mI nx h rfl
 split at g1
 ·rename_i hok
  obtain ⟨⟨outs,us,d,p⟩,ds',rd2,qs',e4,g5⟩:=GD.to_run _ g1 hq
  have:=qf g5
  subst this
  unfold uz at hok
  split at hok
  ·rename_i k1 k2 k3 k4
   obtain ⟨q1,q2,q3,q4,q5⟩:=hG _ _ _ e4 hp
   refine qc cV hT hO hf hb hr (bW hok) k1 k2 q1 (aL k3) k4 (fun j c hc=>g4 j c (Nat.zero_le _) hc) q2 q3 q4 q5 hH hfree (A0:=ay H η) (fun g ha j hj=>ha _ (by rw [g4 j cs[j] (Nat.zero_le _) (List.getElem?_eq_getElem hj)];simp)) ?_
   rw [←ia,e3 ns g2]
   exact dp hv
  ·cases hok
 ·cases g1
end
set_option maxRecDepth 10000
set_option linter.unusedVariables false
def z8:fB:=fun l cs=>match l,cs with
 | [.one (.cv (.pointer none))],[]=>some ⟨[.one (.ob .bool true)],[],[],none⟩
 | [.one (.ptr 1000 0)],[.blk 84 [.rw 1001,.ob .int v,.ptr 1002 0,.sub 1003 0 32,.sub 1004 0 32,.rw 1005,.rw 1006],.row 5 .u8 seed,.blk 157 [.ob (.x 2) a,.sub 1007 32 32,.rw 1008],.row 5 .u8 I,.row 5 .u8 M,.row 4 .bool o,.row 4 .bool k,.row 5 .u8 S,.row 5 .u8 P]=>some ⟨[.one (.ob .bool false)],[],[],none⟩
 |_,_=>none
theorem KV:vc au (ai Bf) Tryz.f58.ntmps (ag Tryz.f58) ⟨al 0 [.one (.cv (.pointer none))],aQ 1000 [],2000⟩ (bR au Tryz.f58.ntmps [.tmp 2] [.one (.ob .bool true)] [] [] []):=by
 exact ⟨rfl,trivial⟩
set_option maxHeartbeats 8000000 in
theorem lV:ab 58 (iz z8):=aW aj LP Tryz.func58 (by kernel_rfl) rfl (rs:= [.tmp 2]) Tryz.results58 fun l cs g h hp=>by
 unfold z8 at h
 split at h
 ·cases h
  exact ⟨Nat.le_of_ble_eq_true rfl,rfl,rfl,rfl,KV⟩
 ·cases h
  exact ⟨Nat.le_of_ble_eq_true rfl,rfl,rfl,rfl,A8 _ _ _ _ _ _ _ _ _⟩
 ·cases h
def vZ:List (Nat×CF):=(58,iz z8)::(56,ap qW)::(55,ap jv)::(126,ap qT)::Bf
theorem DF:∀p∈vZ,ab p.1 p.2:=ae lV<|ae rH<|ae fT<|ae rx<|vY
theorem LR:aq au (ai vZ):=aA aj (aS DF)
def Pa (n:Int):List Bool:=List.replicate (n+1).toNat false
def L_ (v n:Int):List Bool:=match decide (v=2) with |true=>Pa n|false=> [false]
theorem Ah (seed:List UInt8):(aT seed 0).take 32=bA seed:=by rw [fj seed (by decide) (by decide)];rfl
theorem BH (seed:List UInt8):(bA seed).length=32:=by rw [←Ah,List.length_take,fk];decide
set_option maxHeartbeats 8000000 in
theorem Ov (seed:List UInt8) (v n:Int) (hl:seed.length=32) (hr:decide (1≤v∧v≤2∧0≤n∧n≤10)=true):vc au (ai vZ) Tryz.f18.ntmps (ag Tryz.f18) ⟨al 0 [.one (.rw 1000),.one (.ob .int v),.one (.ob .int n)],aQ 1000 [.row 5 .u8 seed],2000⟩ (bR au Tryz.f18.ntmps [.tmp 6,.tmp 7] [.one (.ptr 0 0),.one (.ob .int 0)] [(0,.blk 84 [.rw 1,.ob .int v,.ptr 2 0,.sub 3 0 32,.sub 4 0 32,.rw 5,.rw 6]),(1,.row 5 .u8 seed),(2,.blk 157 [.ob (.x 2) (qA (bA seed)),.sub 7 32 32,.rw 8]),(3,.row 5 .u8 (dI seed 1)),(4,.row 5 .u8 (dI seed 2)),(5,.row 4 .bool (Pa n)),(6,.row 4 .bool (L_ v n)),(7,.row 5 .u8 (aM (bA seed))),(8,.row 5 .u8 (dV (bA seed)))] [.row 5 .u8 seed] []):=by
 have hv:=of_decide_eq_true hr
 have hS:List.take 32 (List.drop 0 (aT seed 0))=bA seed:=Ah seed
 have hlen:(List.take 32 (List.drop 0 (aT seed 0))).length=32:=by rw [hS];exact BH seed
 have hq1: [qA (bA seed)]= [qA (List.take 32 (List.drop 0 (aT seed 0)))]:=by rw [hS]
 have hq2:aM (bA seed)=aM (List.take 32 (List.drop 0 (aT seed 0))):=by rw [hS]
 have hq3:dV (bA seed)=dV (List.take 32 (List.drop 0 (aT seed 0))):=by rw [hS]
 have hp1:dI seed 1=aT seed 1:=(fj seed (by decide) (by decide)).symm
 have hp2:dI seed 2=aT seed 2:=(fj seed (by decide) (by decide)).symm
 refine ⟨fun h0=>absurd hl (fun e=>of_decide_eq_true h0 (by omega)),fun h0=>⟨fun h1=>absurd (of_decide_eq_true h1) (by omega),fun h1=>⟨fun h2=>absurd (of_decide_eq_true h2) (by omega),fun h2=>⟨fun h3=>absurd (of_decide_eq_true h3) (by omega),fun h3=> ?_⟩⟩⟩⟩
 refine ⟨h0,h1,h2,h3,fun _=>⟨fun h4=>absurd (of_decide_eq_true h4) (by omega),fun h4=> ?_⟩⟩
 refine ⟨by omega,⟨by omega,by omega⟩,⟨by show 0≤n+1;omega,rfl,by show n+1≤16777216;omega⟩,⟨by decide,rfl,by decide⟩,fun h5=> ?_,fun h5=> ?_⟩
 ·refine ⟨⟨by omega,by omega⟩,⟨by show 0≤n+1;omega,rfl,by show n+1≤16777216;omega⟩,⟨by omega,by decide⟩,hlen,⟨by omega,by decide⟩,⟨by omega,by decide⟩,rfl,rfl,rfl,rfl,rfl,rfl,rfl,⟨rfl,hq1⟩,rfl,rfl,hp1,hp2,rfl,?_,hq2,hq3,trivial⟩
  show L_ v n=List.replicate (n+1).toNat false
  rw [L_,h5]
  rfl
 ·refine ⟨⟨by omega,by decide⟩,hlen,⟨by omega,by decide⟩,⟨by omega,by decide⟩,rfl,rfl,rfl,rfl,rfl,rfl,rfl,⟨rfl,hq1⟩,rfl,rfl,hp1,hp2,rfl,?_,hq2,hq3,trivial⟩
  show L_ v n=List.replicate 1 false
  rw [L_,h5]
  rfl
set_option maxHeartbeats 8000000 in
theorem G4 (seed:List UInt8) (v n:Int) (hr:decide (1≤v∧v≤2∧0≤n∧n≤10)=false):vc au (ai vZ) Tryz.f18.ntmps (ag Tryz.f18) ⟨al 0 [.one (.rw 1000),.one (.ob .int v),.one (.ob .int n)],aQ 1000 [.row 5 .u8 seed],2000⟩ (bR au Tryz.f18.ntmps [.tmp 6,.tmp 7] [.one (.cv (.pointer none)),.one (.ob .int 1)] [] [.row 5 .u8 seed] []):=by
 have hv:=of_decide_eq_false hr
 refine ⟨fun h0=>⟨h0,fun _=>⟨rfl,rfl,trivial⟩⟩,fun h0=>⟨fun h1=>⟨h0,h1,fun _=>⟨rfl,rfl,trivial⟩⟩,fun h1=>⟨fun h2=>⟨h0,h1,h2,fun _=>⟨rfl,rfl,trivial⟩⟩,fun h2=>⟨fun h3=>⟨h0,h1,h2,h3,fun _=>⟨rfl,rfl,trivial⟩⟩,fun h3=>⟨h0,h1,h2,h3,fun _=>⟨fun h4=>⟨rfl,rfl,trivial⟩,fun h4=> ?_⟩⟩⟩⟩⟩⟩
 have h1:=of_decide_eq_false h1
 have h2:=of_decide_eq_false h2
 have h3:=of_decide_eq_false h3
 have h4:=of_decide_eq_false h4
 exact absurd ⟨by omega,by omega,by omega,by omega⟩ hv
theorem CO (v n:Int):vc au (ai vZ) Tryz.f18.ntmps (ag Tryz.f18) ⟨al 0 [.one (.cv (.slice none 0 0)),.one (.ob .int v),.one (.ob .int n)],aQ 1000 [],2000⟩ (bR au Tryz.f18.ntmps [.tmp 6,.tmp 7] [.one (.cv (.pointer none)),.one (.ob .int 1)] [] [] []):=by
 exact ⟨rfl,rfl,trivial⟩
def EJ:Mr:=fun l cs=>match l,cs with
 | [.one (.cv (.slice none 0 0)),.one (.ob .int _),.one (.ob .int _)],[]=> .ok ⟨[.one (.cv (.pointer none)),.one (.ob .int 1)],[],[],none⟩
 | [.one (.rw 1000),.one (.ob .int v),.one (.ob .int n)],[.row 5 .u8 seed]=> .dec (decide (1≤v∧v≤2∧0≤n∧n≤10)) (.ok ⟨[.one (.ptr 0 0),.one (.ob .int 0)],[(0,.blk 84 [.rw 1,.ob .int v,.ptr 2 0,.sub 3 0 32,.sub 4 0 32,.rw 5,.rw 6]),(1,.row 5 .u8 seed),(2,.blk 157 [.ob (.x 2) (qA (bA seed)),.sub 7 32 32,.rw 8]),(3,.row 5 .u8 (dI seed 1)),(4,.row 5 .u8 (dI seed 2)),(5,.row 4 .bool (Pa n)),(6,.row 4 .bool (L_ v n)),(7,.row 5 .u8 (aM (bA seed))),(8,.row 5 .u8 (dV (bA seed)))],[],some (seed.length=32)⟩) (.ok ⟨[.one (.cv (.pointer none)),.one (.ob .int 1)],[],[],none⟩)
 |_,_=> .no
set_option maxHeartbeats 8000000 in
theorem wk:ab 18 (MR EJ):=oJ aj LR Tryz.func18 (by kernel_rfl) rfl (rs:= [.tmp 6,.tmp 7]) Tryz.results18 fun l cs g h hp=>by
 unfold EJ at h
 split at h
 ·cases h
  exact ⟨Nat.le_of_ble_eq_true rfl,rfl,rfl,rfl,CO _ _⟩
 ·rcases h with ⟨h1,h2⟩|⟨h1,h2⟩
  ·cases h2
   exact ⟨Nat.le_of_ble_eq_true rfl,rfl,rfl,rfl,Ov _ _ _ hp h1⟩
  ·cases h2
   exact ⟨Nat.le_of_ble_eq_true rfl,rfl,rfl,rfl,G4 _ _ _ h1⟩
 ·cases h
def jf (l:List Bool) (n:Int):Bool:=match decide (0<n) with |false=>false|true=>match decide ((l.length:Int)≤n) with |true=>true|false=>l.getD n.toNat false
theorem Li (l:List Bool) (n:Int):vc au (ai vZ) Tryz.f121.ntmps (ag Tryz.f121) ⟨al 0 [.one (.ro .bool l),.one (.ob .int n)],[],2000⟩ (aD au Tryz.f121.ntmps [.tmp 4] [.one (.ob .bool (jf l n))] []):=by
 refine ⟨fun h0=>⟨fun h1=> ?_,fun h1=> ?_⟩,fun h0=> ?_⟩
 ·refine ⟨h0,h1,fun _=>⟨?_,trivial⟩⟩
  show [jf l n]= [_]
  rw [jf,h0,h1]
 ·have e0:=of_decide_eq_true h0
  have e1:=of_decide_eq_false h1
  refine ⟨h0,h1,⟨by omega,by omega⟩,fun _=>⟨?_,trivial⟩⟩
  show [jf l n]= [_]
  rw [jf,h0,h1]
  rfl
 ·refine ⟨h0,?_,trivial⟩
  show [jf l n]= [_]
  rw [jf,h0]
def NE:GF:=fun l=>match l with
 | [.one (.ro .bool l),.one (.ob .int n)]=>some ⟨[.one (.ob .bool (jf l n))],[],none⟩
 |_=>none
theorem CH:ab 121 (ap NE):=af aj LR Tryz.func121 (by kernel_rfl) rfl (rs:= [.tmp 4]) Tryz.results121 fun l g h hp=>by
 unfold NE at h
 split at h
 ·cases h;exact ⟨Nat.le_of_ble_eq_true rfl,rfl,rfl,rfl,Li _ _⟩
 ·cases h
def DG:List (Nat×CF):=(121,ap NE)::(120,iz xa)::vZ
theorem DH:∀p∈DG,ab p.1 p.2:=ae CH<|ae kK<|DF
theorem LS:aq au (ai DG):=aA aj (aS DH)
def gj (o k:List Bool) (n m:Int):Bool:=match jf o n with |true=>true|false=>jf k m
set_option maxHeartbeats 8000000 in
theorem Hc (seed:List UInt8) (v:Int) (o k:List Bool) (a:Nat) (S P I M:List UInt8) (n m:Int):vc au (ai DG) Tryz.f59.ntmps (ag Tryz.f59) ⟨al 0 [.one (.ptr 1000 0),.one (.ob .int n),.one (.ob .int m)],aQ 1000 (j4 seed v o k a S P I M),2000⟩ (bR au Tryz.f59.ntmps [.tmp 6] [.one (.ob .bool (gj o k n m))] [] (j4 seed v o k a S P I M) []):=by
 refine ⟨fun h0=>⟨h0,?_,trivial⟩,fun h0=>⟨h0,?_,trivial⟩⟩
 ·show [gj o k n m]= [_]
  rw [gj,h0]
 ·show [gj o k n m]= [_]
  rw [gj,h0]
def qJ:fB:=fun l cs=>match l,cs with
 | [.one (.ptr 1000 0),.one (.ob .int n),.one (.ob .int m)],[.blk 84 [.rw 1001,.ob .int v,.ptr 1002 0,.sub 1003 0 32,.sub 1004 0 32,.rw 1005,.rw 1006],.row 5 .u8 seed,.blk 157 [.ob (.x 2) a,.sub 1007 32 32,.rw 1008],.row 5 .u8 I,.row 5 .u8 M,.row 4 .bool o,.row 4 .bool k,.row 5 .u8 S,.row 5 .u8 P]=>some ⟨[.one (.ob .bool (gj o k n m))],[],[],none⟩
 |_,_=>none
set_option maxHeartbeats 8000000 in
theorem p_:ab 59 (iz qJ):=aW aj LS Tryz.func59 (by kernel_rfl) rfl (rs:= [.tmp 6]) Tryz.results59 fun l cs g h hp=>by
 unfold qJ at h
 split at h
 ·cases h
  exact ⟨Nat.le_of_ble_eq_true rfl,rfl,rfl,rfl,Hc _ _ _ _ _ _ _ _ _ _ _⟩
 ·cases h
set_option maxHeartbeats 8000000 in
theorem Ou (seed:List UInt8) (v:Int) (o k:List Bool) (a:Nat) (S P I M:List UInt8) (n:Int) (hp:seed.length≤65536∧0≤n∧n≤1000000):vc au (ai DG) Tryz.f63.ntmps (ag Tryz.f63) ⟨al 0 [.one (.ptr 1000 0),.one (.ob .int n)],aQ 1000 (j4 seed v o k a S P I M),2000⟩ (bR au Tryz.f63.ntmps [.tmp 4,.tmp 5] [.one (.rw 0),.one (.rw 1)] [(0,.row 5 .u8 (bB (dz seed n).1)),(1,.row 5 .u8 (Mc (dz seed n).1 (dz seed n).2))] (j4 seed v o k a S P I M) []):=by
 obtain ⟨hs,hn,hn2⟩:=hp
 have hl:(aT seed (200+n)).length=64:=fk seed _
 have hd:(dz seed n).1=List.take 32 (List.drop 0 (aT seed (200+n))):=by rw [fj seed (by omega) (by omega)];rfl
 have hz:(dz seed n).2=List.take ((aT seed (200+n)).length-32) (List.drop 32 (aT seed (200+n))):=by rw [hl,fj seed (by omega) (by omega)];rfl
 have h1:(List.take 32 (List.drop 0 (aT seed (200+n)))).length=32:=by rw [List.length_take,List.length_drop,hl];rfl
 have h2:(List.take ((aT seed (200+n)).length-32) (List.drop 32 (aT seed (200+n)))).length=32:=by rw [List.length_take,List.length_drop,hl];rfl
 have h3:bB (dz seed n).1=bB (List.take 32 (List.drop 0 (aT seed (200+n)))):=by rw [hd]
 have h4:Mc (dz seed n).1 (dz seed n).2=Mc (List.take 32 (List.drop 0 (aT seed (200+n)))) (List.take ((aT seed (200+n)).length-32) (List.drop 32 (aT seed (200+n)))):=by rw [hd,hz]
 have h5:yc (some (Nm.lit 32)) (aT seed (200+n)).length:=⟨by decide,by show (32:Int)≤((aT seed (200+n)).length:Nat);omega⟩
 exact ⟨⟨by omega,by omega⟩,⟨hs,S8 (by decide) hn⟩,⟨h5,trivial⟩,h5,⟨h1,h2⟩,h3,h4,trivial⟩
def EI:fB:=fun l cs=>match l,cs with
 | [.one (.ptr 1000 0),.one (.ob .int n)],[.blk 84 [.rw 1001,.ob .int v,.ptr 1002 0,.sub 1003 0 32,.sub 1004 0 32,.rw 1005,.rw 1006],.row 5 .u8 seed,.blk 157 [.ob (.x 2) a,.sub 1007 32 32,.rw 1008],.row 5 .u8 I,.row 5 .u8 M,.row 4 .bool o,.row 4 .bool k,.row 5 .u8 S,.row 5 .u8 P]=>some ⟨[.one (.rw 0),.one (.rw 1)],[(0,.row 5 .u8 (bB (dz seed n).1)),(1,.row 5 .u8 (Mc (dz seed n).1 (dz seed n).2))],[],some (seed.length≤65536∧0≤n∧n≤1000000)⟩
 |_,_=>none
set_option maxHeartbeats 8000000 in
theorem wi:ab 63 (iz EI):=aW aj LS Tryz.func63 (by kernel_rfl) rfl (rs:= [.tmp 4,.tmp 5]) Tryz.results63 fun l cs g h hp=>by
 unfold EI at h
 split at h
 ·cases h
  exact ⟨Nat.le_of_ble_eq_true rfl,rfl,rfl,rfl,Ou _ _ _ _ _ _ _ _ _ _ hp⟩
 ·cases h
def L1 {α:Type} (x:Cl) (k:Cl→α):α:=match x with
 | .any=>k .any| .un=>k .un| .cv v=>k (.cv v)| .ob q x=>k (.ob q x)| .vec q n l=>k (.vec q n l)| .ptr b o=>k (.ptr b o)| .pix b o i=>k (.pix b o i)| .pro q x=>k (.pro q x)| .sl b o n c=>k (.sl b o n c)| .rw b=>k (.rw b)| .sub b l n=>k (.sub b l n)| .ro q l=>k (.ro q l)| .bb l=>k (.bb l)| .pbb l=>k (.pbb l)| .ln v n=>k (.ln v n)| .mp v f=>k (.mp v f)| .rv v l=>k (.rv v l)| .fv f l m=>k (.fv f l m)
theorem EF {α:Type} (x:Cl) (k:Cl→α):L1 x k=k x:=by cases x<;>rfl
def mq {α:Type}:List AV→(List AV→α)→α
 | [],k=>k []
 | .one x::r,k=>L1 x fun x=>mq r fun r=>k (.one x::r)
 | .agg l::r,k=>mq r fun r=>k (.agg l::r)
theorem jt {α:Type}:∀(l:List AV) (k:List AV→α),mq l k=k l
 | [],_=>rfl
 | .one x::r,k=>by rw [mq,EF,jt r]
 | .agg l::r,k=>by rw [mq,jt r]
def o8 {α:Type}:List Ch→(List Ch→α)→α
 | [],k=>k []
 | .blk E l::r,k=>o8 r fun r=>k (.blk E l::r)
 | .row E q l::r,k=>o8 r fun r=>k (.row E q l::r)
theorem mu {α:Type}:∀(l:List Ch) (k:List Ch→α),o8 l k=k l
 | [],_=>rfl
 | .blk E l::r,k=>by rw [o8,mu r]
 | .row E q l::r,k=>by rw [o8,mu r]
def BD (k:List Nat→List Ch→R aH):Nat→Nat→List Nat→(List Ch→List Ch)→R aH
 |0,_,_,_=> .fail
 |m+1,j,ns,f=>match BX ns j with
  |none=>o8 (f []) fun cs=>k ns cs
  |some b=> .hp b fun c=>match c with
   |none=> .fail
   |some (.row E q l)=>BD k m (j+1) ns fun r=>f (.row E q l::r)
   |some (.blk E l)=>o_ l ns fun l ns=>BD k m (j+1) ns fun r=>f (.blk E l::r)
theorem ll (k:List Nat→List Ch→R aH):∀(m j:Nat) (ns:List Nat) (f:List Ch→List Ch),(∀r,f r=f []++r)→BD k m j ns f=JB k m j ns (f [])
 |0,_,_,_,_=>rfl
 |m+1,j,ns,f,hf=>by
  unfold BD JB
  rw [mu]
  cases BX ns j with
  |none=>rfl
  |some b=>
   dsimp only
   congr 1
   funext c
   cases c with
   |none=>rfl
   |some c=>
    cases c with
    |row E q l=>
     dsimp only
     rw [ll k m (j+1) ns (fun r=>f (.row E q l::r)) fun r=>by rw [hf (_::r),hf [_]];simp]
     exact congrArg _ (hf _)
    |blk E l=>
     dsimp only
     obtain ⟨l',ns',h,_,_⟩:=fM 0 l ns
     rw [h,h,ll k m (j+1) ns' (fun r=>f (.blk E l'::r)) fun r=>by rw [hf (_::r),hf [_]];simp]
     exact congrArg _ (hf _)
def D_ (G:fB):CF:=fun nx args=>tY args [] fun l ns=>mq (cM l) fun l=>BD (fun ns cs=>match uz l ns cs with
 |true=>match G l cs with
  |some ⟨outs,us,d,p⟩=>vT (cX nx ns) outs fun o=>vU (cX nx ns) us fun u=>Jr (cX nx ns) d fun d=> .pure ⟨o,d++u,p,none⟩
  |none=> .fail
 |false=> .fail) 40 0 ns fun r=>r
theorem MT (G:fB):D_ G=iz G:=by
 funext nx args
 unfold D_ iz
 congr 1
 funext l ns
 rw [jt,ll _ _ _ _ _ fun r=>by simp]
 try rfl
def P7 (G:Mr):CF:=fun nx args=>tY args [] fun l ns=>mq (cM l) fun l=>BD (fun ns cs=>match uz l ns cs with
 |true=>(G l cs).to fun g=>vT (cX nx ns) g.outs fun o=>vU (cX nx ns) g.us fun u=>Jr (cX nx ns) g.d fun d=> .pure ⟨o,d++u,g.pre,none⟩
 |false=> .fail) 40 0 ns fun r=>r
theorem MS (G:Mr):P7 G=MR G:=by
 funext nx args
 unfold P7 MR
 congr 1
 funext l ns
 rw [jt,ll _ _ _ _ _ fun r=>by simp]
 try rfl
theorem ab.q {f:Nat} {G:fB} (h:ab f (iz G)):ab f (D_ G):=by rw [MT];exact h
theorem ab.e {f:Nat} {G:Mr} (h:ab f (MR G)):ab f (P7 G):=by rw [MS];exact h
def RJ (x:Cl):Cl:=match x with | .cv (.int .i64 z)=> .ob .int z| .cv (.bool b)=> .ob .bool b|x=>x
def QG:List AV→List AV
 | []=> []
 | .agg l::r=> .agg (l.map RJ)::QG r
 | .one x::r=> .one x::QG r
theorem NY {η:a8} {A:Nat→Prop} {w:World} {x:Cl} {cs:List Value} (h:x.H η A w cs):(RJ x).H η A w cs:=by
 unfold RJ
 split
 ·exact h.1
 ·exact h.1
 ·exact h
theorem Ay {η:a8} {A:Nat→Prop} {w:World}:∀ {l:List Cl} {cs:List Value},aO η A w l cs→aO η A w (l.map RJ) cs
 | [],_,h=>h
 |_::_,_,⟨h,t,e,hx,hr⟩=>⟨h,t,e,NY hx,Ay hr⟩
theorem yo {η:a8} {A:Nat→Prop} {w:World}:∀ {l:List AV} {vs:List Value},bp η A w l vs→bp η A w (QG l) vs
 | [],_,h=>h
 | .agg _::_,_,⟨v,t,e,⟨cs,e2,hc,ho⟩,hr⟩=>⟨v,t,e,⟨cs,e2,Ay hc,ho⟩,yo hr⟩
 | .one _::_,_,⟨v,t,e,hx,hr⟩=>⟨v,t,e,hx,yo hr⟩
def SR (C:CF):CF:=fun nx args=>C nx (QG args)
theorem ab.m {f:Nat} {C:CF} (h:ab f C):ab f (SR C):=⟨h.fn,fun nx l sl H ds res rd qs h1 h2 h3 η w vs hH hv hf=>h.call nx (QG l) sl H ds res rd qs h1 h2 h3 η w vs hH (yo hv) hf⟩
end Go.Proofs.YtnlhpncaldcllaaGreat
