/- What SR rests on, part 5 of 6: my own texts, put together (merge.py). -/
import Derived.Test.YtknlbpjcjdenbaaGreatRows
import Derived.WalkKit
import Derived.ProofKit
import Derived.Lib.Hide
import Derived.OpenShut
import Derived.WalkSpells
import Derived.StillTactics
import Derived.Laws.Pointers
import Derived.Laws.CopyOwn
import Derived.Laws.AppendOwnNone
import Derived.Deep.RegionHeld3
import Derived.RowKit3
import Derived.BigQuiet
import Derived.Deep.QuietTactic
import Derived.Deep.LoopGhost
import Derived.Deep.DeepFit
import Derived.WalkLawsBesides
import Derived.Shelf.Spec.BitsCarry
import Derived.Maps.RangeWalk
import Derived.Deep.MidRow
import Derived.Laws.IdiomStrings
import Derived.Great.BuildSlice
import Derived.Lib.AppendZerosOnto
import Derived.Deep.DeepCutAuto
import Derived.Lib.SliceRun
import Derived.Laws.ResultCell
import Derived.Laws.CopyRow
import Derived.Deep.Cut
import Derived.Deep.RegionLaw
import Derived.Laws.Tables
import Derived.StillTailTactics
import Derived.Shelf.SlIter.Nil
import Derived.Shelf.SlLaysM
import Derived.Shelf.SortM.Plain
import Derived.Shelf.SortM.SortNone
import Derived.ShutString
import Derived.ChangeOld
import Derived.ChangeMaps5
import Derived.Test.YtknlbpjcjdenbaaGreatZSRD
set_option maxRecDepth 100000
namespace Go.Proofs.YtknlbpjcjdenbaaGreat
open Go Go.RowKit
set_option maxRecDepth 10000
structure Bn where
 sign:List UInt8
 ident:List UInt8
 medium:List UInt8
 medsig:List UInt8
 onceId:Int
 once:List UInt8
 kemId:Int
 kem:List UInt8
 kemsig:List UInt8
 last:Bool
 version:Int
@[reducible] def Bn.av (B:Bn):AV:= .agg [.ro .u8 B.sign,.ro .u8 B.ident,.ro .u8 B.medium,.ro .u8 B.medsig,.ob .int B.onceId,.ro .u8 B.once,.ob .int B.kemId,.ro .u8 B.kem,.ro .u8 B.kemsig,.ob .bool B.last,.ob .int B.version]
@[reducible] def Bn.nv (B:Bn):AV:= .agg [.rw 1000,.rw 1001,.rw 1002,.rw 1003,.ob .int B.onceId,.rw 1004,.ob .int B.kemId,.rw 1005,.rw 1006,.ob .bool B.last,.ob .int B.version]
def Bn.nm (B:Bn):Nat→Option (List UInt8)
 |1000=>some B.sign|1001=>some B.ident|1002=>some B.medium|1003=>some B.medsig|1004=>some B.once|1005=>some B.kem|1006=>some B.kemsig
 |_=>none
def PW (S':AS) (ex:Nat→Option (List UInt8)):Cl→List UInt8→Prop
 | .rw c,l=>match aF S'.hp c with |some (.row _ .u8 m)=>l=m|some _=>False|none=>ex c=some l
 | .sub c lo n,l=>match aF S'.hp c with |some (.row _ .u8 m)=>l=(m.drop lo).take n|_=>False
 |_,_=>False
def oi (S':AS) (ex:Nat→Option (List UInt8)):List Cl→List (List UInt8)→Prop
 | [],[]=>True
 |x::r,l::q=>PW S' ex x l∧oi S' ex r q
 |_,_=>False
def G6 (t:Nat) (ls:List (List UInt8)) (ex:Nat→Option (List UInt8)):KK:=fun e S'=>match e with
 | .exit _=>False
 |_=>match bY S'.sl t with
  | [.one (.sl b 0 m c)]=>match aF S'.hp b with
   |some (.blk _ l)=>m=ls.length∧c≤16777216∧oi S' ex l ls
   |_=>False
  |_=>False
def EG (P:Bn→Option Prop) (R:Bn→List (List UInt8)):CF:=fun _ args=>match args with
 | [.agg [.ro .u8 a,.ro .u8 b,.ro .u8 c,.ro .u8 d,.ob .int e,.ro .u8 f,.ob .int g,.ro .u8 h,.ro .u8 i,.ob .bool j,.ob .int k]]=> .pure ⟨[.one (.bb (R ⟨a,b,c,d,e,f,g,h,i,j,k⟩))],[],P ⟨a,b,c,d,e,f,g,h,i,j,k⟩,none⟩
 |_=> .fail
section
variable {ty:Nat→TE} {ct:Nat→Option CF}
theorem bE.still {H:Nat→Option Ch} {η:bx} {w w':World} {nx:Nat} (hH:dh H η w) (hb:Below w.heap.size w w') {out:List AV} {v:Value} {pre:Option Prop} (ho:bz η (ay H η) w' out v):bE H η w nx ⟨out,[],pre,none⟩ v w' η:=by
 have hfw:Fw H η w H η w':=⟨hb.os,hb.tape,hb.output,hb.size,fun _ _ h=>h,fun g hg ha=>⟨hb.block g hg,ha⟩⟩
 exact ⟨ho,⟨fun b c hbc=>(hH.chunk b c hbc).later hfw.lt fun g hg=>hb.block g (C9 hH (fun h0=>by have hbc:H b=some c:=hbc;rw [h0] at hbc;cases hbc) hg),hH.apart⟩,hfw,fun _ _=>rfl,trivial⟩
theorem DZ {S':AS} {ex:Nat→Option (List UInt8)} {η':bx} {A A':Nat→Prop} {w':World} (hch:∀b c,aF S'.hp b=some c→c.H η' A' w' b) (hA:∀b g,aF S'.hp b≠none→bu η' b=some g→A g) (hex:∀c l,ex c=some l→∃v,η' c=some v∧dU A w' .u8 l v):
  ∀ {l:List Cl} {ls:List (List UInt8)} {cs:List Value},oi S' ex l ls→aK η' A' w' l cs→cs.length=ls.length∧∀i (h:i<ls.length) (h':i<cs.length),dU A w' .u8 ls[i] cs[i]
 | [],[],cs,_,hc=>by cases hc;exact ⟨rfl,fun i h=>(by cases h)⟩
 | [],_::_,_,h,_=>h.elim
 |_::_,[],_,h,_=>h.elim
 |x::r,l::q,cs,⟨h1,h2⟩,⟨c1,t,e,hx,hr⟩=>by
  obtain ⟨g1,g2⟩:=DZ hch hA hex h2 hr
  have key:∃v,c1= [v]∧dU A w' .u8 l v:=by
   unfold PW at h1
   split at h1
   ·rename_i c _
    obtain ⟨v,e1,e2,_⟩:=hx
    refine ⟨v,e2,?_⟩
    split at h1
    ·rename_i E m hm
     subst h1
     obtain ⟨v',e3,hR⟩:=uO (hch _ _ hm) (A':=A) fun g hg=>hA _ g (by rw [hm];simp) hg
     rw [e1] at e3;cases e3
     exact hR
    ·exact h1.elim
    ·obtain ⟨v',e3,hR⟩:=hex _ _ h1
     rw [e1] at e3;cases e3
     exact hR
   ·rename_i c lo n _
    split at h1
    ·rename_i E m hm
     subst h1
     exact zH rfl (hch _ _ hm) hx (A':=A) fun g hg=>hA _ g (by rw [hm];simp) hg
    ·exact h1.elim
   ·exact h1.elim
  obtain ⟨v,rfl,hR⟩:=key
  subst e
  refine ⟨by simp [g1],fun i hi hi'=> ?_⟩
  cases i with
  |zero=>exact hR
  |succ i=>exact g2 i (by simpa using hi) (by simpa using hi')
theorem p7 (hO : az ty ct) {f : Nat} {fn : Func} {c : Code} {t : Nat} (hf : Tryz.prog.funcs[f]? = some fn) (hn : (fn.name == "runtime.NumGoroutine") = false) (hb : fn.body = some c) (hr : fn.results = #[.tmp t]) (hN : 1 ≤ fn.ntmps) {P : Bn → Option Prop} {R : Bn → List (List UInt8)}
  (hG:∀B,bn (P B)→vc ty ct fn.ntmps c ⟨aq 0 [B.nv],[],2000⟩ (G6 t (R B) B.nm)):af f (EG P R):=by
 refine ⟨⟨fn,c,hf,hn,hb⟩,fun nx args sl H ds res rd qs h hq hp η w vs hH hv hfree=> ?_⟩
 unfold EG at h
 split at h
 ·rename_i s1 s2 s3 s4 i1 s5 i2 s6 s7 la ve
  have:=aE h
  subst this
  obtain ⟨v,_,rfl,⟨cs,rfl,⟨_,_,e0,⟨v0,rfl,r0⟩,_,_,e1,⟨v1,rfl,r1⟩,_,_,e2,⟨v2,rfl,r2⟩,_,_,e3,⟨v3,rfl,r3⟩,_,_,e4,h4,_,_,e5,⟨v4,rfl,r4⟩,_,_,e6,h6,_,_,e7,⟨v5,rfl,r5⟩,_,_,e8,⟨v6,rfl,r6⟩,_,_,e9,h9,_,_,ea,ha,rfl⟩,hone⟩,rfl⟩:=hv
  cases (show _= [Value.int .i64 i1] from h4)
  cases (show _= [Value.int .i64 i2] from h6)
  cases (show _= [Value.bool la] from h9)
  cases (show _= [Value.int .i64 ve] from ha)
  subst ea e9 e8 e7 e6 e5 e4 e3 e2 e1 e0
  let η0:bx:=fun b=>if b=1000 then some v0 else if b=1001 then some v1 else if b=1002 then some v2 else if b=1003 then some v3 else if b=1004 then some v4 else if b=1005 then some v5 else if b=1006 then some v6 else none
  have hsl:∀ {k:Kd} {l:List k.T} {v:Value} {A:Nat→Prop},dU A w k l v→v.oneCell'=true:=fun ⟨_,_,e,_⟩=>by rw [e];rfl
  have hv0:bQ η0 (ay (aF []) η0) w [Bn.nv ⟨s1,s2,s3,s4,i1,s5,i2,s6,s7,la,ve⟩] _:=⟨_,[],rfl,⟨_,rfl,⟨_,_,rfl,⟨v0,rfl,rfl,hsl r0⟩,_,_,rfl,⟨v1,rfl,rfl,hsl r1⟩,_,_,rfl,⟨v2,rfl,rfl,hsl r2⟩,_,_,rfl,⟨v3,rfl,rfl,hsl r3⟩,_,_,rfl,rfl,_,_,rfl,⟨v4,rfl,rfl,hsl r4⟩,_,_,rfl,rfl,_,_,rfl,⟨v5,rfl,rfl,hsl r5⟩,_,_,rfl,⟨v6,rfl,rfl,hsl r6⟩,_,_,rfl,rfl,_,_,rfl,rfl,rfl⟩,hone⟩,rfl⟩
  generalize ([v0]++([v1]++([v2]++([v3]++([Value.int .i64 i1]++([v4]++([Value.int .i64 i2]++([v5]++([v6]++([Value.bool la]++([Value.int .i64 ve]++ [])))))))))))=cs at hv0
  generalize hB:(⟨s1,s2,s3,s4,i1,s5,i2,s6,s7,la,ve⟩:Bn)=B at hv0 hp ⊢
  refine calls_of_wp hf hb ?_
  obtain ⟨hvl,hsl0⟩:=jV (i:=0) hv0
  have hS:pM fn.ntmps ⟨aq 0 [B.nv],[],2000⟩ η0 {tmps:= #[.agg cs.toArray]++Array.replicate (fn.ntmps-1) undef,defers:= []} w:=by
   refine ⟨⟨rfl,by simp;omega,fun t=> ?_,fun b c h=>(by cases h),fun b b' g _ h=>absurd rfl h⟩,fun b hb=> ?_⟩
   ·rcases hsl0 t with h|⟨x,v,h1,h2,h3,h4⟩
    ·show bz _ _ _ (bY (aq 0 [B.nv]) t) _
     rw [h];trivial
    ·show bz _ _ _ (bY (aq 0 [B.nv]) t) _
     rw [h1]
     have e:(#[.agg cs.toArray]++Array.replicate (fn.ntmps-1) undef:Array Value).getD t undef=v:=by
      rw [Array.getD_eq_getD_getElem?,Array.getElem?_append_left (by simp;have:=(List.getElem?_eq_some_iff.1 h3).1;simp at this;omega)]
      simp only [Nat.sub_zero] at h3
      rw [List.getElem?_toArray,h3];rfl
     show bz _ _ _ [x] (Array.getD _ t undef)
     rw [e]
     exact h4
   ·have hb:2000≤b:=hb
    show (if b=1000 then some v0 else if b=1001 then some v1 else if b=1002 then some v2 else if b=1003 then some v3 else if b=1004 then some v4 else if b=1005 then some v5 else if b=1006 then some v6 else none)=none
    rw [if_neg (by omega),if_neg (by omega),if_neg (by omega),if_neg (by omega),if_neg (by omega),if_neg (by omega),if_neg (by omega)]
  refine wp_mono (js cP hO c _ _ (hG B hp) _ _ _ hS) fun e a' w' hP=> ?_
  obtain ⟨e',S',η',k1,k2,⟨hS',_⟩,hF,_,hE,_⟩:=hP
  have hbl:Below w.heap.size w w':=⟨hF.os,hF.tape,hF.output,hF.size,fun g hg=>(hF.anon g hg fun b hb=>absurd rfl hb).1⟩
  have hA:∀b g,aF S'.hp b≠none→bu η' b=some g→ay H η g:=fun b g hb hg=>by
   have hge:w.heap.size≤g:=by
    rcases Nat.lt_or_ge g w.heap.size with h|h
    ·exact absurd hg ((hF.anon g h fun b hb=>absurd rfl hb).2 b hb)
    ·exact h
   intro b2 hb2 hg2
   have:=C9 hH hb2 hg2
   omega
  have hlt:Lt η (ay H η) w η (ay H η) w':=⟨fun _ _ h=>h,fun g hg ha=>⟨hbl.block g hg,ha⟩⟩
  have hex:∀c l,B.nm c=some l→∃v,η' c=some v∧dU (ay H η) w' .u8 l v:=fun c l hc=>by
   subst hB
   have hc2:c<2000→η' c=η0 c:=hE c
   unfold Bn.nm at hc
   split at hc<;>first |(cases hc;done)|skip
   all_goals (cases hc;rw [hc2 (by omega)])
   ·exact ⟨v0,rfl,r0.later hlt⟩
   ·exact ⟨v1,rfl,r1.later hlt⟩
   ·exact ⟨v2,rfl,r2.later hlt⟩
   ·exact ⟨v3,rfl,r3.later hlt⟩
   ·exact ⟨v4,rfl,r4.later hlt⟩
   ·exact ⟨v5,rfl,r5.later hlt⟩
   ·exact ⟨v6,rfl,r6.later hlt⟩
  have key:(match bY S'.sl t with
    | [.one (.sl b 0 m c)]=>match aF S'.hp b with
     |some (.blk _ l)=>m=(R B).length∧c≤16777216∧oi S' B.nm l (R B)
     |_=>False
    |_=>False)→a'.defers= []∧∃v,(results fn a'.tmps).run Tryz.prog w'= .ok v w'∧∃v' η'',Ending.returned v= .returned v'∧bE H η w nx ⟨[.one (.bb (R B))],[],P B,none⟩ v' w' η'':=fun hK=>by
   refine ⟨hS'.df,_,jt (rs:= [t]) hr a'.tmps w',_,η,rfl,bE.still hH hbl ?_⟩
   have hs:=hS'.slot t
   split at hK
   ·rename_i b m cc e1
    rw [e1] at hs
    obtain ⟨hmc,g,hg,hvv⟩:=hs
    split at hK
    ·rename_i E l e2
     obtain ⟨x1,x2,x3⟩:=hK
     obtain ⟨g',us,y1,y2,y3,y4⟩:=hS'.chunk b _ e2
     rw [hg] at y1
     cases y1
     obtain ⟨z1,z2⟩:=DZ hS'.chunk hA hex x3 y3
     have hr0:=y2.range (q:=0) (n:=us.length)
     rw [List.drop_zero,List.take_length] at hr0
     exact ⟨some ⟨g,0,none⟩,cc,by rw [←x1];exact hvv,by omega,by simp only [maxLen];omega,fun h=>(by cases h),fun _=>⟨g,0,us,rfl,hA b g (by rw [e2];simp) (by unfold bu;rw [hg];rfl),hr0,z1,z2⟩⟩
    ·exact hK.elim
   ·exact hK.elim
  cases e with
  |normal=>cases k1;exact key k2
  |ret=>cases k1;exact key k2
  |exit id=>cases k1;exact k2.elim
  |panic c=>cases k1
  |outgrown=>cases k1
  |goto l=>cases k1
 ·cases h
end
set_option maxRecDepth 10000
def Tx (b:Bool):UInt8:=match b with |true=>1|false=>0
theorem S_ (b:Bool):vc bi (ap []) Tryz.f77.ntmps (ah Tryz.f77) ⟨aq 0 [.one (.ob .bool b)],[],2000⟩ (aI bi Tryz.f77.ntmps [.tmp 2] [.one (.ob .u8 (Tx b))] []):=by
 refine ⟨fun h=> ?_,fun h=> ?_⟩
 ·cases (show b=true from h)
  exact ⟨rfl,trivial⟩
 ·cases (show b=false from h)
  exact ⟨rfl,trivial⟩
def Ju:GF:=fun l=>match l with
 | [.one (.ob .bool b)]=>some ⟨[.one (.ob .u8 (Tx b))],[],none⟩
 |_=>none
theorem BQ:af 77 (ar Ju):=ai ax SN Tryz.func77 (by kernel_rfl) rfl (rs:= [.tmp 2]) Tryz.results77 fun l g h hp=>by
 unfold Ju at h
 split at h
 ·cases h;exact ⟨Nat.le_of_ble_eq_true rfl,rfl,rfl,rfl,S_ _⟩
 ·cases h
def VC:List (Nat×CF):= [(76,ar Ah),(77,ar Ju)]
theorem U3:∀p∈VC,af p.1 p.2:=ag wE<|ag BQ fun p hp=>by cases hp
theorem Rw:az bi (ap VC):=aD ax (br U3)
def vB (B:Bn):UInt8:=UInt8.ofNat B.version.toNat
def FM (B:Bn):List (List UInt8):= [[UInt8.ofNat 1,vB B],B.medium]
def Ny (n:Int):List UInt8:=((ou (UInt32.ofNat n.toNat).toUInt64).drop 4).take 4
def wW (B:Bn):List (List UInt8):= [[UInt8.ofNat 2,vB B],Ny B.kemId,[Tx B.last],B.kem]
theorem Tf (B:Bn) (hv:0≤B.version):vc bi (ap VC) Tryz.f46.ntmps (ah Tryz.f46) ⟨aq 0 [B.nv],[],2000⟩ (G6 2 (FM B) B.nm):=⟨hv,rfl,by decide,rfl,rfl,trivial⟩
theorem zT:af 46 (EG (fun B=>some (0≤B.version)) FM):=p7 Rw Tryz.func46 (by kernel_rfl) rfl (t:=2) Tryz.results46 (Nat.le_of_ble_eq_true rfl) fun B hp=>Tf B hp
theorem Tp (B:Bn) (hv:0≤B.version∧0≤B.kemId):vc bi (ap VC) Tryz.f47.ntmps (ah Tryz.f47) ⟨aq 0 [B.nv],[],2000⟩ (G6 2 (wW B) B.nm):=⟨hv.1,hv.2,rfl,by decide,rfl,rfl,rfl,rfl,trivial⟩
theorem BJ:af 47 (EG (fun B=>some (0≤B.version∧0≤B.kemId)) wW):=p7 Rw Tryz.func47 (by kernel_rfl) rfl (t:=2) Tryz.results47 (Nat.le_of_ble_eq_true rfl) fun B hp=>Tp B hp
def m_ (B:Bn):Bool:=match decide (B.version=1) with
 |true=>decide (B.kemId=0)&&decide ((B.kem.length:Int)=0)&&decide ((B.kemsig.length:Int)=0)&& !B.last
 |false=>decide (B.version=2)&&decide ((B.kem.length:Int)=1184)&&decide ((B.kemsig.length:Int)=64)&&decide (0≤B.kemId)&&(B.last ==decide (B.kemId=0))
theorem UA (B:Bn):vc bi (ap VC) Tryz.f44.ntmps (ah Tryz.f44) ⟨aq 0 [B.av],[],2000⟩ (aI bi Tryz.f44.ntmps [.tmp 2] [.one (.ob .bool (m_ B))] []):=by
 refine ⟨fun h0=> ?_,fun h0=> ?_⟩
 ·refine ⟨fun h1=>⟨fun h2=>⟨fun h3=> ?_,fun h3=> ?_⟩,fun h2=> ?_⟩,fun h1=> ?_⟩
  ·refine ⟨h1,h2,h3,fun _ _=>⟨?_,trivial⟩⟩
   show [m_ B]= [_]
   rw [m_,h0,h1,h2,h3];rfl
  ·refine ⟨h1,h2,h3,fun _ _=>⟨?_,trivial⟩⟩
   show [m_ B]= [_]
   rw [m_,h0,h1,h2,h3];rfl
  ·refine ⟨h1,h2,fun _=>⟨?_,trivial⟩⟩
   show [m_ B]= [_]
   rw [m_,h0,h1,h2];rfl
  ·refine ⟨h1,?_,trivial⟩
   show [m_ B]= [_]
   rw [m_,h0,h1];rfl
 ·refine ⟨fun h1=>⟨fun h2=>⟨fun h3=>⟨fun h4=> ?_,fun h4=> ?_⟩,fun h3=> ?_⟩,fun h2=> ?_⟩,fun h1=> ?_⟩
  ·refine ⟨h1,h2,h3,h4,fun _ _=>⟨?_,trivial⟩⟩
   show [m_ B]= [_]
   rw [m_,h0,h1,h2,h3,h4];rfl
  ·refine ⟨h1,h2,h3,h4,fun _ _=>⟨?_,trivial⟩⟩
   show [m_ B]= [_]
   rw [m_,h0,h1,h2,h3,h4];rfl
  ·refine ⟨h1,h2,h3,fun _ _=>⟨?_,trivial⟩⟩
   show [m_ B]= [_]
   rw [m_,h0,h1,h2,h3];rfl
  ·refine ⟨h1,h2,fun _=>⟨?_,trivial⟩⟩
   show [m_ B]= [_]
   rw [m_,h0,h1,h2];rfl
  ·refine ⟨h1,?_,trivial⟩
   show [m_ B]= [_]
   rw [m_,h0,h1];rfl
def SO:GF:=fun l=>match l with
 | [.agg [.ro .u8 a,.ro .u8 b,.ro .u8 c,.ro .u8 d,.ob .int e,.ro .u8 f,.ob .int g,.ro .u8 h,.ro .u8 i,.ob .bool j,.ob .int k]]=>some ⟨[.one (.ob .bool (m_ ⟨a,b,c,d,e,f,g,h,i,j,k⟩))],[],none⟩
 |_=>none
theorem F7:af 44 (ar SO):=ai ax Rw Tryz.func44 (by kernel_rfl) rfl (rs:= [.tmp 2]) Tryz.results44 fun l g h hp=>by
 unfold SO at h
 split at h
 ·cases h;exact ⟨Nat.le_of_ble_eq_true rfl,rfl,rfl,rfl,UA ⟨_,_,_,_,_,_,_,_,_,_,_⟩⟩
 ·cases h
def Xj:List (Nat×CF):= [(44,ar SO),(45,ar wj),(46,EG (fun B=>some (0≤B.version)) FM),(47,EG (fun B=>some (0≤B.version∧0≤B.kemId)) wW),(48,ar AF)]
theorem V0:∀p∈Xj,af p.1 p.2:=ag F7<|ag vm<|ag zT<|ag BJ<|ag yB fun p hp=>by cases hp
theorem XF:az bi (ap Xj):=aD ax (br V0)
set_option maxRecDepth 10000
def sp (B:Bn):Int:=match decide (0<B.onceId) with |true=>32|false=>0
def dm (B:Bn):Bool:=match decide ((B.sign.length:Int)=32) with
 |false=>true
 |true=>match decide ((B.ident.length:Int)=32) with
  |false=>true
  |true=> !decide ((B.medium.length:Int)=32)||decide ((B.medsig.length:Int)≠64)||decide (B.onceId<0)||decide ((B.once.length:Int)≠sp B)|| !m_ B
def q8 (B:Bn):Int:=iq B.sign B.medsig (FM B).flatten
def xG (B:Bn):Int:=iq B.sign B.kemsig (wW B).flatten
def aX (B:Bn) (least:Int):Int:=match dm B with
 |true=>1
 |false=>match decide (B.version<least) with
  |true=>4
  |false=>match decide (q8 B≠0) with
   |true=>q8 B
   |false=>match decide (B.version=1) with
    |true=>q8 B
    |false=>match decide (xG B≠0) with
     |true=>xG B
     |false=>BO B.kem
theorem P3 {B:Bn} (h:m_ B=true):B.version=1∨(B.version=2∧0≤B.kemId∧B.kem.length=1184):=by
 unfold m_ at h
 split at h
 ·rename_i e;exact Or.inl (of_decide_eq_true e)
 ·simp only [Bool.and_eq_true,decide_eq_true_eq] at h
  exact Or.inr ⟨h.1.1.1.1,h.1.2,by omega⟩
set_option maxHeartbeats 4000000 in
theorem RQ (B:Bn) (least:Int):vc bi (ap Xj) Tryz.f25.ntmps (ah Tryz.f25) ⟨aq 0 [B.av,.one (.ob .int least)],[],2000⟩ (aI bi Tryz.f25.ntmps [.tmp 4] [.one (.ob .int (aX B least))] []):=by
 refine ⟨fun h0=> ?_,fun h0=> ?_⟩
 ·have hw:sp B=32:=by rw [sp,h0]
  refine ⟨fun h1=>⟨fun h2=>⟨h1,h2,fun _ _ hmed=>⟨fun h3=> ?_,fun h3=> ?_⟩⟩,fun h2=> ?_⟩,fun h1=> ?_⟩
  ·refine ⟨h3,?_,trivial⟩
   have hb:dm B=true:=by rw [dm,h1,h2,h3];try rfl
   show [aX B least]= [_]
   rw [aX,hb]
  ·refine ⟨fun h4=> ?_,fun h4=>⟨fun h5=> ?_,fun h5=>⟨fun h6=> ?_,fun h6=> ?_⟩⟩⟩
   ·refine ⟨h3,h4,fun _=>⟨?_,trivial⟩⟩
    have hb:dm B=true:=by rw [dm,h1,h2,h3,h4];try rfl
    show [aX B least]= [_]
    rw [aX,hb]
   ·refine ⟨h3,h4,h5,fun _=>⟨?_,trivial⟩⟩
    have hb:dm B=true:=by rw [dm,h1,h2,h3,h4,h5];try rfl
    show [aX B least]= [_]
    rw [aX,hb]
   ·refine ⟨h3,h4,h5,h6,fun _ _=>⟨?_,trivial⟩⟩
    have hb:dm B=true:=by rw [dm,h1,h2,h3,h4,h5,hw,h6];try rfl
    show [aX B least]= [_]
    rw [aX,hb]
   ·refine ⟨h3,h4,h5,h6,fun _ _=>⟨fun h7=> ?_,fun h7=> ?_⟩⟩
    ·refine ⟨?_,trivial⟩
     have hb:dm B=true:=by rw [dm,h1,h2,h3,h4,h5,hw,h6,h7];try rfl
     show [aX B least]= [_]
     rw [aX,hb]
    ·have hb:dm B=false:=by rw [dm,h1,h2,h3,h4,h5,hw,h6,h7];rfl
     have hs:m_ B=true:=by simpa using h7
     have hv:=P3 hs
     refine ⟨fun h8=> ?_,fun h8=> ?_⟩
     ·refine ⟨?_,trivial⟩
      show [aX B least]= [_]
      rw [aX,hb,h8]
     have v0:0≤B.version:=by omega
     have hm:(FM B).flatten.length≤8388000:=by
      show ([UInt8.ofNat 1,vB B]++(B.medium++ [])).length≤8388000
      have:B.medium.length=32:=by have:=of_decide_eq_true (show decide ((B.medium.length:Int)=32)=true by simpa using h3);omega
      simp [this]
     refine ⟨v0,hm,fun h9=> ?_,fun h9=>⟨h9,fun h10=> ?_,fun h10=> ?_⟩⟩
     ·refine ⟨h9,?_,trivial⟩
      show [aX B least]= [_]
      have h9:decide (q8 B≠0)=true:=h9
      rw [aX,hb,h8,h9];rfl
     ·refine ⟨?_,trivial⟩
      show [aX B least]= [_]
      have h9:decide (q8 B≠0)=false:=h9
      rw [aX,hb,h8,h9,h10];rfl
     have k0:0≤B.kemId∧B.kem.length=1184:=by
      have:¬B.version=1:=of_decide_eq_false h10
      omega
     have hk:(wW B).flatten.length≤8388000:=by
      show ([UInt8.ofNat 2,vB B]++(Ny B.kemId++([Tx B.last]++(B.kem++ [])))).length≤8388000
      have:(Ny B.kemId).length≤4:=by rw [Ny,List.length_take];omega
      simp [k0.2];omega
     have h9:decide (q8 B≠0)=false:=h9
     refine ⟨⟨v0,k0.1⟩,hk,fun h11=> ?_,fun h11=> ?_⟩
     ·refine ⟨?_,trivial⟩
      show [aX B least]= [_]
      have h11:decide (xG B≠0)=true:=h11
      rw [aX,hb,h8,h9,h10,h11];rfl
     ·refine ⟨?_,trivial⟩
      show [aX B least]= [_]
      have h11:decide (xG B≠0)=false:=h11
      rw [aX,hb,h8,h9,h10,h11]
  ·refine ⟨h1,h2,fun _ _=>⟨?_,trivial⟩⟩
   have hb:dm B=true:=by rw [dm,h1,h2];try rfl
   show [aX B least]= [_]
   rw [aX,hb]
  ·refine ⟨h1,fun _=>⟨?_,trivial⟩⟩
   have hb:dm B=true:=by rw [dm,h1];try rfl
   show [aX B least]= [_]
   rw [aX,hb]
 ·have hw:sp B=0:=by rw [sp,h0]
  refine ⟨fun h1=>⟨fun h2=>⟨h1,h2,fun _ _ hmed=>⟨fun h3=> ?_,fun h3=> ?_⟩⟩,fun h2=> ?_⟩,fun h1=> ?_⟩
  ·refine ⟨h3,?_,trivial⟩
   have hb:dm B=true:=by rw [dm,h1,h2,h3];try rfl
   show [aX B least]= [_]
   rw [aX,hb]
  ·refine ⟨fun h4=> ?_,fun h4=>⟨fun h5=> ?_,fun h5=>⟨fun h6=> ?_,fun h6=> ?_⟩⟩⟩
   ·refine ⟨h3,h4,fun _=>⟨?_,trivial⟩⟩
    have hb:dm B=true:=by rw [dm,h1,h2,h3,h4];try rfl
    show [aX B least]= [_]
    rw [aX,hb]
   ·refine ⟨h3,h4,h5,fun _=>⟨?_,trivial⟩⟩
    have hb:dm B=true:=by rw [dm,h1,h2,h3,h4,h5];try rfl
    show [aX B least]= [_]
    rw [aX,hb]
   ·refine ⟨h3,h4,h5,h6,fun _ _=>⟨?_,trivial⟩⟩
    have hb:dm B=true:=by rw [dm,h1,h2,h3,h4,h5,hw,h6];try rfl
    show [aX B least]= [_]
    rw [aX,hb]
   ·refine ⟨h3,h4,h5,h6,fun _ _=>⟨fun h7=> ?_,fun h7=> ?_⟩⟩
    ·refine ⟨?_,trivial⟩
     have hb:dm B=true:=by rw [dm,h1,h2,h3,h4,h5,hw,h6,h7];try rfl
     show [aX B least]= [_]
     rw [aX,hb]
    ·have hb:dm B=false:=by rw [dm,h1,h2,h3,h4,h5,hw,h6,h7];rfl
     have hs:m_ B=true:=by simpa using h7
     have hv:=P3 hs
     refine ⟨fun h8=> ?_,fun h8=> ?_⟩
     ·refine ⟨?_,trivial⟩
      show [aX B least]= [_]
      rw [aX,hb,h8]
     have v0:0≤B.version:=by omega
     have hm:(FM B).flatten.length≤8388000:=by
      show ([UInt8.ofNat 1,vB B]++(B.medium++ [])).length≤8388000
      have:B.medium.length=32:=by have:=of_decide_eq_true (show decide ((B.medium.length:Int)=32)=true by simpa using h3);omega
      simp [this]
     refine ⟨v0,hm,fun h9=> ?_,fun h9=>⟨h9,fun h10=> ?_,fun h10=> ?_⟩⟩
     ·refine ⟨h9,?_,trivial⟩
      show [aX B least]= [_]
      have h9:decide (q8 B≠0)=true:=h9
      rw [aX,hb,h8,h9];rfl
     ·refine ⟨?_,trivial⟩
      show [aX B least]= [_]
      have h9:decide (q8 B≠0)=false:=h9
      rw [aX,hb,h8,h9,h10];rfl
     have k0:0≤B.kemId∧B.kem.length=1184:=by
      have:¬B.version=1:=of_decide_eq_false h10
      omega
     have hk:(wW B).flatten.length≤8388000:=by
      show ([UInt8.ofNat 2,vB B]++(Ny B.kemId++([Tx B.last]++(B.kem++ [])))).length≤8388000
      have:(Ny B.kemId).length≤4:=by rw [Ny,List.length_take];omega
      simp [k0.2];omega
     have h9:decide (q8 B≠0)=false:=h9
     refine ⟨⟨v0,k0.1⟩,hk,fun h11=> ?_,fun h11=> ?_⟩
     ·refine ⟨?_,trivial⟩
      show [aX B least]= [_]
      have h11:decide (xG B≠0)=true:=h11
      rw [aX,hb,h8,h9,h10,h11];rfl
     ·refine ⟨?_,trivial⟩
      show [aX B least]= [_]
      have h11:decide (xG B≠0)=false:=h11
      rw [aX,hb,h8,h9,h10,h11]
  ·refine ⟨h1,h2,fun _ _=>⟨?_,trivial⟩⟩
   have hb:dm B=true:=by rw [dm,h1,h2];try rfl
   show [aX B least]= [_]
   rw [aX,hb]
  ·refine ⟨h1,fun _=>⟨?_,trivial⟩⟩
   have hb:dm B=true:=by rw [dm,h1];try rfl
   show [aX B least]= [_]
   rw [aX,hb]
def He:GF:=fun l=>match l with
 | [.agg [.ro .u8 a,.ro .u8 b,.ro .u8 c,.ro .u8 d,.ob .int e,.ro .u8 f,.ob .int g,.ro .u8 h,.ro .u8 i,.ob .bool j,.ob .int k],.one (.ob .int n)]=>some ⟨[.one (.ob .int (aX ⟨a,b,c,d,e,f,g,h,i,j,k⟩ n))],[],none⟩
 |_=>none
theorem pw:af 25 (ar He):=ai ax XF Tryz.func25 (by kernel_rfl) rfl (rs:= [.tmp 4]) Tryz.results25 fun l g h hp=>by
 unfold He at h
 split at h
 ·cases h;exact ⟨Nat.le_of_ble_eq_true rfl,rfl,rfl,rfl,RQ ⟨_,_,_,_,_,_,_,_,_,_,_⟩ _⟩
 ·cases h
set_option maxRecDepth 10000
set_option linter.unusedVariables false
theorem Kl {c n:Int} (hc:0≤c∧c≤1000) (h0:0≤n) (h1:n≤1000000):gH (c+n):=⟨by omega,by omega⟩
theorem Ye {c n:Int} (hc:0≤c) (h0:0≤n):0≤c+n:=by omega
def TG:List (Nat×CF):= [(95,ar Jx),(90,ar Iq),(136,ar ot),(94,ar Er),(52,ar C8),(82,ar tZ),(55,ar Hi)]
theorem QC:∀p∈TG,af p.1 p.2:=ag m0<|ag nd<|ag lN<|ag qw<|ag oG<|ag vq<|ag AQ fun p hp=>by cases hp
theorem R6:az bi (ap TG):=aD ax (br QC)
def xK (n:Int):List UInt8:= [[UInt8.ofNat 112,UInt8.ofNat 97,UInt8.ofNat 114,UInt8.ofNat 116],dC (UInt64.ofNat n.toNat) 4 4].flatten
def dX (seed:List UInt8) (n:Int):List UInt8:=GA (pD [] seed) (xK n) 2
theorem tc (seed:List UInt8) (n:Int):(dX seed n).length=64:=od _ _ 2
theorem GJ (n:Int):(xK n).length=8:=by rw [xK];simp [iw]
def zD (seed:List UInt8) (v:Int) (o k:List Int):List Ch:= [.blk 99 [.rw 1001,.ob .int v,.rw 1002,.rw 1003],.row 5 .u8 seed,.row 3 .int o,.row 3 .int k]
theorem SM (seed:List UInt8) (v:Int) (o k:List Int) (n:Int) (hp:seed.length≤65536∧0≤n):vc bi (ap TG) Tryz.f81.ntmps (ah Tryz.f81) ⟨aq 0 [.one (.ptr 1000 0),.one (.ob .int n)],bW 1000 (zD seed v o k),2000⟩ (nL bi Tryz.f81.ntmps [.tmp 4] [.one (.sub 0 0 64)] [(0,.row 5 .u8 (dX seed n))] (zD seed v o k) []):=by
 have h1:=GJ n
 refine ⟨hp.2,⟨by decide,by decide⟩,⟨by show (2:Nat)≤1000;decide,by show (xK n).length≤16777216;omega⟩,⟨by decide,hp.1,by show (xK n).length≤65536;omega,by decide,by decide⟩,rfl,rfl,rfl,trivial⟩
def K7:GT:=fun l cs=>match l,cs with
 | [.one (.ptr 1000 0),.one (.ob .int n)],[.blk 99 [.rw 1001,.ob .int v,.rw 1002,.rw 1003],.row 5 .u8 seed,.row 3 .int o,.row 3 .int k]=>some ⟨[.one (.sub 0 0 64)],[(0,.row 5 .u8 (dX seed n))],[],some (seed.length≤65536∧0≤n)⟩
 |_,_=>none
theorem Bu:af 81 (qE K7):=cW ax R6 Tryz.func81 (by kernel_rfl) rfl (rs:= [.tmp 4]) Tryz.results81 fun l cs g h hp=>by
 unfold K7 at h
 split at h
 ·cases h;exact ⟨Nat.le_of_ble_eq_true rfl,rfl,rfl,rfl,SM _ _ _ _ _ hp⟩
 ·cases h
def Pw:List (Nat×CF):=(81,qE K7)::TG
theorem Qx:∀p∈Pw,af p.1 p.2:=ag Bu QC
theorem Lk:az bi (ap Pw):=aD ax (br Qx)
theorem Mr (seed:List UInt8) (v:Int) (o k:List Int) (hp:seed.length≤65536):vc bi (ap Pw) Tryz.f56.ntmps (ah Tryz.f56) ⟨aq 0 [.one (.ptr 1000 0)],bW 1000 (zD seed v o k),2000⟩ (nL bi Tryz.f56.ntmps [.tmp 2] [.one (.sub 0 0 32)] [(0,.row 5 .u8 (dX seed 0))] (zD seed v o k) []):=
 ⟨⟨hp,by decide⟩,⟨⟨by decide,by decide⟩,trivial⟩,rfl,rfl,rfl,trivial⟩
def BK:GT:=fun l cs=>match l,cs with
 | [.one (.ptr 1000 0)],[.blk 99 [.rw 1001,.ob .int v,.rw 1002,.rw 1003],.row 5 .u8 seed,.row 3 .int o,.row 3 .int k]=>some ⟨[.one (.sub 0 0 32)],[(0,.row 5 .u8 (dX seed 0))],[],some (seed.length≤65536)⟩
 |_,_=>none
theorem yr:af 56 (qE BK):=cW ax Lk Tryz.func56 (by kernel_rfl) rfl (rs:= [.tmp 2]) Tryz.results56 fun l cs g h hp=>by
 unfold BK at h
 split at h
 ·cases h;exact ⟨Nat.le_of_ble_eq_true rfl,rfl,rfl,rfl,Mr _ _ _ _ hp⟩
 ·cases h
theorem OZ (seed:List UInt8) (v:Int) (o k:List Int) (hp:seed.length≤65536):vc bi (ap Pw) Tryz.f83.ntmps (ah Tryz.f83) ⟨aq 0 [.one (.ptr 1000 0)],bW 1000 (zD seed v o k),2000⟩ (nL bi Tryz.f83.ntmps [.tmp 2] [.one (.sub 0 0 32)] [(0,.row 5 .u8 (dX seed 1))] (zD seed v o k) []):=
 ⟨⟨hp,by decide⟩,⟨⟨by decide,by decide⟩,trivial⟩,rfl,rfl,rfl,trivial⟩
def A_:GT:=fun l cs=>match l,cs with
 | [.one (.ptr 1000 0)],[.blk 99 [.rw 1001,.ob .int v,.rw 1002,.rw 1003],.row 5 .u8 seed,.row 3 .int o,.row 3 .int k]=>some ⟨[.one (.sub 0 0 32)],[(0,.row 5 .u8 (dX seed 1))],[],some (seed.length≤65536)⟩
 |_,_=>none
theorem xq:af 83 (qE A_):=cW ax Lk Tryz.func83 (by kernel_rfl) rfl (rs:= [.tmp 2]) Tryz.results83 fun l cs g h hp=>by
 unfold A_ at h
 split at h
 ·cases h;exact ⟨Nat.le_of_ble_eq_true rfl,rfl,rfl,rfl,OZ _ _ _ _ hp⟩
 ·cases h
theorem KL (seed:List UInt8) (v:Int) (o k:List Int) (hp:seed.length≤65536):vc bi (ap Pw) Tryz.f53.ntmps (ah Tryz.f53) ⟨aq 0 [.one (.ptr 1000 0)],bW 1000 (zD seed v o k),2000⟩ (nL bi Tryz.f53.ntmps [.tmp 2] [.one (.sub 0 0 32)] [(0,.row 5 .u8 (dX seed 2))] (zD seed v o k) []):=
 ⟨⟨hp,by decide⟩,⟨⟨by decide,by decide⟩,trivial⟩,rfl,rfl,rfl,trivial⟩
def uI:GT:=fun l cs=>match l,cs with
 | [.one (.ptr 1000 0)],[.blk 99 [.rw 1001,.ob .int v,.rw 1002,.rw 1003],.row 5 .u8 seed,.row 3 .int o,.row 3 .int k]=>some ⟨[.one (.sub 0 0 32)],[(0,.row 5 .u8 (dX seed 2))],[],some (seed.length≤65536)⟩
 |_,_=>none
theorem vg:af 53 (qE uI):=cW ax Lk Tryz.func53 (by kernel_rfl) rfl (rs:= [.tmp 2]) Tryz.results53 fun l cs g h hp=>by
 unfold uI at h
 split at h
 ·cases h;exact ⟨Nat.le_of_ble_eq_true rfl,rfl,rfl,rfl,KL _ _ _ _ hp⟩
 ·cases h
theorem M5 (seed:List UInt8) (v:Int) (o k:List Int) (n:Int) (hp:seed.length≤65536∧0≤n∧n≤1000000):vc bi (ap Pw) Tryz.f58.ntmps (ah Tryz.f58) ⟨aq 0 [.one (.ptr 1000 0),.one (.ob .int n)],bW 1000 (zD seed v o k),2000⟩ (nL bi Tryz.f58.ntmps [.tmp 4] [.one (.sub 0 0 32)] [(0,.row 5 .u8 (dX seed (100+n)))] (zD seed v o k) []):=
 ⟨Kl (by decide) hp.2.1 hp.2.2,⟨hp.1,Ye (by decide) hp.2.1⟩,⟨⟨by decide,by decide⟩,trivial⟩,rfl,rfl,rfl,trivial⟩
def Ar:GT:=fun l cs=>match l,cs with
 | [.one (.ptr 1000 0),.one (.ob .int n)],[.blk 99 [.rw 1001,.ob .int v,.rw 1002,.rw 1003],.row 5 .u8 seed,.row 3 .int o,.row 3 .int k]=>some ⟨[.one (.sub 0 0 32)],[(0,.row 5 .u8 (dX seed (100+n)))],[],some (seed.length≤65536∧0≤n∧n≤1000000)⟩
 |_,_=>none
theorem wC:af 58 (qE Ar):=cW ax Lk Tryz.func58 (by kernel_rfl) rfl (rs:= [.tmp 4]) Tryz.results58 fun l cs g h hp=>by
 unfold Ar at h
 split at h
 ·cases h;exact ⟨Nat.le_of_ble_eq_true rfl,rfl,rfl,rfl,M5 _ _ _ _ _ hp⟩
 ·cases h
def dz (seed:List UInt8) (n:Int):List UInt8×List UInt8:=((dX seed (200+n)).take 32,((dX seed (200+n)).drop 32).take 32)
theorem So (seed:List UInt8) (v:Int) (o k:List Int) (n:Int) (hp:seed.length≤65536∧0≤n∧n≤1000000):vc bi (ap Pw) Tryz.f59.ntmps (ah Tryz.f59) ⟨aq 0 [.one (.ptr 1000 0),.one (.ob .int n)],bW 1000 (zD seed v o k),2000⟩ (nL bi Tryz.f59.ntmps [.tmp 4,.tmp 5] [.one (.rw 0),.one (.rw 1)] [(0,.row 5 .u8 (jd (dz seed n).1)),(1,.row 5 .u8 (TF (dz seed n).1 (dz seed n).2))] (zD seed v o k) []):=by
 have h1:=tc seed (200+n)
 refine ⟨Kl (by decide) hp.2.1 hp.2.2,⟨hp.1,Ye (by decide) hp.2.1⟩,⟨⟨by decide,by decide⟩,trivial⟩,⟨by decide,by decide⟩,⟨?_,?_⟩,rfl,rfl,trivial⟩
 ·show ((dX seed (200+n)).take 32).length=32
  rw [List.length_take];omega
 ·show (((dX seed (200+n)).drop 32).take 32).length=32
  rw [List.length_take,List.length_drop];omega
def J3:GT:=fun l cs=>match l,cs with
 | [.one (.ptr 1000 0),.one (.ob .int n)],[.blk 99 [.rw 1001,.ob .int v,.rw 1002,.rw 1003],.row 5 .u8 seed,.row 3 .int o,.row 3 .int k]=>some ⟨[.one (.rw 0),.one (.rw 1)],[(0,.row 5 .u8 (jd (dz seed n).1)),(1,.row 5 .u8 (TF (dz seed n).1 (dz seed n).2))],[],some (seed.length≤65536∧0≤n∧n≤1000000)⟩
 |_,_=>none
theorem Ba:af 59 (qE J3):=cW ax Lk Tryz.func59 (by kernel_rfl) rfl (rs:= [.tmp 4,.tmp 5]) Tryz.results59 fun l cs g h hp=>by
 unfold J3 at h
 split at h
 ·cases h;exact ⟨Nat.le_of_ble_eq_true rfl,rfl,rfl,rfl,So _ _ _ _ _ hp⟩
 ·cases h
def WD:List (Nat×CF):=(56,qE BK)::(83,qE A_)::(53,qE uI)::(58,qE Ar)::(59,qE J3)::Pw
theorem Qi:∀p∈WD,af p.1 p.2:=ag yr<|ag xq<|ag vg<|ag wC<|ag Ba Qx
theorem XI:az bi (ap WD):=aD ax (br Qi)
def iu (seed:List UInt8):List UInt8:=(dX seed 0).take 32
def CH (seed:List UInt8):List UInt8:=(dX seed 1).take 32
def Hv (seed:List UInt8):List UInt8:=(dX seed 2).take 32
def zm (seed:List UInt8) (n:Int):List UInt8:=(dX seed (100+n)).take 32
def lI (s:List UInt8):List UInt8:=bq 32 (Fm s [9]).val
theorem E9 (seed:List UInt8) (v:Int) (o k:List Int) (hp:seed.length≤65536):vc bi (ap WD) Tryz.f54.ntmps (ah Tryz.f54) ⟨aq 0 [.one (.ptr 1000 0)],bW 1000 (zD seed v o k),2000⟩ (nL bi Tryz.f54.ntmps [.tmp 2,.tmp 3] [.one (.rw 0),.one (.rw 1)] [(0,.row 5 .u8 (ll (iu seed))),(1,.row 5 .u8 (lI (CH seed)))] (zD seed v o k) []):=by
 have h1:=tc seed 0
 refine ⟨hp,?_,hp,rfl,rfl,trivial⟩
 show ((dX seed 0).take 32).length≤8388608
 rw [List.length_take];omega
def oO:GT:=fun l cs=>match l,cs with
 | [.one (.ptr 1000 0)],[.blk 99 [.rw 1001,.ob .int v,.rw 1002,.rw 1003],.row 5 .u8 seed,.row 3 .int o,.row 3 .int k]=>some ⟨[.one (.rw 0),.one (.rw 1)],[(0,.row 5 .u8 (ll (iu seed))),(1,.row 5 .u8 (lI (CH seed)))],[],some (seed.length≤65536)⟩
 |_,_=>none
theorem qQ:af 54 (qE oO):=cW ax XI Tryz.func54 (by kernel_rfl) rfl (rs:= [.tmp 2,.tmp 3]) Tryz.results54 fun l cs g h hp=>by
 unfold oO at h
 split at h
 ·cases h;exact ⟨Nat.le_of_ble_eq_true rfl,rfl,rfl,rfl,E9 _ _ _ _ hp⟩
 ·cases h
def tW (v:Int) (m:List UInt8):List UInt8:= [[UInt8.ofNat 1,UInt8.ofNat v.toNat],m].flatten
def lY (v n:Int) (l:Bool) (m:List UInt8):List UInt8:= [[UInt8.ofNat 2,UInt8.ofNat v.toNat],dC (UInt64.ofNat n.toNat) 4 4,[Tx l],m].flatten
theorem F3 (v:Int) (m:List UInt8) (hp:0≤v∧m.length≤65536):vc bi (ap TG) Tryz.f57.ntmps (ah Tryz.f57) ⟨aq 0 [.one (.ob .int v),.one (.ro .u8 m)],[],2000⟩ (aI bi Tryz.f57.ntmps [.tmp 4] [.one (.rw 0)] [(0,.row 5 .u8 (tW v m))]):=by
 have h:(tW v m).length≤16777216:=by rw [tW];simp;omega
 exact ⟨hp.1,⟨(by show (2:Nat)≤1000;decide),h⟩,rfl,trivial⟩
def pU:GF:=fun l=>match l with
 | [.one (.ob .int v),.one (.ro .u8 m)]=>some ⟨[.one (.rw 0)],[(0,.row 5 .u8 (tW v m))],some (0≤v∧m.length≤65536)⟩
 |_=>none
theorem rg:af 57 (ar pU):=ai ax R6 Tryz.func57 (by kernel_rfl) rfl (rs:= [.tmp 4]) Tryz.results57 fun l g h hp=>by
 unfold pU at h
 split at h
 ·cases h;exact ⟨Nat.le_of_ble_eq_true rfl,rfl,rfl,rfl,F3 _ _ hp⟩
 ·cases h
theorem Gt (v n:Int) (l:Bool) (m:List UInt8) (hp:0≤v∧0≤n∧m.length≤65536):vc bi (ap TG) Tryz.f60.ntmps (ah Tryz.f60) ⟨aq 0 [.one (.ob .int v),.one (.ob .int n),.one (.ob .bool l),.one (.ro .u8 m)],[],2000⟩ (aI bi Tryz.f60.ntmps [.tmp 8] [.one (.rw 0)] [(0,.row 5 .u8 (lY v n l m))]):=by
 have h:(lY v n l m).length≤16777216:=by rw [lY];simp [iw];omega
 refine ⟨fun e=> ?_,fun e=> ?_⟩
 ·cases (show l=true from e)
  exact ⟨hp.1,hp.2.1,⟨by decide,by decide⟩,⟨(by show (4:Nat)≤1000;decide),h⟩,rfl,trivial⟩
 ·cases (show l=false from e)
  exact ⟨hp.1,hp.2.1,⟨by decide,by decide⟩,⟨(by show (4:Nat)≤1000;decide),h⟩,rfl,trivial⟩
def pk:GF:=fun l=>match l with
 | [.one (.ob .int v),.one (.ob .int n),.one (.ob .bool l),.one (.ro .u8 m)]=>some ⟨[.one (.rw 0)],[(0,.row 5 .u8 (lY v n l m))],some (0≤v∧0≤n∧m.length≤65536)⟩
 |_=>none
theorem qV:af 60 (ar pk):=ai ax R6 Tryz.func60 (by kernel_rfl) rfl (rs:= [.tmp 8]) Tryz.results60 fun l g h hp=>by
 unfold pk at h
 split at h
 ·cases h;exact ⟨Nat.le_of_ble_eq_true rfl,rfl,rfl,rfl,Gt _ _ _ _ hp⟩
 ·cases h
set_option maxRecDepth 10000
set_option linter.unusedVariables false
theorem Mi {n:Nat} (h:n<9223372036854775807):gH ((n:Int)+1):=⟨by omega,by omega⟩
theorem X5 (l:List Int) (n:Int):vc bi (ap []) Tryz.f41.ntmps (ah Tryz.f41) ⟨aq 0 [.one (.ro .int l),.one (.ob .int n)],[],2000⟩ (aI bi Tryz.f41.ntmps [.tmp 4] [.one (.ob .bool (decide (n∈l)))] []):=by
 refine Or.inr ⟨{i:Nat // i≤l.length∧n ∉ l.take i},fun i=>⟨[(5,.one (.ob .int (i.1:Int)))],[]⟩,fun i=>l.length-i.1,⟨0,Nat.zero_le _,by simp⟩,?_⟩
 refine ⟨by rfl,fun i=>fun hl=> ?_⟩
 obtain ⟨i,hi,hn⟩:=i
 refine ⟨fun h=> ?_,fun h=> ?_⟩
 ·have h:=of_decide_eq_true h
  have hi2:i<l.length:=by
   have h:(i:Int)<(l.length:Int):=h
   omega
  have eg:l.getD ((i:Int)).toNat Kd.int.df=l[i]:=by
   rw [List.getD_eq_getElem?_getD,show ((i:Int)).toNat=i from Int.toNat_natCast i,List.getElem?_eq_getElem hi2];rfl
  refine ⟨⟨Int.natCast_nonneg _,h⟩,fun e=> ?_,fun e=> ?_⟩
  ·have e1:l[i]=n:=eg.symm.trans (of_decide_eq_true e)
   have e2:decide (n∈l)=true:=decide_eq_true (e1▸List.getElem_mem hi2)
   refine ⟨?_,trivial⟩
   show [decide (n∈l)]= [true]
   rw [e2]
  ·have e1:l[i]≠n:=fun k=>of_decide_eq_false e (eg.trans k)
   have hm:l.length≤9223372036854775807:=hl
   refine ⟨Mi (n:=i) (by omega),⟨i+1,hi2,?_⟩,?_⟩
   ·rw [List.take_add_one,List.getElem?_eq_getElem hi2,List.mem_append]
    rintro (k|k)
    ·exact hn k
    ·exact e1 (List.mem_singleton.1 k).symm
   ·exact ⟨by show l.length-(i+1)<l.length-i;omega,rfl,trivial⟩
 ·have h:=of_decide_eq_false h
  have hi2:i=l.length:=by
   have h:¬(i:Int)<(l.length:Int):=h
   omega
  refine ⟨?_,trivial⟩
  show [decide (n∈l)]= [false]
  rw [decide_eq_false]
  rw [hi2,List.take_length] at hn
  exact hn
def W_:GF:=fun l=>match l with
 | [.one (.ro .int l),.one (.ob .int n)]=>some ⟨[.one (.ob .bool (decide (n∈l)))],[],none⟩
 |_=>none
theorem EF:af 41 (ar W_):=ai ax SN Tryz.func41 (by kernel_rfl) rfl (rs:= [.tmp 4]) Tryz.results41 fun l g h hp=>by
 unfold W_ at h
 split at h
 ·cases h;exact ⟨Nat.le_of_ble_eq_true rfl,rfl,rfl,rfl,X5 _ _⟩
 ·cases h
def kk (n:Nat):List Int:=(List.range n).map fun (i:Nat)=>(i:Int)+1
theorem j7 (n:Nat):kk (n+1)=kk n++ [(n:Int)+1]:=by rw [kk,List.range_succ,List.map_append];rfl
theorem yl (n:Nat):(kk n).length=n:=by rw [kk,List.length_map,List.length_range]
theorem wF {n:Nat} {x:Int}:x∈kk n↔1≤x∧x≤n:=by
 rw [kk,List.mem_map]
 constructor
 ·rintro ⟨i,hi,rfl⟩
  have:=List.mem_range.1 hi
  omega
 ·intro h
  exact ⟨(x-1).toNat,List.mem_range.2 (by omega),by omega⟩
def i6 (v:Int) (n:Nat):List Int:=match decide (v=2) with |true=>kk n|false=> []
theorem DW {n:Nat} (h:n<1000):gH ((n:Int)+1+1):=⟨by omega,by omega⟩
theorem Rk (v:Int):i6 v 0= []:=by unfold i6;split<;>rfl
theorem sy (v:Int) (n:Nat):i6 v (n+1)=match decide (v=2) with |true=>i6 v n++ [(n:Int)+1]|false=>i6 v n:=by
 unfold i6
 split
 ·exact j7 n
 ·rfl
theorem R4 (seed:List UInt8) (v n:Int) (hp:seed.length=32∧1≤v∧v≤2∧0≤n∧n≤10):vc bi (ap []) Tryz.f30.ntmps (ah Tryz.f30) ⟨aq 0 [.one (.rw 1000),.one (.ob .int v),.one (.ob .int n)],bW 1000 [.row 5 .u8 seed],2000⟩ (nL bi Tryz.f30.ntmps [.tmp 6,.tmp 7] [.one (.ptr 0 0),.one (.ob .int 0)] [(0,.blk 99 [.rw 1000,.ob .int v,.rw 1,.rw 2]),(1,.row 3 .int (kk n.toNat)),(2,.row 3 .int (i6 v n.toNat))] [.row 5 .u8 seed] []):=by
 obtain ⟨hl,hv1,hv2,hn0,hn1⟩:=hp
 refine ⟨fun h0=> ?_,fun h0=>⟨fun h1=> ?_,fun h1=>⟨fun h2=> ?_,fun h2=>⟨fun h3=> ?_,fun h3=> ?_⟩⟩⟩⟩
 ·exact absurd (of_decide_eq_true h0) (fun k=>k (by omega))
 ·exact absurd (of_decide_eq_true h1) (Int.not_lt.2 hv1)
 ·exact absurd (of_decide_eq_true h2) (Int.not_lt.2 hv2)
 ·exact absurd (of_decide_eq_true h3) (Int.not_lt.2 hn0)
 ·refine ⟨h0,h1,h2,h3,fun _=>⟨fun h4=> ?_,fun h4=> ?_⟩⟩
  ·exact absurd (of_decide_eq_true h4) (Int.not_lt.2 hn1)
  ·refine Or.inr ⟨{i:Nat // (i:Int)≤n},fun i=>⟨[(9,.one (.ob .int ((i.1:Int)+1)))],[(2384,.blk 99 [.rw 1000,.ob .int v,.rw 0,.rw 1]),(0,.row 3 .int (kk i.1)),(1,.row 3 .int (i6 v i.1))]⟩,fun i=>n.toNat-i.1,⟨0,hn0⟩,?_⟩
   refine ⟨rfl,rfl,rfl,Rk v,fun i=>⟨fun h5=> ?_,fun h5=> ?_⟩⟩
   ·obtain ⟨i,hi⟩:=i
    have h5:(i:Int)+1≤n:=of_decide_eq_true h5
    have e1:kk i++ [(i:Int)+1]=kk (i+1):=(j7 i).symm
    have l1:=yl i
    have l2:=yl (i+1)
    refine ⟨?_,fun h6=> ?_,fun h6=> ?_⟩
    ·show (kk i++ [(i:Int)+1]).length≤16777216
     rw [e1];omega
    ·have e2:i6 v (i+1)=i6 v i++ [(i:Int)+1]:=by rw [sy,h6]
     have e3:i6 v i=kk i:=by rw [i6,h6]
     refine ⟨?_,DW (n:=i) (by omega),⟨i+1,h5⟩,?_,rfl,rfl,j7 i,e2,trivial⟩
     ·show (i6 v i++ [(i:Int)+1]).length≤16777216
      rw [e3,e1];omega
     ·show n.toNat-(i+1)<n.toNat-i
      omega
    ·have e2:i6 v (i+1)=i6 v i:=by rw [sy,h6]
     refine ⟨DW (n:=i) (by omega),⟨i+1,h5⟩,?_,rfl,rfl,j7 i,e2,trivial⟩
     show n.toNat-(i+1)<n.toNat-i
     omega
   ·obtain ⟨i,hi⟩:=i
    have h5:¬(i:Int)+1≤n:=of_decide_eq_false h5
    obtain rfl:i=n.toNat:=by omega
    exact ⟨rfl,rfl,rfl,rfl,trivial⟩
def Ls:GT:=fun l cs=>match l,cs with
 | [.one (.rw 1000),.one (.ob .int v),.one (.ob .int n)],[.row 5 .u8 seed]=>some ⟨[.one (.ptr 0 0),.one (.ob .int 0)],[(0,.blk 99 [.rw 1000,.ob .int v,.rw 1,.rw 2]),(1,.row 3 .int (kk n.toNat)),(2,.row 3 .int (i6 v n.toNat))],[],some (seed.length=32∧1≤v∧v≤2∧0≤n∧n≤10)⟩
 |_,_=>none
theorem Ce:af 30 (qE Ls):=cW ax SN Tryz.func30 (by kernel_rfl) rfl (rs:= [.tmp 6,.tmp 7]) Tryz.results30 fun l cs g h hp=>by
 unfold Ls at h
 split at h
 ·cases h;exact ⟨Nat.le_of_ble_eq_true rfl,rfl,rfl,rfl,R4 _ _ _ hp⟩
 ·cases h
set_option maxRecDepth 10000
set_option linter.unusedVariables false
def XW:List (Nat×CF):=(54,qE oO)::(57,ar pU)::(60,ar pk)::(41,ar W_)::WD
theorem Uu:∀p∈XW,af p.1 p.2:=ag qQ<|ag rg<|ag qV<|ag EF Qi
theorem XR:az bi (ap XW):=aD ax (br Uu)
def yH (seed:List UInt8) (n:Int):List UInt8:=match decide (0<n) with |true=>lI (zm seed n)|false=> []
def qG (seed:List UInt8) (v n:Int):List UInt8:=match decide (v=2) with |true=>jd (dz seed n).1|false=> []
def vj (seed:List UInt8) (v n:Int):List UInt8:=match decide (v=2) with |true=>fG (iu seed) (lY v n (decide (n=0)) (jd (dz seed n).1))|false=> []
def nz (v n:Int):Int:=match decide (v=2) with |true=>n|false=>0
def yJ (v n:Int):Bool:=match decide (v=2) with |true=>decide (n=0)|false=>false
def dI (seed:List UInt8) (v n m:Int):Bn:=⟨ll (iu seed),lI (CH seed),lI (Hv seed),fG (iu seed) (tW v (lI (Hv seed))),n,yH seed n,nz v m,qG seed v m,vj seed v m,yJ v m,v⟩
def Bn.rv (B:Bn):AV:= .agg [.rw 0,.rw 1,.rw 2,.rw 3,.ob .int B.onceId,.rw 4,.ob .int B.kemId,.rw 5,.rw 6,.ob .bool B.last,.ob .int B.version]
def Bn.us (B:Bn):List (Nat×Ch):= [(0,.row 5 .u8 B.sign),(1,.row 5 .u8 B.ident),(2,.row 5 .u8 B.medium),(3,.row 5 .u8 B.medsig),(4,.row 5 .u8 B.once),(5,.row 5 .u8 B.kem),(6,.row 5 .u8 B.kemsig)]
def Sk (seed:List UInt8) (v:Int) (o k:List Int) (n m:Int):Prop:=seed.length≤65536∧1≤v∧v≤2∧0≤n∧n≤1000∧0≤m∧m≤1000∧(0<n→n∈o)∧(v=2→0<m→m∈k)
theorem fv (s:List UInt8):(lI s).length=32:=au _ _
theorem KB (v:Int) (m:List UInt8):(tW v m).length=m.length+2:=by rw [tW];simp
theorem G_ (v n:Int) (l:Bool) (m:List UInt8):(lY v n l m).length=m.length+7:=by rw [lY];simp [iw];omega
set_option maxHeartbeats 16000000 in
theorem U0 (seed:List UInt8) (v:Int) (o k:List Int) (n m:Int) (hp:Sk seed v o k n m):vc bi (ap XW) Tryz.f33.ntmps (ah Tryz.f33) ⟨aq 0 [.one (.ptr 1000 0),.one (.ob .int n),.one (.ob .int m)],bW 1000 (zD seed v o k),2000⟩ (nL bi Tryz.f33.ntmps [.cell 6 32,.tmp 7] [(dI seed v n m).rv,.one (.ob .int 0)] (dI seed v n m).us (zD seed v o k) []):=by
 obtain ⟨hl,hv1,hv2,hn0,hn1,hm0,hm1,hno,hmk⟩:=hp
 have hv0:(0:Int)≤v:=by omega
 have hn2:n≤1000000:=by omega
 have hm2:m≤1000000:=by omega
 have q1:(tW v (lI (Hv seed))).length≤8388000:=by rw [KB,fv];decide
 have q2:(lI (Hv seed)).length≤65536:=by rw [fv];decide
 have q3:(iu seed).length≤8388608:=by rw [iu,List.length_take];omega
 have q4:(jd (dz seed m).1).length≤65536:=by have:=iX (dz seed m).1;omega
 have q5:∀b,(lY v m b (jd (dz seed m).1)).length≤8388000:=fun b=>by have:=iX (dz seed m).1;rw [G_];omega
 refine ⟨fun h0=>absurd (of_decide_eq_true h0) (Int.not_lt.2 hn0),fun h0=>⟨h0,fun h1=>absurd (of_decide_eq_true h1) (Int.not_lt.2 hm0),fun h1=> ?_⟩⟩
 refine ⟨fun h2=>⟨fun h3=> ?_,fun h3=>⟨fun h4=>⟨fun h5=> ?_,fun h5=> ?_⟩,fun h4=> ?_⟩⟩,fun h2=>⟨fun h4=>⟨fun h5=> ?_,fun h5=> ?_⟩,fun h4=> ?_⟩⟩
 ·exact absurd (hno (of_decide_eq_true h2)) (of_decide_eq_false (by simpa using h3))
 ·refine ⟨h2,h3,h4,h5,fun h6=> ?_,fun h6=> ?_⟩
  ·exact absurd (hmk (of_decide_eq_true h4) (of_decide_eq_true h5)) (of_decide_eq_false (by simpa using h6))
  have c1: [nz v m]= [m]:=by rw [nz,h4]
  have c2: [yJ v m]= [decide (m=0)]:=by rw [yJ,h4]
  have c3:yH seed n=lI (zm seed n):=by rw [yH,h2]
  have c4:qG seed v m=jd (dz seed m).1:=by rw [qG,h4]
  have c5:vj seed v m=fG (iu seed) (lY v m (decide (m=0)) (jd (dz seed m).1)):=by rw [vj,h4]
  refine ⟨hl,hl,hl,⟨hv0,q2⟩,⟨q3,q1⟩,fun h7=> ?_,fun h7=> ?_⟩
  ·refine ⟨⟨hl,hn0,hn2⟩,fun h8=> ?_,fun h8=> ?_⟩
   ·refine ⟨⟨hl,hm0,hm2⟩,hl,⟨hv0,hm0,q4⟩,⟨q3,q5 _⟩,rfl,c1,c2,rfl,rfl,rfl,rfl,rfl,rfl,c3,c4,c5,trivial⟩
   ·exact absurd (h4.symm.trans h8) Bool.noConfusion
  ·exact absurd (h2.symm.trans h7) Bool.noConfusion
 ·refine ⟨h2,h3,h4,h5,?_⟩
  have c1: [nz v m]= [m]:=by rw [nz,h4]
  have c2: [yJ v m]= [decide (m=0)]:=by rw [yJ,h4]
  have c3:yH seed n=lI (zm seed n):=by rw [yH,h2]
  have c4:qG seed v m=jd (dz seed m).1:=by rw [qG,h4]
  have c5:vj seed v m=fG (iu seed) (lY v m (decide (m=0)) (jd (dz seed m).1)):=by rw [vj,h4]
  refine ⟨hl,hl,hl,⟨hv0,q2⟩,⟨q3,q1⟩,fun h7=> ?_,fun h7=> ?_⟩
  ·refine ⟨⟨hl,hn0,hn2⟩,fun h8=> ?_,fun h8=> ?_⟩
   ·refine ⟨⟨hl,hm0,hm2⟩,hl,⟨hv0,hm0,q4⟩,⟨q3,q5 _⟩,rfl,c1,c2,rfl,rfl,rfl,rfl,rfl,rfl,c3,c4,c5,trivial⟩
   ·exact absurd (h4.symm.trans h8) Bool.noConfusion
  ·exact absurd (h2.symm.trans h7) Bool.noConfusion
 ·refine ⟨h2,h3,h4,?_⟩
  have c1: [nz v m]= [0]:=by rw [nz,h4]
  have c2: [yJ v m]= [false]:=by rw [yJ,h4]
  have c3:yH seed n=lI (zm seed n):=by rw [yH,h2]
  have c4:qG seed v m= []:=by rw [qG,h4]
  have c5:vj seed v m= []:=by rw [vj,h4]
  refine ⟨hl,hl,hl,⟨hv0,q2⟩,⟨q3,q1⟩,fun h7=> ?_,fun h7=> ?_⟩
  ·refine ⟨⟨hl,hn0,hn2⟩,fun h8=> ?_,fun h8=> ?_⟩
   ·exact absurd (h4.symm.trans h8) Bool.noConfusion
   ·refine ⟨rfl,c1,c2,rfl,rfl,rfl,rfl,rfl,rfl,c3,c4,c5,trivial⟩
  ·exact absurd (h2.symm.trans h7) Bool.noConfusion
 ·refine ⟨h2,h4,h5,fun h6=> ?_,fun h6=> ?_⟩
  ·exact absurd (hmk (of_decide_eq_true h4) (of_decide_eq_true h5)) (of_decide_eq_false (by simpa using h6))
  have c1: [nz v m]= [m]:=by rw [nz,h4]
  have c2: [yJ v m]= [decide (m=0)]:=by rw [yJ,h4]
  have c3:yH seed n= []:=by rw [yH,h2]
  have c4:qG seed v m=jd (dz seed m).1:=by rw [qG,h4]
  have c5:vj seed v m=fG (iu seed) (lY v m (decide (m=0)) (jd (dz seed m).1)):=by rw [vj,h4]
  have z0: [n]= [0]:=by rw [show n=0 from Int.le_antisymm (Int.not_lt.1 (of_decide_eq_false h2)) hn0]
  refine ⟨hl,hl,hl,⟨hv0,q2⟩,⟨q3,q1⟩,fun h7=> ?_,fun h7=> ?_⟩
  ·exact absurd (h2.symm.trans h7) Bool.noConfusion
  ·refine ⟨fun h8=> ?_,fun h8=> ?_⟩
   ·refine ⟨⟨hl,hm0,hm2⟩,hl,⟨hv0,hm0,q4⟩,⟨q3,q5 _⟩,z0,c1,c2,rfl,rfl,rfl,rfl,rfl,rfl,c3,c4,c5,trivial⟩
   ·exact absurd (h4.symm.trans h8) Bool.noConfusion
 ·refine ⟨h2,h4,h5,?_⟩
  have c1: [nz v m]= [m]:=by rw [nz,h4]
  have c2: [yJ v m]= [decide (m=0)]:=by rw [yJ,h4]
  have c3:yH seed n= []:=by rw [yH,h2]
  have c4:qG seed v m=jd (dz seed m).1:=by rw [qG,h4]
  have c5:vj seed v m=fG (iu seed) (lY v m (decide (m=0)) (jd (dz seed m).1)):=by rw [vj,h4]
  have z0: [n]= [0]:=by rw [show n=0 from Int.le_antisymm (Int.not_lt.1 (of_decide_eq_false h2)) hn0]
  refine ⟨hl,hl,hl,⟨hv0,q2⟩,⟨q3,q1⟩,fun h7=> ?_,fun h7=> ?_⟩
  ·exact absurd (h2.symm.trans h7) Bool.noConfusion
  ·refine ⟨fun h8=> ?_,fun h8=> ?_⟩
   ·refine ⟨⟨hl,hm0,hm2⟩,hl,⟨hv0,hm0,q4⟩,⟨q3,q5 _⟩,z0,c1,c2,rfl,rfl,rfl,rfl,rfl,rfl,c3,c4,c5,trivial⟩
   ·exact absurd (h4.symm.trans h8) Bool.noConfusion
 ·refine ⟨h2,h4,?_⟩
  have c1: [nz v m]= [0]:=by rw [nz,h4]
  have c2: [yJ v m]= [false]:=by rw [yJ,h4]
  have c3:yH seed n= []:=by rw [yH,h2]
  have c4:qG seed v m= []:=by rw [qG,h4]
  have c5:vj seed v m= []:=by rw [vj,h4]
  have z0: [n]= [0]:=by rw [show n=0 from Int.le_antisymm (Int.not_lt.1 (of_decide_eq_false h2)) hn0]
  refine ⟨hl,hl,hl,⟨hv0,q2⟩,⟨q3,q1⟩,fun h7=> ?_,fun h7=> ?_⟩
  ·exact absurd (h2.symm.trans h7) Bool.noConfusion
  ·refine ⟨fun h8=> ?_,fun h8=> ?_⟩
   ·exact absurd (h4.symm.trans h8) Bool.noConfusion
   ·refine ⟨z0,c1,c2,rfl,rfl,rfl,rfl,rfl,rfl,c3,c4,c5,trivial⟩
def RD:GT:=fun l cs=>match l,cs with
 | [.one (.ptr 1000 0),.one (.ob .int n),.one (.ob .int m)],[.blk 99 [.rw 1001,.ob .int v,.rw 1002,.rw 1003],.row 5 .u8 seed,.row 3 .int o,.row 3 .int k]=>some ⟨[(dI seed v n m).rv,.one (.ob .int 0)],(dI seed v n m).us,[],some (Sk seed v o k n m)⟩
 |_,_=>none
theorem FW:af 33 (qE RD):=cW ax XR Tryz.func33 (by kernel_rfl) rfl (rs:= [.cell 6 32,.tmp 7]) Tryz.results33 fun l cs g h hp=>by
 unfold RD at h
 split at h
 ·cases h;exact ⟨Nat.le_of_ble_eq_true rfl,rfl,rfl,rfl,U0 _ _ _ _ _ _ hp⟩
 ·cases h
set_option maxRecDepth 10000
set_option linter.unusedVariables false
theorem OT {k n:Int} (hn:0<n) (h:k.tmod n<0):k.tmod n+n=k%n:=by
 have h1:=Int.tmod_eq_emod (a:=k) (b:=n)
 have h2:=Int.emod_nonneg k (show n≠0 by omega)
 have h3:(n.natAbs:Int)=n:=by omega
 generalize k%n=r at*
 generalize k.tmod n=t at*
 split at h1<;>omega
theorem OY {k n:Int} (hn:0<n) (h:¬k.tmod n<0):k.tmod n=k%n:=by
 have h1:=Int.tmod_eq_emod (a:=k) (b:=n)
 have h2:=Int.emod_lt_of_pos k hn
 have h3:(n.natAbs:Int)=n:=by omega
 generalize k%n=r at*
 generalize k.tmod n=t at*
 split at h1<;>omega
set_option maxHeartbeats 1000000 in
theorem OF {k n:Int} {w:World} (hn:0<n) (hn2:n≤4611686018427387904):Calls Tryz.prog 32 #[.int .i64 k,.int .i64 n] w fun e w'=>e= .returned (.int .i64 (k%n))∧w=w':=by
 have hz:n≠0:=by omega
 by_cases ht:k.tmod n<0
 ·have hd:decide (k.tmod n<0)=true:=decide_eq_true ht
  have hlo: -n<k.tmod n:=Int.lt_tmod_of_pos k hn
  have HE:=Lib.hid (OT hn ht)
  have hw:IntKind.i64.wrap (k.tmod n+n)=k.tmod n+n:=by rw [IntKind.wrap_i64];omega
  obtain ⟨t,hte⟩:∃t,k.tmod n=t:=⟨_,rfl⟩
  rw [hte] at hd hlo HE hw ht
  go_enter Tryz.func32,Tryz.ntmps32
  go_wp2
  go_ret
  rw [←HE.out]
  exact ⟨rfl,rfl⟩
 ·have hd:decide (k.tmod n<0)=false:=decide_eq_false ht
  have HE:=Lib.hid (OY hn ht)
  obtain ⟨t,hte⟩:∃t,k.tmod n=t:=⟨_,rfl⟩
  rw [hte] at hd HE ht
  go_enter Tryz.func32,Tryz.ntmps32
  go_wp2
  go_ret
  rw [←HE.out]
  exact ⟨rfl,rfl⟩
def vy:GF:=fun l=>match l with
 | [.one (.ob .int z),.one (.ob .int n)]=>some ⟨[.one (.ob .int (z%n))],[],some (0<n∧n≤(4611686018427387904:Int))⟩
 |_=>none
theorem nD:af 32 (ar vy):=bp Tryz.func32 (by kernel_rfl) rfl fun l g h hp=>by
 unfold vy at h
 split at h
 ·rename_i z n
  cases h
  refine ⟨rfl,rfl,fun η w vs ⟨v1,t1,e1,h1,v2,t2,e2,h2,e3⟩=> ?_⟩
  subst e3 e2 e1
  cases List.singleton_inj.1 (show [v1]= [_] from h1)
  cases List.singleton_inj.1 (show [v2]= [_] from h2)
  exact (OF (k:=z) (n:=n) hp.1 hp.2).mono fun e w' ⟨he,hb⟩=>⟨_,he,by subst hb;exact Below.refl _ _,fun _ _=>rfl⟩
 ·cases h
def WL:List (Nat×CF):= [(32,ar vy)]
theorem TL:∀p∈WL,af p.1 p.2:=ag nD fun p hp=>by cases hp
theorem XC:az bi (ap WL):=aD ax (br TL)
def WQ (t:Int) (i:Nat):UInt8:=UInt8.ofNat (((i:Int)*i+t*7+1)%251).toNat
def sX (n:Nat) (t:Int) (i:Nat):List UInt8:=(List.range n).map fun j=>if j<i then WQ t j else 0
def LI (n:Nat) (t:Int):List UInt8:=(List.range n).map (WQ t)
theorem VR (n:Nat) (t:Int):sX n t 0=List.replicate n 0:=by
 refine List.ext_getElem (by simp [sX]) fun i h1 h2=> ?_
 simp [sX]
theorem DR (n:Nat) (t:Int) (i:Nat):(sX n t i).length=n:=by simp [sX]
theorem Df (n:Nat) (t:Int):(LI n t).length=n:=by simp [LI]
theorem VO (n:Nat) (t:Int):sX n t n=LI n t:=by
 refine List.ext_getElem (by simp [sX,LI]) fun i h1 h2=> ?_
 have:i<n:=by simpa [sX] using h1
 simp [sX,LI,this]
theorem Pf {n:Nat} (t:Int) {i:Nat} (h:i<n):sX n t (i+1)=(sX n t i).set i (WQ t i):=by
 refine List.ext_getElem (by simp [sX]) fun j h1 h2=> ?_
 rw [List.getElem_set]
 by_cases e:i=j
 ·subst e;simp [sX]
 ·by_cases k:j<i
  ·simp [sX,e,k,show j<i+1 by omega]
  ·simp [sX,e,k,show ¬j<i+1 by omega]
theorem TY {i:Nat} {t:Int} (h:i≤1000) (t0:0≤t) (t1:t≤1000000):gH ((i:Int)*i)∧gH (t*7)∧gH ((i:Int)*i+t*7)∧gH ((i:Int)*i+t*7+1)∧0≤((i:Int)*i+t*7+1)%251∧gH ((i:Int)+1):=by
 have h1:(i:Int)*i≤1000*1000:=Int.mul_le_mul (by omega) (by omega) (by omega) (by omega)
 have h0:0≤(i:Int)*i:=Int.mul_nonneg (by omega) (by omega)
 generalize (i:Int)*i=q at*
 exact ⟨⟨by omega,by omega⟩,⟨by omega,by omega⟩,⟨by omega,by omega⟩,⟨by omega,by omega⟩,by omega,⟨by omega,by omega⟩⟩
theorem LB (n t:Int) (hp:0≤n∧n≤1000∧0≤t∧t≤1000000):vc bi (ap WL) Tryz.f31.ntmps (ah Tryz.f31) ⟨aq 0 [.one (.ob .int n),.one (.ob .int t)],[],2000⟩ (aI bi Tryz.f31.ntmps [.tmp 4] [.one (.rw 0)] [(0,.row 5 .u8 (LI n.toNat t))]):=by
 obtain ⟨n0,n1,t0,t1⟩:=hp
 have em:max n (0:Int)=n:=Int.max_eq_left n0
 refine ⟨⟨?_,rfl,?_⟩,?_⟩
 ·show (0:Int)≤max n (0:Int)
  rw [em];exact n0
 ·show max n (0:Int)≤16777216
  rw [em];omega
 refine Or.inr ⟨{i:Nat // i≤n.toNat},fun i=>⟨[(6,.one (.ob .int (i.1:Int)))],[(2048,.row 5 .u8 (sX n.toNat t i.1))]⟩,fun i=>n.toNat-i.1,⟨0,Nat.zero_le _⟩,?_⟩
 refine ⟨rfl,?_,fun i=> ?_⟩
 ·show sX n.toNat t 0=List.replicate (max n (0:Int)).toNat 0
  rw [em,VR]
 ·obtain ⟨i,hi⟩:=i
  intro hl
  refine ⟨fun h=> ?_,fun h=> ?_⟩
  ·have hln:=DR n.toNat t i
   have h:(i:Int)<((sX n.toNat t i).length:Int):=of_decide_eq_true h
   have hi2:i<n.toNat:=by omega
   obtain ⟨p1,p2,p3,p4,p5,p6⟩:=TY (i:=i) (t:=t) (by omega) t0 t1
   refine ⟨p1,p2,p3,p4,⟨by decide,by decide⟩,p5,⟨Int.natCast_nonneg _,h⟩,(by show ((i:Int)).toNat<(sX n.toNat t i).length;omega),p6,⟨i+1,hi2⟩,?_,rfl,?_,trivial⟩
   ·show n.toNat-(i+1)<n.toNat-i
    omega
   ·exact Pf t hi2
  ·have hln:=DR n.toNat t i
   have h:¬(i:Int)<((sX n.toNat t i).length:Int):=of_decide_eq_false h
   obtain rfl:i=n.toNat:=by omega
   exact ⟨(VO _ _).symm,trivial⟩
def tX:GF:=fun l=>match l with
 | [.one (.ob .int n),.one (.ob .int k)]=>some ⟨[.one (.rw 0)],[(0,.row 5 .u8 (LI n.toNat k))],some (0≤n∧n≤(1000:Int)∧0≤k∧k≤(1000000:Int))⟩
 |_=>none
theorem tA:af 31 (ar tX):=ai ax XC Tryz.func31 (by kernel_rfl) rfl (rs:= [.tmp 4]) Tryz.results31 fun l g h hp=>by
 unfold tX at h
 split at h
 ·cases h;exact ⟨Nat.le_of_ble_eq_true rfl,rfl,rfl,rfl,LB _ _ hp⟩
 ·cases h
set_option maxRecDepth 10000
set_option linter.unusedVariables false
def XS:List (Nat×CF):= [(30,qE Ls),(31,ar tX),(32,ar vy),(33,qE RD)]
theorem Ub:∀p∈XS,af p.1 p.2:=ag Ce<|ag tA<|ag nD<|ag FW fun p hp=>by cases hp
theorem XO:az bi (ap XS):=aD ax (br Ub)
def aC (n v i:Int):Bn:=dI (LI 32 (n%3)) (1+v%2) (i%4) (i%4)
theorem Hl (n v i:Int):Sk (LI 32 (n%3)) (1+v%2) (kk 3) (i6 (1+v%2) 3) (i%4) (i%4):=by
 refine ⟨by rw [Df];decide,by omega,by omega,by omega,by omega,by omega,by omega,fun h=>wF.2 ⟨by omega,by omega⟩,fun e h=> ?_⟩
 rw [i6,decide_eq_true e]
 exact wF.2 ⟨by omega,by omega⟩
set_option maxHeartbeats 4000000 in
theorem S5 (k n v tr i:Int) (nm:ByteArray) (L:List Int) (hp:tr≤0):vc bi (ap XS) Tryz.f11.ntmps (ah Tryz.f11) ⟨aq 0 [.agg [.ob .int k,.ob .str nm,.ob .int n,.ob .int v,.ro .int L,.ob .int tr],.one (.ob .int i)],[],2000⟩ (aI bi Tryz.f11.ntmps [.cell 4 32] [(aC n v i).rv] (aC n v i).us):=by
 have b1:(0:Int)≤32∧(32:Int)≤1000∧0≤n%3∧n%3≤1000000:=by omega
 have b2:gH (1+v%2):=⟨by omega,by omega⟩
 have b3:(LI 32 (n%3)).length=32∧1≤1+v%2∧1+v%2≤2∧(0:Int)≤3∧(3:Int)≤10:=⟨Df _ _,by omega,by omega,by omega,by omega⟩
 refine ⟨⟨by decide,by decide⟩,b1,⟨by decide,by decide⟩,b2,b3,fun h0=>absurd rfl (of_decide_eq_true h0),fun h0=> ?_⟩
 refine ⟨⟨by decide,by decide⟩,⟨by decide,by decide⟩,Hl n v i,fun h1=>absurd (of_decide_eq_true h1) (Int.not_lt.2 hp),fun h1=> ?_⟩
 exact ⟨h1,rfl,rfl,rfl,rfl,rfl,rfl,rfl,rfl,rfl,rfl,rfl,trivial⟩
def Qm:GF:=fun l=>match l with
 | [.agg [.ob .int k,.ob .str nm,.ob .int n,.ob .int v,.ro .int L,.ob .int tr],.one (.ob .int i)]=>some ⟨[(aC n v i).rv],(aC n v i).us,some (tr≤(0:Int))⟩
 |_=>none
theorem B6:af 11 (ar Qm):=ai ax XO Tryz.func11 (by kernel_rfl) rfl (rs:= [.cell 4 32]) Tryz.results11 fun l g h hp=>by
 unfold Qm at h
 split at h
 ·cases h;exact ⟨Nat.le_of_ble_eq_true rfl,rfl,rfl,rfl,S5 _ _ _ _ _ _ _ hp⟩
 ·cases h
set_option maxRecDepth 10000
set_option linter.unusedVariables false
theorem KG {L N a:Nat} (h:a<8*L):cK (bq L N) a=N/2^a%2:=by
 have hd:a/8<L:=by omega
 have e:((bq L N).getD (a/8) 0).toNat=N/2^(8*(a/8))%256:=by
  rw [List.getD_eq_getElem?_getD,List.getElem?_eq_getElem (by rw [au];exact hd)]
  simp [bq]
 rw [cK,e]
 have e2:2^a=2^(8*(a/8))*2^(a%8):=by rw [←Nat.pow_add];congr 1;omega
 rw [e2,←Nat.div_div_eq_div_mul]
 generalize N/2^(8*(a/8))=M
 have hr:a%8<8:=Nat.mod_lt _ (by omega)
 generalize a%8=r at*
 have hc:r=0∨r=1∨r=2∨r=3∨r=4∨r=5∨r=6∨r=7:=by omega
 rcases hc with rfl|rfl|rfl|rfl|rfl|rfl|rfl|rfl<;>omega
theorem C6 {c:List UInt8} {i v:Nat}:∀ {m:Nat},(∀k,k<m→cK c (12*i+k)=v/2^k%2)→gP c i m=v%2^m
 |0,_=>by simp [gP,Nat.mod_one]
 |m+1,h=>by
  rw [gP,C6 fun k hk=>h k (by omega),h m (by omega),Nat.mod_pow_succ,Nat.mul_comm]
theorem tH {b:List UInt8} {i:Nat} {f:List UInt16} (h:∀j,j<384→(b.drop (384*i)).getD j 0=(lx 12 f).getD j 0):gd (gk b i)=true:=by
 rw [gd,List.all_eq_true]
 intro j hj
 have hj:j<256:=List.mem_range.1 hj
 refine decide_eq_true ?_
 have e:gP (b.drop (384*i)) j 12=pv 12 f j%2^12:=C6 fun k hk=>by
  rw [cK,h _ (by omega),←cK,lx,KG (by omega),xH f hj hk]
 have hv:pv 12 f j<3329:=by
  unfold pv
  rw [if_pos rfl]
  exact Nat.mod_lt _ (by omega)
 rw [gk,cA hj,Tz,e,Nat.mod_eq_of_lt (by omega),UInt16.toNat_ofNat',Nat.mod_eq_of_lt (by omega)]
 exact hv
theorem Rs (d:List UInt8):BO (jd d)=0:=by
 have l0:(lx 12 (kT d 0)).length=384:=im _ _
 have l1:(lx 12 (kT d 1)).length=384:=im _ _
 have l2:(lx 12 (kT d 2)).length=384:=im _ _
 have h0:gd (gk (jd d) 0)=true:=tH (f:=kT d 0) fun j hj=>by
  rw [List.getD_eq_getElem?_getD,List.getD_eq_getElem?_getD,List.getElem?_drop,jd,List.append_assoc,List.append_assoc,List.getElem?_append_left (by omega)]
  simp
 have h1:gd (gk (jd d) 1)=true:=tH (f:=kT d 1) fun j hj=>by
  rw [List.getD_eq_getElem?_getD,List.getD_eq_getElem?_getD,List.getElem?_drop,jd,List.append_assoc,List.append_assoc,List.getElem?_append_right (by omega),List.getElem?_append_left (by omega),l0,show 384*1+j-384=j by omega]
 have h2:gd (gk (jd d) 2)=true:=tH (f:=kT d 2) fun j hj=>by
  rw [List.getD_eq_getElem?_getD,List.getD_eq_getElem?_getD,List.getElem?_drop,jd,List.append_assoc,List.getElem?_append_right (by rw [List.length_append];omega),List.getElem?_append_left (by rw [List.length_append];omega),List.length_append,l0,l1,show 384*2+j-(384+384)=j by omega]
 rw [BO,if_pos (iX d),if_pos h0,if_pos h1,if_pos h2]
theorem Rh {n:Int} (h0:0≤n) (h1:n≤1000):Ny n=dC (UInt64.ofNat n.toNat) 4 4:=by
 have e1:(UInt32.ofNat n.toNat).toUInt64=UInt64.ofNat n.toNat:=by
  apply UInt64.toNat_inj.1
  rw [UInt32.toNat_toUInt64,UInt32.toNat_ofNat',UInt64.toNat_ofNat',Nat.mod_eq_of_lt (by omega),Nat.mod_eq_of_lt (by omega)]
 rw [Ny,e1,vr,ou,show (8:Nat)=4+4 from rfl,ga,List.reverse_append,List.drop_append_of_le_length (by rw [List.length_reverse,au];exact Nat.le_refl _),List.drop_of_length_le (by rw [List.length_reverse,au];exact Nat.le_refl _),List.nil_append,List.take_of_length_le (by rw [List.length_reverse,au];exact Nat.le_refl _)]
def Ec (v n m:Int):Prop:=1≤v∧v≤2∧0≤n∧n≤1000∧0≤m∧m≤1000
theorem Fg (seed:List UInt8) {v n m:Int} (h:Ec v n m):dm (dI seed v n m)=false:=by
 obtain ⟨hv1,hv2,hn0,hn1,hm0,hm1⟩:=h
 have a1:decide (((dI seed v n m).sign.length:Int)=32)=true:=decide_eq_true (by rw [show (dI seed v n m).sign.length=32 from wQ _];rfl)
 have a2:decide (((dI seed v n m).ident.length:Int)=32)=true:=decide_eq_true (by rw [show (dI seed v n m).ident.length=32 from fv _];rfl)
 have a3:decide (((dI seed v n m).medium.length:Int)=32)=true:=decide_eq_true (by rw [show (dI seed v n m).medium.length=32 from fv _];rfl)
 have a4:decide (((dI seed v n m).medsig.length:Int)≠64)=false:=decide_eq_false (by rw [show (dI seed v n m).medsig.length=64 from ig _ _];simp)
 have a5:decide ((dI seed v n m).onceId<0)=false:=decide_eq_false (Int.not_lt.2 hn0)
 have a6:decide (((dI seed v n m).once.length:Int)≠sp (dI seed v n m))=false:=decide_eq_false (by
  rw [Decidable.not_not]
  show ((yH seed n).length:Int)=match decide (0<n) with |true=>32|false=>0
  unfold yH
  cases decide (0<n) with
  |true=>show ((lI (zm seed n)).length:Int)=32;rw [fv];rfl
  |false=>rfl)
 have a7:m_ (dI seed v n m)=true:=by
  rw [m_]
  split
  ·rename_i e
   have e:v=1:=of_decide_eq_true e
   have e2:decide (v=2)=false:=decide_eq_false (by omega)
   simp [dI,nz,qG,vj,yJ,e2]
  ·rename_i e
   have e:¬v=1:=of_decide_eq_false e
   have e1:v=2:=by omega
   have e2:decide (v=2)=true:=decide_eq_true e1
   simp [dI,nz,qG,vj,yJ,e1,iX,ig,hm0]
 rw [dm,a1,a2,a3,a4,a5,a6,a7];rfl
theorem Ke (seed:List UInt8) {v n m:Int} (h:Ec v n m) {least:Int} (hl:least≤v):aX (dI seed v n m) least=0:=by
 have hm:q8 (dI seed v n m)=0:=xT (iu seed) (tW v (lI (Hv seed)))
 have h8:decide ((dI seed v n m).version<least)=false:=decide_eq_false (Int.not_lt.2 hl)
 rw [aX,Fg seed h,h8,hm]
 by_cases e:v=1
 ·rw [show decide ((0:Int)≠0)=false from rfl,show decide ((dI seed v n m).version=1)=true from decide_eq_true e]
 ·obtain ⟨hv1,hv2,hn0,hn1,hm0,hm1⟩:=h
  have e1:v=2:=by omega
  have e2:decide (v=2)=true:=decide_eq_true e1
  have hk:xG (dI seed v n m)=0:=by
   have k1:(dI seed v n m).kemsig=fG (iu seed) (lY v m (decide (m=0)) (jd (dz seed m).1)):=by show vj seed v m=_;rw [vj,e2]
   have k2:(wW (dI seed v n m)).flatten=lY v m (decide (m=0)) (jd (dz seed m).1):=by
    rw [wW,show (dI seed v n m).kemId=m by show nz v m=m;rw [nz,e2],show (dI seed v n m).last=decide (m=0) by show yJ v m=_;rw [yJ,e2],show (dI seed v n m).kem=jd (dz seed m).1 by show qG seed v m=_;rw [qG,e2],Rh hm0 hm1]
    rfl
   rw [xG,k1,k2]
   exact xT _ _
  rw [show decide ((0:Int)≠0)=false from rfl,show decide ((dI seed v n m).version=1)=false from decide_eq_false e,hk,show (dI seed v n m).kem=jd (dz seed m).1 by show qG seed v m=_;rw [qG,e2],Rs]
  rfl
theorem Mm (n v i:Int):Ec (1+v%2) (i%4) (i%4):=by unfold Ec;omega
theorem gZ (n v i:Int):aX (aC n v i) 1=0:=Ke _ (Mm n v i) (by omega)
set_option maxRecDepth 10000
set_option linter.unusedVariables false
def XN:List (Nat×CF):= [(26,ar GZ),(50,ar mw)]
theorem Vc:∀p∈XN,af p.1 p.2:=ag ka<|ag iN fun p hp=>by cases hp
theorem Xi:az bi (ap XN):=aD ax (br Vc)
def Bn.small (B:Bn):Prop:=B.sign.length≤16777216∧B.ident.length≤16777216∧B.medium.length≤16777216∧B.medsig.length≤16777216∧B.once.length≤16777216∧B.kem.length≤16777216∧B.kemsig.length≤16777216
set_option maxHeartbeats 4000000 in
theorem UH (B:Bn) (hp:B.small):vc bi (ap XN) Tryz.f27.ntmps (ah Tryz.f27) ⟨aq 0 [B.av],[],2000⟩ (aI bi Tryz.f27.ntmps [.cell 2 32] [B.rv] B.us):=by
 refine Or.inl ⟨8,?_⟩
 obtain ⟨h1,h2,h3,h4,h5,h6,h7⟩:=hp
 refine ⟨h1,?_⟩
 refine ⟨h2,?_⟩
 refine ⟨h3,?_⟩
 refine ⟨h4,?_⟩
 refine ⟨h5,?_⟩
 refine ⟨h6,?_⟩
 refine ⟨h7,?_⟩
 exact ⟨rfl,rfl,rfl,rfl,rfl,rfl,rfl,rfl,rfl,rfl,rfl,trivial⟩
def UZ:GF:=fun l=>match l with
 | [.agg [.ro .u8 a,.ro .u8 b,.ro .u8 c,.ro .u8 d,.ob .int e,.ro .u8 f,.ob .int g,.ro .u8 h,.ro .u8 i,.ob .bool j,.ob .int k]]=>some ⟨[(⟨a,b,c,d,e,f,g,h,i,j,k⟩:Bn).rv],(⟨a,b,c,d,e,f,g,h,i,j,k⟩:Bn).us,some (Bn.small ⟨a,b,c,d,e,f,g,h,i,j,k⟩)⟩
 |_=>none
theorem ET:af 27 (ar UZ):=ai ax Xi Tryz.func27 (by kernel_rfl) rfl (rs:= [.cell 2 32]) Tryz.results27 fun l g h hp=>by
 unfold UZ at h
 split at h
 ·cases h;exact ⟨Nat.le_of_ble_eq_true rfl,rfl,rfl,rfl,UH ⟨_,_,_,_,_,_,_,_,_,_,_⟩ hp⟩
 ·cases h
set_option maxRecDepth 10000
set_option linter.unusedVariables false
def H0:Nat→Option Ch:=fun _=>none
def E0:bx:=fun _=>none
theorem hp0 (w:World):dh H0 E0 w:=⟨fun b c h=>(by cases h),fun b b' g _ h=>absurd rfl h⟩
theorem C_ (g:Nat):ay H0 E0 g:=fun b h=>absurd rfl h
theorem W4 {w w':World} {H':Nat→Option Ch} {η':bx} (h:Fw H0 E0 w H' η' w'):Below w.heap.size w w'∧∀b g,H' b≠none→bu η' b=some g→w.heap.size≤g:=by
 refine ⟨⟨h.os,h.tape,h.output,h.size,fun g hg=>(h.anon g hg (C_ g)).1⟩,fun b g hb hg=> ?_⟩
 rcases Nat.lt_or_ge g w.heap.size with hl|hl
 ·exact absurd hg ((h.anon g hl (C_ g)).2 b hb)
 ·exact hl
def cJ (A:Nat→Prop) (w:World) (B:Bn) (v:Value):Prop:=B.av.H E0 A w v
theorem H9 {A:Nat→Prop} {w:World} {B:Bn} {v:Value} (h:cJ A w B v):B.av.H E0 (ay H0 E0) w v:=by
 obtain ⟨cs,e,hc,h1⟩:=h
 obtain ⟨_,_,e0,⟨v0,f0,r0⟩,_,_,e1,⟨v1,f1,r1⟩,_,_,e2,⟨v2,f2,r2⟩,_,_,e3,⟨v3,f3,r3⟩,_,_,e4,h4,_,_,e5,⟨v4,f4,r4⟩,_,_,e6,h6,_,_,e7,⟨v5,f5,r5⟩,_,_,e8,⟨v6,f6,r6⟩,hr⟩:=hc
 have m:∀ {l:List UInt8} {v:Value},dU A w .u8 l v→dU (ay H0 E0) w .u8 l v:=fun ⟨a,c,q1,q2,q3,q4,q5⟩=>⟨a,c,q1,q2,q3,q4,fun k=>by obtain ⟨g,o,cs,z1,_,z2⟩:=q5 k;exact ⟨g,o,cs,z1,C_ g,z2⟩⟩
 exact ⟨cs,e,⟨_,_,e0,⟨v0,f0,m r0⟩,_,_,e1,⟨v1,f1,m r1⟩,_,_,e2,⟨v2,f2,m r2⟩,_,_,e3,⟨v3,f3,m r3⟩,_,_,e4,h4,_,_,e5,⟨v4,f4,m r4⟩,_,_,e6,h6,_,_,e7,⟨v5,f5,m r5⟩,_,_,e8,⟨v6,f6,m r6⟩,hr⟩,h1⟩
def Bn.rx (B:Bn) (n:Nat):AV:= .agg [.rw n,.rw (n+1),.rw (n+2),.rw (n+3),.ob .int B.onceId,.rw (n+4),.ob .int B.kemId,.rw (n+5),.rw (n+6),.ob .bool B.last,.ob .int B.version]
def Bn.ux (B:Bn) (n:Nat):List (Nat×Option Ch):= [(n,some (.row 5 .u8 B.sign)),(n+1,some (.row 5 .u8 B.ident)),(n+2,some (.row 5 .u8 B.medium)),(n+3,some (.row 5 .u8 B.medsig)),(n+4,some (.row 5 .u8 B.once)),(n+5,some (.row 5 .u8 B.kem)),(n+6,some (.row 5 .u8 B.kemsig))]
theorem PJ {w w':World} {B:Bn} {v:Value} {η':bx} {p f:Option Prop} (h:bE H0 E0 w 1000 ⟨[B.rx 1000],B.ux 1000,p,f⟩ v w' η'):Below w.heap.size w w'∧cJ (fun g=>w.heap.size≤g) w' B v:=by
 obtain ⟨hb,hfr⟩:=W4 h.fw
 refine ⟨hb,?_⟩
 have key:∀ {b:Nat} {l:List UInt8},bF (B.ux 1000) H0 b=some (.row 5 .u8 l)→∀ {v:Value},η' b=some v→dU (fun g=>w.heap.size≤g) w' .u8 l v:=fun {b l} hu {v} hv=>by
  obtain ⟨v',e1,hr⟩:=uO (h.hp.chunk b _ hu) (A':=fun g=>w.heap.size≤g) fun g hg=>hfr b g (by rw [hu];simp) hg
  rw [hv] at e1
  cases e1
  exact hr
 obtain ⟨cs,e,hc,h1⟩:=h.out
 obtain ⟨_,_,e0,⟨v0,g0,f0,_⟩,_,_,e1,⟨v1,g1,f1,_⟩,_,_,e2,⟨v2,g2,f2,_⟩,_,_,e3,⟨v3,g3,f3,_⟩,_,_,e4,h4,_,_,e5,⟨v4,g4,f4,_⟩,_,_,e6,h6,_,_,e7,⟨v5,g5,f5,_⟩,_,_,e8,⟨v6,g6,f6,_⟩,hr⟩:=hc
 exact ⟨cs,e,⟨_,_,e0,⟨v0,f0,key rfl g0⟩,_,_,e1,⟨v1,f1,key rfl g1⟩,_,_,e2,⟨v2,f2,key rfl g2⟩,_,_,e3,⟨v3,f3,key rfl g3⟩,_,_,e4,h4,_,_,e5,⟨v4,f4,key rfl g4⟩,_,_,e6,h6,_,_,e7,⟨v5,f5,key rfl g5⟩,_,_,e8,⟨v6,f6,key rfl g6⟩,hr⟩,h1⟩
theorem gU {A:Nat→Prop} {w:World} {B:Bn} {v:Value} (h:cJ A w B v) (hs:B.small):Calls Tryz.prog 27 #[v] w fun e w'=>∃v',e= .returned v'∧Below w.heap.size w w'∧cJ (fun g=>w.heap.size≤g) w' B v':=by
 refine (ET.call 1000 [B.av] (fun _=> []) H0 [] ⟨[B.rx 1000],B.ux 1000,some B.small,none⟩ _ _ rfl (fun q hq=>by cases hq) hs E0 w [v] (hp0 w) ⟨v,[],rfl,H9 h,rfl⟩ fun _ _ _=>rfl).mono fun e w' ⟨v',η',he,hr⟩=>⟨v',he,PJ hr⟩
theorem SQ {A:Nat→Prop} {w:World} {k:Kd} {l:List k.T} {v:Value} (h:dU A w k l v):v.oneCell'=true:=by
 obtain ⟨_,_,e,_⟩:=h
 rw [e];rfl
theorem BP {A:Nat→Prop} {w:World} {k:Kd} {l:List k.T} {v:Value}:dU A w k l v→dU (ay H0 E0) w k l v:=fun ⟨a,c,q1,q2,q3,q4,q5⟩=>⟨a,c,q1,q2,q3,q4,fun z=>by obtain ⟨g,o,cs,z1,_,z2⟩:=q5 z;exact ⟨g,o,cs,z1,C_ g,z2⟩⟩
theorem It {A:Nat→Prop} {w:World} (k n v tr i:Int) (nm:ByteArray) {L:List Int} {ls x:Value} (hL:dU A w .int L ls) (hx:x= .agg #[.int .i64 k,.string nm,.int .i64 n,.int .i64 v,ls,.int .i64 tr]) (ht:tr≤0):Calls Tryz.prog 11 #[x,.int .i64 i] w fun e w'=>∃v',e= .returned v'∧Below w.heap.size w w'∧cJ (fun g=>w.heap.size≤g) w' (aC n v i) v':=by
 have hx2:AV.H E0 (ay H0 E0) w (.agg [.ob .int k,.ob .str nm,.ob .int n,.ob .int v,.ro .int L,.ob .int tr]) x:=by
  subst hx
  refine ⟨[.int .i64 k,.string nm,.int .i64 n,.int .i64 v,ls,.int .i64 tr],rfl,⟨[.int .i64 k],_,rfl,rfl,[.string nm],_,rfl,rfl,[.int .i64 n],_,rfl,rfl,[.int .i64 v],_,rfl,rfl,[ls],_,rfl,⟨ls,rfl,BP hL⟩,[.int .i64 tr],_,rfl,rfl,rfl⟩,?_⟩
  intro u hu
  simp only [List.mem_cons,List.not_mem_nil,or_false] at hu
  rcases hu with rfl|rfl|rfl|rfl|rfl|rfl<;>first |rfl|exact SQ hL
 exact (B6.call 1000 [.agg [.ob .int k,.ob .str nm,.ob .int n,.ob .int v,.ro .int L,.ob .int tr],.one (.ob .int i)] (fun _=> []) H0 [] ⟨[(aC n v i).rx 1000],(aC n v i).ux 1000,some (tr≤(0:Int)),none⟩ _ _ rfl (fun q hq=>by cases hq) ht E0 w [x,.int .i64 i] (hp0 w) ⟨x,_,rfl,hx2,.int .i64 i,_,rfl,rfl,rfl⟩ fun _ _ _=>rfl).mono fun e w' ⟨v',η',he,hr⟩=>⟨v',he,PJ hr⟩
theorem lq {A:Nat→Prop} {w:World} {B:Bn} {v:Value} (h:cJ A w B v) (n:Int):Calls Tryz.prog 25 #[v,.int .i64 n] w fun e w'=>e= .returned (.int .i64 (aX B n))∧Below w.heap.size w w':=by
 refine (pw.call 1000 [B.av,.one (.ob .int n)] (fun _=> []) H0 [] ⟨[.one (.ob .int (aX B n))],[],none,none⟩ _ _ rfl (fun q hq=>by cases hq) trivial E0 w [v,.int .i64 n] (hp0 w) ⟨v,_,rfl,H9 h,.int .i64 n,_,rfl,rfl,rfl⟩ fun _ _ _=>rfl).mono fun e w' ⟨v',η',he,hr⟩=> ?_
 have ho: [v']= [_]:=hr.out
 cases List.singleton_inj.1 ho
 exact ⟨he,(W4 hr.fw).1⟩
theorem iG {A A':Nat→Prop} {w:World} {l m:List UInt8} {u v:Value} (h:dU A w .u8 l u) (h':dU A' w .u8 m v):Calls Tryz.prog 26 #[u,v] w fun e w'=>e= .returned (.bool (decide (l=m)))∧Below w.heap.size w w':=by
 refine (ka.call 1000 [.one (.ro .u8 l),.one (.ro .u8 m)] (fun _=> []) H0 [] ⟨[.one (.ob .bool (decide (l=m)))],[],none,none⟩ _ _ rfl (fun q hq=>by cases hq) trivial E0 w [u,v] (hp0 w) ⟨u,_,rfl,⟨u,rfl,BP h⟩,v,_,rfl,⟨v,rfl,BP h'⟩,rfl⟩ fun _ _ _=>rfl).mono fun e w' ⟨v',η',he,hr⟩=> ?_
 have ho: [v']= [_]:=hr.out
 cases List.singleton_inj.1 ho
 exact ⟨he,(W4 hr.fw).1⟩
end Go.Proofs.YtknlbpjcjdenbaaGreat
namespace Go.Proofs.YtknlbpjcjdenbaaGreat
open Go Go.RowKit Go.Maps
set_option linter.unusedVariables false
theorem et {A:Nat→Prop} {w:World} {B:Bn} {v:Value} (h:cJ A w B v):∃a b c d e f g,v= .agg #[a,b,c,d,.int .i64 B.onceId,e,.int .i64 B.kemId,f,g,.bool B.last,.int .i64 B.version]∧dU A w .u8 B.sign a∧dU A w .u8 B.ident b∧dU A w .u8 B.medium c∧dU A w .u8 B.medsig d∧dU A w .u8 B.once e∧dU A w .u8 B.kem f∧dU A w .u8 B.kemsig g:=by
 obtain ⟨cs,rfl,⟨_,_,e0,⟨v0,f0,r0⟩,_,_,e1,⟨v1,f1,r1⟩,_,_,e2,⟨v2,f2,r2⟩,_,_,e3,⟨v3,f3,r3⟩,_,_,e4,h4,_,_,e5,⟨v4,f4,r4⟩,_,_,e6,h6,_,_,e7,⟨v5,f5,r5⟩,_,_,e8,⟨v6,f6,r6⟩,_,_,e9,h9,_,_,ea,ha,eb⟩,_⟩:=h
 cases (show _= [Value.int .i64 B.onceId] from h4)
 cases (show _= [Value.int .i64 B.kemId] from h6)
 cases (show _= [Value.bool B.last] from h9)
 cases (show _= [Value.int .i64 B.version] from ha)
 subst eb ea e9 e8 e7 e6 e5 e4 e3 e2 e1 e0 f0 f1 f2 f3 f4 f5 f6
 exact ⟨v0,v1,v2,v3,v4,v5,v6,rfl,r0,r1,r2,r3,r4,r5,r6⟩
theorem eX {fn:Func} {p u:Tmp} (h:fn.results= #[.cell p 32,.tmp u]) (tmps:Array Value) (w:World) {g:Nat} {cs:List Value} (hp:tmps.getD p undef= .pointer (some ⟨g,0,none⟩)) (hB:aj w g cs 32) (hl:cs.length=11):(results fn tmps).run Tryz.prog w= .ok (.tuple #[.agg cs.toArray,tmps.getD u undef]) w:=by
 have hi:(Tryz.prog.info? 32).map (·.size)=some cs.toArray.size:=by
  have:(Tryz.prog.info? 32).map (·.size)=some 11:=by kernel_rfl
  rw [this];simp [hl]
 have hx:(loadVar 32 ⟨g,0,none⟩).run Tryz.prog w= .ok (.agg cs.toArray) w:=run_loadVar_row w g 32 32 cs.toArray (0,0) _ hB Tryz.underlying32 rfl hi
 rw [results_cell_tmp h,hp]
 simp [asAddr,Result.andThen,hx]
theorem yA {A:Nat→Prop} {w:World} {B:Bn} {cs:List Value} {b o:Nat} (h:cJ A w B (.agg cs.toArray)) (hr:w.rangeAt b o cs):∃v0 v1 v2 v3 v5 v7 v8,cs= [v0,v1,v2,v3,.int .i64 B.onceId,v5,.int .i64 B.kemId,v7,v8,.bool B.last,.int .i64 B.version]∧
  w.cell? ⟨b,o,none⟩=some v0∧w.cell? ⟨b,o+1,none⟩=some v1∧w.cell? ⟨b,o+2,none⟩=some v2∧w.cell? ⟨b,o+3,none⟩=some v3∧w.cell? ⟨b,o+4,none⟩=some (.int .i64 B.onceId)∧w.cell? ⟨b,o+5,none⟩=some v5∧w.cell? ⟨b,o+6,none⟩=some (.int .i64 B.kemId)∧w.cell? ⟨b,o+7,none⟩=some v7∧w.cell? ⟨b,o+8,none⟩=some v8∧w.cell? ⟨b,o+9,none⟩=some (.bool B.last)∧w.cell? ⟨b,o+10,none⟩=some (.int .i64 B.version):=by
 obtain ⟨v0,v1,v2,v3,v5,v7,v8,e,_⟩:=et h
 obtain rfl:cs= [v0,v1,v2,v3,.int .i64 B.onceId,v5,.int .i64 B.kemId,v7,v8,.bool B.last,.int .i64 B.version]:=by
  have:cs.toArray= #[v0,v1,v2,v3,.int .i64 B.onceId,v5,.int .i64 B.kemId,v7,v8,.bool B.last,.int .i64 B.version]:=by injection e
  exact congrArg Array.toList this
 exact ⟨v0,v1,v2,v3,v5,v7,v8,rfl,hr 0 _ rfl,hr 1 _ rfl,hr 2 _ rfl,hr 3 _ rfl,hr 4 _ rfl,hr 5 _ rfl,hr 6 _ rfl,hr 7 _ rfl,hr 8 _ rfl,hr 9 _ rfl,hr 10 _ rfl⟩
end Go.Proofs.YtknlbpjcjdenbaaGreat
namespace Go.Proofs.YtknlbpjcjdenbaaGreat
open Go Go.RowKit
def oA:List Value→List (Nat×Nat)→(Nat→Value)→List Value
 |l,[],_=>l
 | [],_::_,_=> []
 |_::l,(0,i)::p,u=>u i::oA l p u
 |a::l,(s+1,i)::p,u=>a::oA l ((s,i)::p) u
theorem kV (j:Nat) (p:List (Nat×Nat)) (u:Nat→Value):∀(s:Nat) (l:List Value),oA l ((s,j)::p) u=if s<l.length then l.take s++u j::oA (l.drop (s+1)) p u else l
 |0,[]=>by simp [oA]
 |0,a::l=>by simp [oA]
 |s+1,[]=>by simp [oA]
 |s+1,a::l=>by
  rw [oA,kV j p u s l]
  by_cases h:s<l.length
  ·rw [if_pos h,if_pos (by simpa using h)];simp
  ·rw [if_neg h,if_neg (by simpa using h)]
def Ko (p:List (Nat×Nat)) (i:Nat):Bool:=p.any fun x=>x.2 ==i
def I4:List (Nat×Nat)→Nat→Nat→Bool
 | [],_,_=>false
 |(s,j)::p,d,i=>if j ==i then d ==s&& !Ko p i else decide (s<d)&&I4 p (d-s-1) i
def Dt:List (Nat×Nat)→Bool
 | []=>true
 |(_,j)::p=> !Ko p j&&Dt p
theorem oy {i:Nat} {v:Value} {u:Nat→Value}:∀(p:List (Nat×Nat)) (l:List Value),Ko p i=false→oA l p (iI u i v)=oA l p u
 | [],l,_=>by cases l<;>simp [oA]
 |(s,j)::p,l,h=>by
  simp only [Ko,List.any_cons,Bool.or_eq_false_iff] at h
  rw [kV,kV,oy p _ h.2,dA (by simpa using h.1)]
theorem CM {i:Nat} {v:Value} {u:Nat→Value}:∀(p:List (Nat×Nat)) (d:Nat) (l:List Value),I4 p d i=true→oA l p (iI u i v)=(oA l p u).set d v
 | [],d,l,h=>by simp [I4] at h
 |(s,j)::p,d,l,h=>by
  rw [I4] at h
  rw [kV,kV]
  by_cases hj:j=i
  ·subst hj
   rw [if_pos (by simp)] at h
   simp only [Bool.and_eq_true,beq_iff_eq,Bool.not_eq_true'] at h
   obtain ⟨rfl,h2⟩:=h
   by_cases hl:d<l.length
   ·rw [if_pos hl,if_pos hl,oy p _ h2,cq,List.set_append_right _ _ (by rw [List.length_take];omega),List.length_take,Nat.min_eq_left (by omega),Nat.sub_self,List.set_cons_zero]
   ·rw [if_neg hl,if_neg hl,List.set_eq_of_length_le (by omega)]
  ·rw [if_neg (by simpa using hj)] at h
   simp only [Bool.and_eq_true,decide_eq_true_eq] at h
   by_cases hl:s<l.length
   ·rw [if_pos hl,if_pos hl,CM p _ _ h.2,dA hj,List.set_append_right _ _ (by rw [List.length_take];omega),List.length_take,Nat.min_eq_left (by omega),show d-s=(d-s-1)+1 by omega,List.set_cons_succ]
    rfl
   ·rw [if_neg hl,if_neg hl,List.set_eq_of_length_le (by omega)]
theorem jy:∀(p:List (Nat×Nat)) (l:List Value),Dt p=true→∃u,oA l p u=l
 | [],l,_=>⟨fun _=>undef,by cases l<;>simp [oA]⟩
 |(s,j)::p,l,h=>by
  simp only [Dt,Bool.and_eq_true,Bool.not_eq_true'] at h
  obtain ⟨u,hu⟩:=jy p (l.drop (s+1)) h.2
  by_cases hl:s<l.length
  ·refine ⟨iI u j l[s],?_⟩
   rw [kV,if_pos hl,oy p _ h.1,hu,cq,List.getElem_cons_drop,List.take_append_drop]
  ·exact ⟨u,by rw [kV,if_neg hl]⟩
def LP (p:List (Nat×Nat)) (ops:Array Oper):Bool:=Dt p&&(List.range ops.size).all fun i=>match (ops[i]?).bind (·.dst) with |some d=>I4 p d i|none=> !Ko p i
theorem nW {p:List (Nat×Nat)} {ops:Array Oper} (h:LP p ops=true) {fr:(Nat→Value)→Array Value} {F:List Value} {df:List Deferred} (hF:∀u,(oA F p u).toArray=fr u) (u:Nat→Value) (i:Nat) (v:Value) (hi:i<ops.size):
  (⟨fr u,df⟩:Act).put ((ops[i]?).bind (·.dst)) v=⟨fr (iI u i v),df⟩:=by
 simp only [LP,Bool.and_eq_true,List.all_eq_true,List.mem_range] at h
 have h2:=h.2 i hi
 cases hd:(ops[i]?).bind (·.dst) with
 |none=>
  rw [hd] at h2
  rw [←hF,←hF,oy p F (by simpa using h2)];rfl
 |some d=>
  rw [hd] at h2
  rw [←hF,←hF,CM p d F h2]
  simp [Act.put]
section
variable {F:List Value} {fr:(Nat→Value)→Array Value} {df:List Deferred} {ops:Array Oper} {id:Nat} {Q:Exit→Act→World→Prop} {w:World}
end
section
variable {α:Type} {R:Rp α} {ops:Array Oper} {wt:Nat→Nat→Bool} {Q:Exit→Act→World→Prop} {fr:(Nat→Value)→Array Value} {df:List Deferred} {l:List JT} {W0:World} {i:Nat} {o:Oper}
end
section
variable {α:Type} {m:Nat} {l:List JT} {W0 W w:World} {L:Nat→Bool} {u:Nat→Value} {wt:Nat→Nat→Bool} {i:Nat}
end
inductive gM (wt:Nat→Nat→Bool):Nat→Nat→Prop
 |one {a b:Nat}:wt a b=true→gM wt a b
 |cons {a c b:Nat}:wt a c=true→gM wt c b→gM wt a b
theorem gM.listed {wt:Nat→Nat→Bool} {L:Nat→Bool} (hcl:∀k d,L k=true→wt k d=true→L d=true) {a b:Nat} (h:gM wt a b) (ha:L a=true):L b=true:=by
 induction h with
 |one h=>exact hcl _ _ ha h
 |cons h _ ih=>exact ih (hcl _ _ ha h)
theorem gM.first {wt:Nat→Nat→Bool} {L:Nat→Bool} {a b:Nat} (hcl:∀k d,L k=true→wt k d=true→L d=true) (hdep:∀d,wt a d=true→L d=true) (h:gM wt a b):L b=true:=by
 cases h with
 |one h=>exact hdep _ h
 |cons h h2=>exact h2.listed hcl (hdep _ h)
theorem yC {L:Nat→Bool} {i j:Nat} (h:dT L i j=false):j≠i:=by
 rintro rfl;rw [cU] at h;cases h
section
variable {α:Type} {R:Rp α} {ops:Array Oper} {wt:Nat→Nat→Bool} {Q:Exit→Act→World→Prop} {fr:(Nat→Value)→Array Value} {df:List Deferred} {l:List JT} {W0:World} {i:Nat} {o:Oper}
end
structure JX (n:Nat) (w1:World) (P:World→Prop) (L:Nat→Bool) (_u:Nat→Value) (W:World):Prop where
 old:L n=false→Below w1.heap.size w1 W
 done:L n=true→P W
section
variable {n:Nat} {w1:World} {X:List Value} {P:World→Prop} {ops:Array Oper} {wt:Nat→Nat→Bool} {Q:Exit→Act→World→Prop} {fr:(Nat→Value)→Array Value} {df:List Deferred} {i:Nat} {o:Oper}
theorem Li {L:Nat→Bool} {a b:Nat} (hcl:∀k d,L k=true→wt k d=true→L d=true) (hp:gM wt a b) (hL:L b=false):L a=false:=by
 cases h:L a with
 |false=>rfl
 |true=>have:=hp.listed hcl h;rw [hL] at this;cases this
end
section
variable {F:List Value} {fr:(Nat→Value)→Array Value} {df:List Deferred} {ops:Array Oper} {id:Nat} {Q:Exit→Act→World→Prop} {w:World}
end
def gn (x:Value):WP:=⟨fun v _=>v=x,fun _ _ _ h _=>h⟩
def fj:WP:=⟨fun _ _=>True,fun _ _ _ _ _=>trivial⟩
section
variable {n:Nat} {w1:World} {T:List WP} {P:World→Prop} {ops:Array Oper} {wt:Nat→Nat→Bool} {Q:Exit→Act→World→Prop} {fr:(Nat→Value)→Array Value} {df:List Deferred} {i:Nat} {o:Oper}
end
section
variable {F:List Value} {fr:(Nat→Value)→Array Value} {df:List Deferred} {ops:Array Oper} {id:Nat} {Q:Exit→Act→World→Prop} {w:World}
end
def JQ (c:List Nat) (Pj:Nat→World→Prop) (L:Nat→Bool) (_u:Nat→Value) (W:World):Prop:=∃j,j≤c.length∧(∀t k,c[t]?=some k→L k=decide (t<j))∧Pj j W
def GQ (X:List Value) (i:Nat) (_L:Nat→Bool) (u:Nat→Value) (_W:World):Prop:=u i=X.getD i undef
section
variable {c:List Nat} {Pj:Nat→World→Prop} {X:List Value} {ops:Array Oper} {wt:Nat→Nat→Bool} {Q:Exit→Act→World→Prop} {fr:(Nat→Value)→Array Value} {df:List Deferred} {i:Nat} {o:Oper}
theorem Mh:E8 wt (GQ X):=⟨fun _ _ _ _ _ _ hki _ h=>by unfold GQ at *;rw [dA hki];exact h,fun _ _ _ _ _ _ h=>h⟩
theorem wP (hi:i ∉ c) (hr:∀u W j,Pj j W→(∀t k,c[t]?=some k→gM wt i k→t<j)→(∀t k,c[t]?=some k→gM wt k i→j≤t)→(∀d,wt i d=true→u d=X.getD d undef)→(execOp (⟨fr u,df⟩:Act).eval o).run Tryz.prog W= .ok (.value (X.getD i undef)) W) (hg:o.guard=none:=by rfl):
  cY Tryz.prog ops wt Q fr df (GQ X) (JQ c Pj) i o:=by
 intro L u W hcl hJ hG hL hdep K hK
 rw [if_pos (by simp [Region.wanted,hg])]
 obtain ⟨j,hj,hc,hP⟩:=hJ
 unfold Oper.wp
 rw [hr u W j hP (fun t k hk hp=>by have h1:=hp.first hcl hdep;rw [hc t k hk] at h1;exact of_decide_eq_true h1) (fun t k hk hp=>by have h1:=Li hcl hp hL;rw [hc t k hk] at h1;have:=of_decide_eq_false h1;omega) (fun d hd=>hG d (hdep d hd))]
 refine hK.out _ W ⟨j,hj,fun t k hk=> ?_,hP⟩ (fun k hk hki _ h=>by unfold GQ at *;rw [dA hki];exact h) (by unfold GQ;exact cq _ _ _)
 have hne:k≠i:=fun e=>hi (by rw [←e];exact List.mem_of_getElem? hk)
 rw [bO hne];exact hc t k hk
theorem Yc {t:Nat} (ht:c[t]?=some i) (hnd:c.Nodup) (hord:∀s k,s<t→c[s]?=some k→gM wt i k) (hr:∀u W,Pj t W→(∀d,wt i d=true→u d=X.getD d undef)→∀K:Act→World→Prop,Shut (∀w',Pj (t+1) w'→K ((⟨fr u,df⟩:Act).put o.dst (X.getD i undef)) w')→Oper.wp Tryz.prog o ⟨fr u,df⟩ W K Q) (hg:o.guard=none:=by rfl):
  cY Tryz.prog ops wt Q fr df (GQ X) (JQ c Pj) i o:=by
 intro L u W hcl hJ hG hL hdep K hK
 rw [if_pos (by simp [Region.wanted,hg])]
 obtain ⟨j,hj,hc,hP⟩:=hJ
 have htl:=(List.getElem?_eq_some_iff.1 ht).1
 have hjt:j=t:=by
  have h1:=hc t i ht
  rw [hL] at h1
  have h2:=of_decide_eq_false h1.symm
  rcases Nat.lt_or_ge j t with h|h
  ·obtain ⟨k,hk⟩:∃k,c[j]?=some k:=⟨_,List.getElem?_eq_getElem (by omega)⟩
   have h3:=(hord j k h hk).first hcl hdep
   rw [hc j k hk] at h3
   have:=of_decide_eq_true h3
   omega
  ·omega
 subst hjt
 refine hr u W hP (fun d hd=>hG d (hdep d hd)) K (fun w' hP'=> ?_)
 refine hK.out _ w' ⟨j+1,htl,fun s k hk=> ?_,hP'⟩ (fun k hk hki _ h=>by unfold GQ at *;rw [dA hki];exact h) (by unfold GQ;exact cq _ _ _)
 by_cases e:s=j
 ·subst e
  rw [ht] at hk;cases hk
  rw [cU];simp
 ·have hki:k≠i:=fun h=>by
   subst h
   have h1:=(List.getElem?_eq_some_iff.1 hk);have h2:=(List.getElem?_eq_some_iff.1 ht)
   exact e ((List.getElem_inj (h₀:=h1.1) (h₁:=h2.1) hnd).1 (h1.2.trans h2.2.symm))
  rw [bO hki,hc s k hk]
  simp only [decide_eq_decide];omega
end
section
variable {F:List Value} {fr:(Nat→Value)→Array Value} {df:List Deferred} {ops:Array Oper} {id:Nat} {Q:Exit→Act→World→Prop} {w:World}
theorem YE (n:Nat) (p:List (Nat×Nat)) (X:List Value) (c:List Nat) (Pj:Nat→World→Prop) (hP0:Pj 0 w.drew) (hcn:∀k∈c,k<n)
  (hsteps:dP Tryz.prog ops (fM .any ops) Q fr df (GQ X) (JQ c Pj) 0 ops.toList)
  (hdone:∀u W,Pj c.length W→(∀k,k<n→u k=X.getD k undef)→Q .normal ⟨fr u,df⟩ W)
  (hF:∀u,(oA F p u).toArray=fr u:=by intro u;dsimp only [oA];try exact rfl)
  (hc:LP p ops=true:=by kernel_rfl) (hn:ops.size=n:=by kernel_rfl) (hm:Tryz.prog.follows .mixedOrders=true:=by kernel_rfl) (he:fh .any ops=true:=by kernel_rfl):(Code.region id ops true).wp Tryz.prog Q ⟨F.toArray,df⟩ w:=by
 obtain ⟨u0,hu⟩:=jy p F (by simp only [LP,Bool.and_eq_true] at hc;exact hc.1)
 refine fa (a:=⟨F.toArray,df⟩) fr (GQ X) (JQ c Pj) u0 hm he (nW hc hF) (by rw [←hF,hu]) ⟨0,Nat.zero_le _,fun t k hk=>by simp,hP0⟩ Mh (fun _=>hsteps) (fun L u W hall hJ hG=> ?_)
 obtain ⟨j,hj,hcj,hP⟩:=hJ
 have:j=c.length:=by
  rcases Nat.lt_or_ge j c.length with h|h
  ·have h1:=hcj j _ (List.getElem?_eq_getElem h)
   rw [hall _ (by rw [hn];exact hcn _ (List.getElem_mem h))] at h1
   have:=of_decide_eq_true h1.symm
   omega
  ·omega
 subst this
 exact hdone u W hP (fun k hk=>hG k (by omega))
end
set_option linter.unusedVariables false
abbrev bP:Array Value:= #[.slice none 0 0,.slice none 0 0,.slice none 0 0,.slice none 0 0,.int .i64 0,.slice none 0 0,.int .i64 0,.slice none 0 0,.slice none 0 0,.bool false,.int .i64 0]
theorem aN:(Tryz.prog.info? 32).map (·.size)=some 11:=by kernel_rfl
theorem Kp (w:World):(zeroValue 32).run Tryz.prog w= .ok (.agg bP) w:=by kernel_rfl
theorem wg:bP.all (·.oneCell')=true:=by first |decide|kernel_rfl
theorem cw {w:World} {g E:Nat} {cs ds:List Value} (h:aj w g cs E):aj (w.setRow g ds.toArray) g ds E:=setRow_heap w g _ _ E _ h
theorem Fr.setRow {F:Nat→Prop} {a w:World} {g:Nat} (h:Fr F a w) (hg:F g∨a.heap.size≤g) (cs:Array Value):Fr F a (w.setRow g cs):=
 h.trans (F':=fun x=>x=g) ⟨rfl,rfl,rfl,by simp,fun b _ hn=>setRow_other w g b _ hn⟩ (fun x hx=>by cases hx;exact hg)
theorem qM {g E:Nat}:∀(vs pre old post:List Value) (w:World),old.length=vs.length→aj w g (pre++(old++post)) E→aj (w.setCells g pre.length vs) g (pre++(vs++post)) E:=by
 intro vs
 induction vs with
 |nil=>
  intro pre old post w ho h
  rw [List.length_eq_zero_iff.1 ho] at h
  exact h
 |cons v vs ih=>
  intro pre old post w ho h
  obtain ⟨o,old,rfl⟩:∃o r,old=o::r:=by cases old with |nil=>cases ho|cons o r=>exact ⟨o,r,rfl⟩
  have h1:=h.set pre.length v
  rw [show (pre++(o::old++post)).set pre.length v=(pre++ [v])++(old++post) by rw [List.set_append_right _ _ (Nat.le_refl _)];simp] at h1
  have h2:=ih (pre++ [v]) old post _ (by simpa using ho) h1
  rw [show (pre++ [v]).length=pre.length+1 by simp] at h2
  rw [show pre++(v::vs++post)=pre++ [v]++(vs++post) by simp]
  exact h2
theorem lQ {w:World} {g E o:Nat} {cs ds:List Value} (h:aj w g cs E) (hd:o+ds.length≤cs.length):aj (w.setCells g o ds) g (cs.take o++(ds++cs.drop (o+ds.length))) E:=by
 have h1:=qM ds (cs.take o) ((cs.drop o).take ds.length) (cs.drop (o+ds.length)) w (by rw [List.length_take,List.length_drop];omega) (by
  rw [←List.drop_drop,List.take_append_drop,List.take_append_drop];exact h)
 rw [List.length_take,Nat.min_eq_left (by omega)] at h1
 exact h1
theorem Fr.setCells {F:Nat→Prop} {a:World} {g:Nat}:∀ {ds:List Value} {o:Nat} {w:World},Fr F a w→(F g∨a.heap.size≤g)→Fr F a (w.setCells g o ds)
 | [],_,_,h,_=>h
 |v::r,o,w,h,hg=>Fr.setCells (ds:=r) (h.setCell hg v) hg
theorem Gp {w:World} {q n c ty:Nat} {xs:List Value} (hB:aj w q xs 32) (hx:n*11+11≤xs.length):
  (Builtin.clear_ #[49] ty #[.slice (some ⟨q,n*11,none⟩) 1 c]).run Tryz.prog w= .ok (.tuple #[]) (w.setRow q (xs.take (n*11)++bP.toList++xs.drop (n*11+11)).toArray):=by
 have hz:(Builtin.zeroCells (Value.agg bP).cells 1).toList=bP.toList:=by kernel_rfl
 have hst:=run_storeCells_at Tryz.prog q (n*11) 32 bP.toList 0 xs.toArray w hB (by simpa using hx) (by simpa using wg)
 simp only [Nat.add_zero] at hst
 simp [Builtin.clear_,run_underlying Tryz.underlying49,Kp,hz,hst]
set_option maxHeartbeats 2000000 in
theorem K0 {w:World} {q n c:Nat} {xs:List Value} (hB:aj w q xs 32) (hx:xs.length=c*11) (h1:∀u∈xs.take ((n+1)*11),u.oneCell'=true) (hn:n+1≤c) (hc:c≤maxLen):
  Calls Tryz.prog 38 #[.slice (some ⟨q,0,none⟩) (n+1) c,.int .i64 0,.int .i64 1] w fun e w'=>e= .returned (.slice (some ⟨q,0,none⟩) n c)∧∃xs',aj w' q xs' 32∧xs'.length=c*11∧xs'.take (n*11)=(xs.drop 11).take (n*11)∧Fr (fun x=>x=q) w w':=by
 obtain ⟨ys,hys⟩:∃ys,ys=(xs.drop 11).take (n*11):=⟨_,rfl⟩
 have hl:ys.length=n*11:=by rw [hys,List.length_take,List.length_drop];omega
 obtain ⟨AD,hAD,hsrc⟩:∃AD:Addr,(if c=1 then some (⟨q,0,none⟩:Addr) else some ⟨q,11,none⟩)=some AD∧Hid (∀j u,ys[j]?=some u→w.drew.cell? (AD.add j)=some u):=by
  by_cases h:c=1
  ·refine ⟨⟨q,0,none⟩,by simp [h],fun j u hu=> ?_⟩
   rw [List.length_eq_zero_iff.1 (show ys.length=0 by omega)] at hu
   cases hu
  ·refine ⟨⟨q,11,none⟩,by simp [h],fun j u hu=> ?_⟩
   have hj:j<n*11:=by rw [←hl];exact (List.getElem?_eq_some_iff.1 hu).1
   rw [show (⟨q,11,none⟩:Addr).add j=⟨q,11+j,none⟩ by unfold Addr.add;split<;>simp_all]
   show w.cell? _=_
   rw [hB.cell,←hu,hys,List.getElem?_take,if_pos hj,List.getElem?_drop]
 obtain ⟨i0,hi0,hi1⟩:=Option.map_eq_some_iff.1 aN
 have s1:=Lib.hid hl
 have s2:=Lib.hid (show ∀u∈ys,u.oneCell'=true from fun u hu=>h1 u (by rw [hys,show n*11=(n+1)*11-11 by omega,←List.drop_take] at hu;exact List.mem_of_mem_drop hu))
 have s3:Hid (∀t,t<ys.length→(w.drew.cell? ⟨q,0+0*11+t,none⟩).isSome=true∧w.drew.frozen? ⟨q,0+0*11+t,none⟩=false):=Lib.hid fun t ht=>by
  constructor
  ·show (w.cell? _).isSome=true
   rw [hB.cell,List.getElem?_eq_getElem (by omega)];rfl
  ·exact hB.frozen _
 obtain ⟨W1,hW1⟩:∃W1,W1=w.drew.setCells q (0+0*11) ys:=⟨_,rfl⟩
 have hB1:aj W1 q (ys++xs.drop (n*11)) 32:=by
  have h:=lQ (w:=w.drew) (o:=0) hB (ds:=ys) (by omega)
  rw [hW1]
  rw [hl] at h
  simpa using h
 have hf1:Fr (fun x=>x=q) w W1:=by rw [hW1];exact (Fr.refl _ w).drew.setCells (.inl rfl)
 have hB2:(ys++xs.drop (n*11)).length=c*11:=by rw [List.length_append,List.length_drop];omega
 have hcl:∀ty,(Builtin.clear_ #[49] ty #[.slice (some ⟨q,n*11,none⟩) 1 (c-n)]).run Tryz.prog W1= .ok (.tuple #[]) (W1.setRow q ((ys++xs.drop (n*11)).take (n*11)++bP.toList++(ys++xs.drop (n*11)).drop (n*11+11)).toArray):=fun ty=>Gp hB1 (by omega)
 have HW:=Lib.hid hW1
 have HB1:=Lib.hid hB1
 have HF1:=Lib.hid hf1
 have HY:=Lib.hid hys
 have HX:=Lib.hid hx
 have hne:¬(0:Int)=1:=by omega
 have hge:(1:Int)≤(n:Int)+1:=by omega
 clear hB hx hl hys h1 hB1 hB2 hf1 hW1
 go_enter Tryz.func38,Tryz.ntmps38
 go_upto_region 5 with fail
 go_region_law (refine step_append_room rfl (.tmp 22) (.tmp 25) 49 rfl 32 i0 11 Tryz.underlying49 hi0 hi1 q 0 0 c (by simp [Act.eval,Act.put]) AD n (c-1) ys (by simp [Act.eval,Act.put]) s1.out hsrc.out s2.out (by omega) s3.out ?_;rw [←HW.out])
 go_wp2
 go_ret
 have hL:=s1.out
 have hX:=HX.out
 have hY:=HY.out
 refine ⟨by simp,_,cw HB1.out,?_,?_,HF1.out.setRow (.inl rfl) _⟩
 ·simp only [List.length_append,List.length_take,List.length_drop,bP,List.length_cons,List.length_nil]
  omega
 ·rw [List.take_append_of_le_length (by rw [List.length_take,List.length_append];omega),List.take_take,Nat.min_self,List.take_append_of_le_length (by omega),List.take_of_length_le (by omega),hY]
end Go.Proofs.YtknlbpjcjdenbaaGreat
namespace Go.Proofs.YtknlbpjcjdenbaaGreat
open Go Go.RowKit Go.Maps
set_option linter.unusedVariables false
theorem eW {A:Nat→Prop} {w:World} {B:Bn} {cs:Array Value} (h:cJ A w B (.agg cs)):cs.all (·.oneCell')=true:=by
 obtain ⟨l,e,_,h1⟩:=h
 injection e with e
 subst e
 rw [Array.all_eq_true_iff_forall_mem]
 intro v hv
 exact h1 v (by simpa using hv)
set_option maxHeartbeats 4000000 in
theorem Gv (p:Option Addr) (s:ByteArray) {w:World} {A:Nat→Prop} {b c:Nat} {a:Option Addr} {B:Bn} {cs:List Value} (hs:B.small)
  (hw:∀w1,Below w.heap.size w w1→w1.cell? ⟨b,11,none⟩=some (.slice a 0 c)∧cJ A w1 B (.agg cs.toArray)∧w1.rangeAt b 0 cs)
  (hf:∀w1,Below w.heap.size w w1→Calls Tryz.prog 35 #[.pointer p,.string s] w1 fun e w'=>e= .returned (.tuple #[.pointer (some ⟨b,0,none⟩),.int .i64 0])∧w1=w'):
  Calls Tryz.prog 37 #[.pointer p,.string s] w fun e w'=>∃z,e= .returned (.tuple #[z,.int .i64 0])∧Below w.heap.size w w'∧cJ (fun g=>w.heap.size≤g) w' B z:=by
 have HF:=Lib.hid hf
 obtain ⟨k1,k2,k3⟩:=hw (w.alloc (.cells #[.slice none 0 0,.slice none 0 0,.slice none 0 0,.slice none 0 0,.int .i64 0,.slice none 0 0,.int .i64 0,.slice none 0 0,.slice none 0 0,.bool false,.int .i64 0] 32)) ((by repeat (first|(with_reducible refine Below.alloc' ?_ _)|(with_reducible refine Below.drew ?_)|(with_reducible refine below_drewN ?_ _)|((with_reducible refine Below.setCell ?_ ?_ _);rotate_left;(focus (first|exact Nat.le_refl _|(simp;done)|(simp;omega))))|(with_reducible assumption)|(with_reducible exact Below.refl _ _))))
 have HS:=Lib.hid hs
 obtain ⟨v0,v1,v2,v3,v5,v7,v8,rfl,c0,c1,c2,c3,c4,c5,c6,c7,c8,c9,ca⟩:=yA k2 k3
 simp only [Nat.zero_add] at c0 c1 c2 c3 c4 c5 c6 c7 c8 c9 ca
 have K2:=Lib.hid k2
 clear hf hw hs k2 k3
 go_enter Tryz.func37,Tryz.ntmps37
 go_wp2_with (first|(go_at_call 35;go_must (refine (HF.out _ ((by repeat (first|(with_reducible refine Below.alloc' ?_ _)|(with_reducible refine Below.drew ?_)|(with_reducible refine below_drewN ?_ _)|((with_reducible refine Below.setCell ?_ ?_ _);rotate_left;(focus (first|exact Nat.le_refl _|(simp;done)|(simp;omega))))|(with_reducible assumption)|(with_reducible exact Below.refl _ _))))).mono ?_;rintro e w1 ⟨rfl,rfl⟩))|(go_at_call 27;go_must (refine (gU K2.out HS.out).mono ?_;rintro e w1 ⟨z,rfl,hb,hz⟩;obtain ⟨y0,y1,y2,y3,y5,y7,y8,rfl,_⟩:=et hz;have H1:=eW hz;have HB0:w1.heap[w.heap.size]?=some (.cells bP 32 (0,0)):=(hb.block _ (by show w.heap.size<(w.heap.push _).size;simp)).trans (aj.new w _ _);have HZ:=Lib.hid hz;have HBW:=Lib.hid hb;clear hz hb))|(refine wpList_store_row rfl 32 _ _ rfl w.heap.size _ rfl rfl 32 bP HB0 aN rfl H1 ?_))
 have hB:aj (w1.setRow w.heap.size #[y0,y1,y2,y3,.int .i64 B.onceId,y5,.int .i64 B.kemId,y7,y8,.bool B.last,.int .i64 B.version]) w.heap.size [y0,y1,y2,y3,.int .i64 B.onceId,y5,.int .i64 B.kemId,y7,y8,.bool B.last,.int .i64 B.version] 32:=setRow_heap w1 w.heap.size _ _ 32 _ HB0
 refine bodyPost_ret (eX (g:=w.heap.size) Tryz.results37 _ _ rfl hB rfl) ?_ ?_
 ·rfl
 ·have hb1:Below w.heap.size w w1:=Below.trans ((by repeat (first|(with_reducible refine Below.alloc' ?_ _)|(with_reducible refine Below.drew ?_)|(with_reducible refine below_drewN ?_ _)|((with_reducible refine Below.setCell ?_ ?_ _);rotate_left;(focus (first|exact Nat.le_refl _|(simp;done)|(simp;omega))))|(with_reducible assumption)|(with_reducible exact Below.refl _ _)))) (HBW.out.mono (by show w.heap.size≤(w.heap.push _).size;simp))
  refine ⟨_,rfl,below_setRow hb1 (Nat.le_refl _) _,?_⟩
  have hz:(B.av).H E0 (fun g=>(w.heap.push (.cells bP 32)).size≤g) w1 _:=HZ.out
  refine AV.H.later (η:=E0) (η':=E0) ⟨fun _ _ h=>h,fun g hg ha=>⟨setRow_other _ _ _ _ ?_,?_⟩⟩ hz
  ·have ha:(w.heap.push (.cells bP 32)).size≤g:=ha
   simp at ha
   omega
  ·have ha:(w.heap.push (.cells bP 32)).size≤g:=ha
   simp at ha
   show w.heap.size≤g
   omega
set_option maxHeartbeats 4000000 in
theorem zK (p:Option Addr) (s:ByteArray) {w:World} {A:Nat→Prop} {b c q k:Nat} {B:Bn} {cs:List Value} (hs:B.small)
  (hw:∀w1,Below w.heap.size w w1→w1.cell? ⟨b,11,none⟩=some (.slice (some ⟨q,0,none⟩) (k+1) c)∧cJ A w1 B (.agg cs.toArray)∧w1.rangeAt q 0 cs)
  (hf:∀w1,Below w.heap.size w w1→Calls Tryz.prog 35 #[.pointer p,.string s] w1 fun e w'=>e= .returned (.tuple #[.pointer (some ⟨b,0,none⟩),.int .i64 0])∧w1=w'):
  Calls Tryz.prog 37 #[.pointer p,.string s] w fun e w'=>∃z,e= .returned (.tuple #[z,.int .i64 0])∧Below w.heap.size w w'∧cJ (fun g=>w.heap.size≤g) w' B z:=by
 have HF:=Lib.hid hf
 have hk1:0<k+1:=by omega
 have hk2:(0:Int)<((k+1:Nat):Int):=by omega
 obtain ⟨k1,k2,k3⟩:=hw (w.alloc (.cells #[.slice none 0 0,.slice none 0 0,.slice none 0 0,.slice none 0 0,.int .i64 0,.slice none 0 0,.int .i64 0,.slice none 0 0,.slice none 0 0,.bool false,.int .i64 0] 32)) ((by repeat (first|(with_reducible refine Below.alloc' ?_ _)|(with_reducible refine Below.drew ?_)|(with_reducible refine below_drewN ?_ _)|((with_reducible refine Below.setCell ?_ ?_ _);rotate_left;(focus (first|exact Nat.le_refl _|(simp;done)|(simp;omega))))|(with_reducible assumption)|(with_reducible exact Below.refl _ _))))
 have HS:=Lib.hid hs
 obtain ⟨v0,v1,v2,v3,v5,v7,v8,rfl,c0,c1,c2,c3,c4,c5,c6,c7,c8,c9,ca⟩:=yA k2 k3
 simp only [Nat.zero_add] at c0 c1 c2 c3 c4 c5 c6 c7 c8 c9 ca
 have K2:=Lib.hid k2
 clear hf hw hs k2 k3
 go_enter Tryz.func37,Tryz.ntmps37
 go_wp2_with (first|(go_at_call 35;go_must (refine (HF.out _ ((by repeat (first|(with_reducible refine Below.alloc' ?_ _)|(with_reducible refine Below.drew ?_)|(with_reducible refine below_drewN ?_ _)|((with_reducible refine Below.setCell ?_ ?_ _);rotate_left;(focus (first|exact Nat.le_refl _|(simp;done)|(simp;omega))))|(with_reducible assumption)|(with_reducible exact Below.refl _ _))))).mono ?_;rintro e w1 ⟨rfl,rfl⟩))|(go_at_call 27;go_must (refine (gU K2.out HS.out).mono ?_;rintro e w1 ⟨z,rfl,hb,hz⟩;obtain ⟨y0,y1,y2,y3,y5,y7,y8,rfl,_⟩:=et hz;have H1:=eW hz;have HB0:w1.heap[w.heap.size]?=some (.cells bP 32 (0,0)):=(hb.block _ (by show w.heap.size<(w.heap.push _).size;simp)).trans (aj.new w _ _);have HZ:=Lib.hid hz;have HBW:=Lib.hid hb;clear hz hb))|(refine wpList_store_row rfl 32 _ _ rfl w.heap.size _ rfl rfl 32 bP HB0 aN rfl H1 ?_))
 have hB:aj (w1.setRow w.heap.size #[y0,y1,y2,y3,.int .i64 B.onceId,y5,.int .i64 B.kemId,y7,y8,.bool B.last,.int .i64 B.version]) w.heap.size [y0,y1,y2,y3,.int .i64 B.onceId,y5,.int .i64 B.kemId,y7,y8,.bool B.last,.int .i64 B.version] 32:=setRow_heap w1 w.heap.size _ _ 32 _ HB0
 refine bodyPost_ret (eX (g:=w.heap.size) Tryz.results37 _ _ rfl hB rfl) ?_ ?_
 ·rfl
 ·have hb1:Below w.heap.size w w1:=Below.trans ((by repeat (first|(with_reducible refine Below.alloc' ?_ _)|(with_reducible refine Below.drew ?_)|(with_reducible refine below_drewN ?_ _)|((with_reducible refine Below.setCell ?_ ?_ _);rotate_left;(focus (first|exact Nat.le_refl _|(simp;done)|(simp;omega))))|(with_reducible assumption)|(with_reducible exact Below.refl _ _)))) (HBW.out.mono (by show w.heap.size≤(w.heap.push _).size;simp))
  refine ⟨_,rfl,below_setRow hb1 (Nat.le_refl _) _,?_⟩
  have hz:(B.av).H E0 (fun g=>(w.heap.push (.cells bP 32)).size≤g) w1 _:=HZ.out
  refine AV.H.later (η:=E0) (η':=E0) ⟨fun _ _ h=>h,fun g hg ha=>⟨setRow_other _ _ _ _ ?_,?_⟩⟩ hz
  ·have ha:(w.heap.push (.cells bP 32)).size≤g:=ha
   simp at ha
   omega
  ·have ha:(w.heap.push (.cells bP 32)).size≤g:=ha
   simp at ha
   show w.heap.size≤g
   omega
set_option linter.unusedVariables false
set_option maxHeartbeats 4000000 in
theorem Am (p:Option Addr) (s:ByteArray) {w:World} {B:Bn}
  (hl:∀w1,Below w.heap.size w w1→Calls Tryz.prog 37 #[.pointer p,.string s] w1 fun e w'=>∃z,e= .returned (.tuple #[z,.int .i64 0])∧Below w1.heap.size w1 w'∧cJ (fun g=>w1.heap.size≤g) w' B z)
  (hc:∀w1,Below w.heap.size w w1→Calls Tryz.prog 13 #[.pointer p,.string s] w1 fun e w'=>e= .returned (.int .i64 0)∧w1=w'):
  Calls Tryz.prog 14 #[.pointer p,.string s] w fun e w'=>∃z,e= .returned (.tuple #[z,.int .i64 0])∧Below w.heap.size w w'∧cJ (fun g=>w.heap.size≤g) w' B z:=by
 have HL:=Lib.hid hl
 have HCn:=Lib.hid hc
 clear hl hc
 go_enter Tryz.func14,Tryz.ntmps14
 go_upto_region 2 with (first|(go_at_call 37;go_must (refine (HL.out _ ((by repeat (first|(with_reducible refine Below.alloc' ?_ _)|(with_reducible refine Below.drew ?_)|(with_reducible refine below_drewN ?_ _)|((with_reducible refine Below.setCell ?_ ?_ _);rotate_left;(focus (first|exact Nat.le_refl _|(simp;done)|(simp;omega))))|(with_reducible assumption)|(with_reducible exact Below.refl _ _))))).mono ?_;rintro e w1 ⟨z,rfl,hb,hz⟩;obtain ⟨y0,y1,y2,y3,y5,y7,y8,rfl,_⟩:=et hz;have H1:=eW hz;have HB0:w1.heap[w.heap.size]?=some (.cells bP 32 (0,0)):=(hb.block _ (by show w.heap.size<(w.heap.push _).size;simp)).trans (aj.new w _ _);have HZ:=Lib.hid hz;have HBW:=Lib.hid hb;clear hz hb))|(refine wpList_store_row rfl 32 _ _ rfl w1.heap.size _ rfl rfl 32 bP (aj.new w1 _ _) aN rfl H1 ?_))
 have hs1:w.heap.size<w1.heap.size:=by
  have:=HBW.out.size
  have h2:(w.heap.push (.cells bP 32)).size≤w1.heap.size:=this
  simp at h2
  omega
 have hb1:Below w.heap.size w w1:=Below.trans ((by repeat (first|(with_reducible refine Below.alloc' ?_ _)|(with_reducible refine Below.drew ?_)|(with_reducible refine below_drewN ?_ _)|((with_reducible refine Below.setCell ?_ ?_ _);rotate_left;(focus (first|exact Nat.le_refl _|(simp;done)|(simp;omega))))|(with_reducible assumption)|(with_reducible exact Below.refl _ _)))) (HBW.out.mono (by show w.heap.size≤(w.heap.push _).size;simp))
 obtain ⟨W,hW⟩:∃W,W=(w1.alloc (.cells bP 32)).setRow w1.heap.size #[y0,y1,y2,y3,.int .i64 B.onceId,y5,.int .i64 B.kemId,y7,y8,.bool B.last,.int .i64 B.version]:=⟨_,rfl⟩
 have hB2:aj W w1.heap.size [y0,y1,y2,y3,.int .i64 B.onceId,y5,.int .i64 B.kemId,y7,y8,.bool B.last,.int .i64 B.version] 32:=by rw [hW];exact setRow_heap _ _ _ _ 32 _ (aj.new w1 _ _)
 have hB3:W.heap[w.heap.size]?=some (.cells bP 32 (0,0)):=by
  rw [hW,setRow_other _ _ _ _ (by omega)]
  exact (heap_alloc_old w1 (.cells bP 32) hs1).trans HB0
 have hbW:Below w.heap.size w W:=by rw [hW];exact below_setRow (Below.alloc' hb1 _) (by omega) _
 have hzW:cJ (fun g=>w.heap.size<g) W B (.agg #[y0,y1,y2,y3,.int .i64 B.onceId,y5,.int .i64 B.kemId,y7,y8,.bool B.last,.int .i64 B.version]):=by
  have hz:(B.av).H E0 (fun g=>(w.heap.push (.cells bP 32)).size≤g) w1 _:=HZ.out
  refine AV.H.later (η:=E0) (η':=E0) ⟨fun _ _ h=>h,fun g hg ha=>⟨?_,?_⟩⟩ hz
  ·rw [hW,setRow_other _ _ _ _ (by omega)]
   exact heap_alloc_old w1 (.cells bP 32) hg
  ·have ha:(w.heap.push (.cells bP 32)).size≤g:=ha
   simp at ha
   show w.heap.size<g
   omega
 have hc0:=hB2.cell 0;have hc1:=hB2.cell 1;have hc2:=hB2.cell 2;have hc3:=hB2.cell 3;have hc4:=hB2.cell 4;have hc5:=hB2.cell 5;have hc6:=hB2.cell 6;have hc7:=hB2.cell 7;have hc8:=hB2.cell 8;have hc9:=hB2.cell 9;have hca:=hB2.cell 10
 rw [←hW]
 have HBW2:=Lib.hid hbW
 have HZW:=Lib.hid hzW
 clear hW hbW hzW hB2 HBW HZ HB0 hb1
 go_wp2_with (first|(go_at_call 13;go_must (refine (HCn.out _ HBW2.out).mono ?_;rintro e w2 ⟨rfl,rfl⟩))|(refine wpList_store_row rfl 32 _ _ rfl w.heap.size _ rfl rfl 32 bP hB3 aN rfl H1 ?_))
 have hB:aj (W.setRow w.heap.size #[y0,y1,y2,y3,.int .i64 B.onceId,y5,.int .i64 B.kemId,y7,y8,.bool B.last,.int .i64 B.version]) w.heap.size [y0,y1,y2,y3,.int .i64 B.onceId,y5,.int .i64 B.kemId,y7,y8,.bool B.last,.int .i64 B.version] 32:=setRow_heap W w.heap.size _ _ 32 _ hB3
 refine bodyPost_ret (eX (g:=w.heap.size) Tryz.results14 _ _ rfl hB rfl) ?_ ?_
 ·rfl
 ·refine ⟨_,rfl,below_setRow HBW2.out (Nat.le_refl _) _,?_⟩
  have hz:(B.av).H E0 (fun g=>w.heap.size<g) W _:=HZW.out
  exact AV.H.later (η:=E0) (η':=E0) ⟨fun _ _ h=>h,fun g hg ha=>⟨setRow_other _ _ _ _ (Nat.ne_of_gt ha),Nat.le_of_lt ha⟩⟩ hz
set_option linter.unusedVariables false
set_option maxHeartbeats 2000000 in
theorem I6 (p:Option Addr) (s:ByteArray) {w:World} {q:Value} {n:Int} (h0:n≠0) (hf:∀w1,Below w.heap.size w w1→Calls Tryz.prog 35 #[.pointer p,.string s] w1 fun e w'=>e= .returned (.tuple #[q,.int .i64 n])∧w1=w'):
  Calls Tryz.prog 37 #[.pointer p,.string s] w fun e w'=>e= .returned (.tuple #[.agg bP,.int .i64 n])∧Below w.heap.size w w':=by
 have HF:=Lib.hid hf
 clear hf
 go_enter Tryz.func37,Tryz.ntmps37
 go_wp2_with (go_at_call 35;go_must (refine (HF.out _ ((by repeat (first|(with_reducible refine Below.alloc' ?_ _)|(with_reducible refine Below.drew ?_)|(with_reducible refine below_drewN ?_ _)|((with_reducible refine Below.setCell ?_ ?_ _);rotate_left;(focus (first|exact Nat.le_refl _|(simp;done)|(simp;omega))))|(with_reducible assumption)|(with_reducible exact Below.refl _ _))))).mono ?_;rintro e w1 ⟨rfl,rfl⟩))
 refine bodyPost_ret (eX (g:=w.heap.size) Tryz.results37 _ _ rfl (aj.new _ _ _) rfl) ?_ ?_
 ·rfl
 ·exact ⟨rfl,(by repeat (first|(with_reducible refine Below.alloc' ?_ _)|(with_reducible refine Below.drew ?_)|(with_reducible refine below_drewN ?_ _)|((with_reducible refine Below.setCell ?_ ?_ _);rotate_left;(focus (first|exact Nat.le_refl _|(simp;done)|(simp;omega))))|(with_reducible assumption)|(with_reducible exact Below.refl _ _)))⟩
set_option maxHeartbeats 4000000 in
theorem Gw (p:Option Addr) (s:ByteArray) {w:World} {n:Int} (h0:n≠0)
  (hl:∀w1,Below w.heap.size w w1→Calls Tryz.prog 37 #[.pointer p,.string s] w1 fun e w'=>e= .returned (.tuple #[.agg bP,.int .i64 n])∧Below w1.heap.size w1 w'):
  Calls Tryz.prog 14 #[.pointer p,.string s] w fun e w'=>e= .returned (.tuple #[.agg bP,.int .i64 n])∧Below w.heap.size w w':=by
 have HL:=Lib.hid hl
 have H1:bP.all (·.oneCell')=true:=by first |decide|kernel_rfl|(simp [bP,Value.oneCell'])
 clear hl
 go_enter Tryz.func14,Tryz.ntmps14
 go_upto_region 2 with (first|(go_at_call 37;go_must (refine (HL.out _ ((by repeat (first|(with_reducible refine Below.alloc' ?_ _)|(with_reducible refine Below.drew ?_)|(with_reducible refine below_drewN ?_ _)|((with_reducible refine Below.setCell ?_ ?_ _);rotate_left;(focus (first|exact Nat.le_refl _|(simp;done)|(simp;omega))))|(with_reducible assumption)|(with_reducible exact Below.refl _ _))))).mono ?_;rintro e w1 ⟨rfl,hb⟩;have HB0:w1.heap[w.heap.size]?=some (.cells bP 32 (0,0)):=(hb.block _ (by show w.heap.size<(w.heap.push _).size;simp)).trans (aj.new w _ _);have HBW:=Lib.hid hb;clear hb))|(refine wpList_store_row rfl 32 _ _ rfl w1.heap.size _ rfl rfl 32 bP (aj.new w1 _ _) aN rfl H1 ?_))
 have hs1:w.heap.size<w1.heap.size:=by
  have h2:(w.heap.push (.cells bP 32)).size≤w1.heap.size:=HBW.out.size
  simp at h2
  omega
 have hb1:Below w.heap.size w w1:=Below.trans ((by repeat (first|(with_reducible refine Below.alloc' ?_ _)|(with_reducible refine Below.drew ?_)|(with_reducible refine below_drewN ?_ _)|((with_reducible refine Below.setCell ?_ ?_ _);rotate_left;(focus (first|exact Nat.le_refl _|(simp;done)|(simp;omega))))|(with_reducible assumption)|(with_reducible exact Below.refl _ _)))) (HBW.out.mono (by show w.heap.size≤(w.heap.push _).size;simp))
 obtain ⟨W,hW⟩:∃W,W=(w1.alloc (.cells bP 32)).setRow w1.heap.size bP:=⟨_,rfl⟩
 have hB2:aj W w1.heap.size bP.toList 32:=by rw [hW];exact setRow_heap _ _ _ _ 32 _ (aj.new w1 _ _)
 have hB3:W.heap[w.heap.size]?=some (.cells bP 32 (0,0)):=by
  rw [hW,setRow_other _ _ _ _ (by omega)]
  exact (heap_alloc_old w1 (.cells bP 32) hs1).trans HB0
 have hbW:Below w.heap.size w W:=by rw [hW];exact below_setRow (Below.alloc' hb1 _) (by omega) _
 have hc0:=hB2.cell 0;have hc1:=hB2.cell 1;have hc2:=hB2.cell 2;have hc3:=hB2.cell 3;have hc4:=hB2.cell 4;have hc5:=hB2.cell 5;have hc6:=hB2.cell 6;have hc7:=hB2.cell 7;have hc8:=hB2.cell 8;have hc9:=hB2.cell 9;have hca:=hB2.cell 10
 rw [←hW]
 have HBW2:=Lib.hid hbW
 have hne:(n ==0)=false:=by simp [h0]
 clear hW hbW hB2 HBW HB0 hb1
 go_wp2_with (refine wpList_store_row rfl 32 _ _ rfl w.heap.size _ rfl rfl 32 bP hB3 aN rfl H1 ?_)
 have hB:aj (W.setRow w.heap.size bP) w.heap.size bP.toList 32:=setRow_heap W w.heap.size _ _ 32 _ hB3
 refine bodyPost_ret (eX (g:=w.heap.size) Tryz.results14 _ _ rfl hB rfl) ?_ ?_
 ·rfl
 ·exact ⟨rfl,below_setRow HBW2.out (Nat.le_refl _) _⟩
set_option linter.unusedVariables false
theorem cJ.later {A A':Nat→Prop} {w w':World} (hl:∀g,g<w.heap.size→A g→w'.heap[g]?=w.heap[g]?∧A' g) {B:Bn} {v:Value} (h:cJ A w B v):cJ A' w' B v:=AV.H.later (η:=E0) (η':=E0) ⟨fun _ _ h=>h,hl⟩ h
theorem aV {A:Nat→Prop} {w:World} {B:Bn} {cs:List Value} (h:cJ A w B (.agg cs.toArray)):cs.length=11:=by
 obtain ⟨a,b,c,d,e,f,g,e1,_⟩:=et h
 injection e1 with e1
 have:=congrArg Array.size e1
 simpa using this
def cI (A:Nat→Prop) (w:World):List Value→List Bn→Prop
 |xs,[]=>xs= []
 |xs,B::l=>∃cs r,xs=cs++r∧cJ A w B (.agg cs.toArray)∧cI A w r l
theorem cI.later {A A':Nat→Prop} {w w':World} (hl:∀g,g<w.heap.size→A g→w'.heap[g]?=w.heap[g]?∧A' g):∀ {l:List Bn} {xs:List Value},cI A w xs l→cI A' w' xs l
 | [],_,h=>h
 |_::_,_,⟨cs,r,e,hB,hr⟩=>⟨cs,r,e,hB.later hl,hr.later hl⟩
theorem cI.append {A:Nat→Prop} {w:World} {B:Bn} {cs:List Value} (hB:cJ A w B (.agg cs.toArray)):∀ {l:List Bn} {xs:List Value},cI A w xs l→cI A w (xs++cs) (l++ [B])
 | [],_,h=>by cases h;exact ⟨cs,[],by simp,hB,rfl⟩
 |_::_,_,⟨ds,r,e,hD,hr⟩=>⟨ds,r++cs,by rw [e,List.append_assoc],hD,hr.append hB⟩
theorem cI.len {A:Nat→Prop} {w:World}:∀ {l:List Bn} {xs:List Value},cI A w xs l→xs.length=l.length*11
 | [],_,h=>by cases h;rfl
 |B::l,_,⟨cs,r,e,hB,hr⟩=>by
  rw [e,List.length_append,hr.len,aV hB,List.length_cons];omega
theorem cI.one {A:Nat→Prop} {w:World}:∀ {l:List Bn} {xs:List Value},cI A w xs l→∀u∈xs,u.oneCell'=true
 | [],_,h=>by cases h;simp
 |B::l,_,⟨cs,r,e,hB,hr⟩=>by
  intro u hu
  rw [e] at hu
  rcases List.mem_append.1 hu with h|h
  ·have:=eW hB
   simp only [List.all_toArray,List.all_eq_true] at this
   exact this u h
  ·exact hr.one u h
theorem cI.at {A:Nat→Prop} {w:World}:∀ {l:List Bn} {xs:List Value} {k:Nat} (hk:k<l.length),cI A w xs l→∃cs,cs=(xs.drop (k*11)).take 11∧cJ A w l[k] (.agg cs.toArray)
 |B::l,xs,0,hk,⟨cs,r,e,hB,hr⟩=>⟨cs,by
   have:=aV hB
   rw [e,Nat.zero_mul,List.drop_zero,List.take_append_of_le_length (by omega),List.take_of_length_le (by omega)],hB⟩
 |B::l,xs,k+1,hk,⟨cs,r,e,hB,hr⟩=>by
  obtain ⟨ds,e2,h2⟩:=hr.at (k:=k) (by simpa using hk)
  refine ⟨ds,?_,h2⟩
  have:=aV hB
  rw [e2,e,show (k+1)*11=cs.length+k*11 by omega,List.drop_append,show cs.drop (cs.length+k*11)= [] from List.drop_eq_nil_of_le (by omega),List.nil_append]
  simp
theorem gY {w:World} {b o k n:Nat} {xs:List Value} (h:w.rangeAt b o xs):w.rangeAt b (o+k) ((xs.drop k).take n):=fun j v hv=>by
 rw [List.getElem?_take] at hv
 split at hv
 ·rw [List.getElem?_drop] at hv
  rw [Nat.add_assoc]
  exact h _ v hv
 ·cases hv
structure En where
 base:Bn
 once:List Bn
 onces:Int→Int
 kems:Int→Int
def NO (f:Int→Int) (k:Int):Int→Int:=fun j=>if j=k then IntKind.i64.wrap (f k+1) else f j
def En.add (e:En) (B:Bn):En:=⟨e.base,e.once++ [B],NO e.onces B.onceId,NO e.kems B.kemId⟩
def MN (D:DataW Value) (f:Int→Int):Prop:=∀k,gH k→D.atKey (.int .i64 k) (.lit (.int .i64 0))= .lit (.int .i64 (f k))
abbrev MI (w:World) (g m:Nat) (D:DataW Value):Prop:=w.ownsMap (H:=Value) Tryz.prog 3 (plainElem Tryz.prog 3) g m D
theorem am {k:TypeId} {R:Value→Option (DataW Value×List MemPlace)} {w w':World} {b n m:Nat} {D:DataW Value} (h:w.ownsMap Tryz.prog k R b n D) (e:w'.heap[b]?=w.heap[b]?) (hm:n≤m):w'.ownsMap Tryz.prog k R b m D:=by
 obtain ⟨es,clock,hb,F,hs,hD⟩:=h
 exact ⟨es,clock,e.trans hb,F,Nat.le_trans hs hm,hD⟩
def Bn.fine (B:Bn):Prop:=B.small∧gH B.onceId∧gH B.kemId
structure GW (w:World) (T:Nat→Nat) (t N b:Nat) (e:En) (cs:List Value) (so:Value) (xs:List Value) (mo mk:Nat) (Do Dk:DataW Value):Prop where
 blk:aj w b (cs++ [so,.map (some mo),.map (some mk)]) 68
 base:cJ (fun g=>T g=0) w e.base (.agg cs.toArray)
 row:w.ownsRow 0 32 11 so e.once.length xs
 rows:cI (fun g=>T g=0) w xs e.once
 om:MI w mo N Do
 km:MI w mk N Dk
 fo:MN Do e.onces
 fk:MN Dk e.kems
 tb:T b=t
 tq:∀q,so.ownBlock=some q→T q=t+1
 tmo:T mo=t+2
 tmk:T mk=t+3
 sb:e.base.fine
 sl:∀B∈e.once,B.fine
def NH (w:World) (T:Nat→Nat) (t N b:Nat) (e:En):Prop:=∃cs so xs mo mk Do Dk,GW w T t N b e cs so xs mo mk Do Dk
def a_ (T:Nat→Nat) (t x:Nat):Prop:=t≤T x∧T x≤t+3
theorem cO {w w':World} {base e size n:Nat} {v:Value} {xs:List Value} (h:w.ownsRow base e size v n xs) (hb:∀q,v.ownBlock=some q→w'.heap[q]?=w.heap[q]?):w'.ownsRow base e size v n xs:=by
 refine ⟨h.1,?_⟩
 rcases h.2 with hn|⟨g,cap,cur,rfl,h1,hg,rest⟩
 ·exact .inl hn
 ·exact .inr ⟨g,cap,cur,rfl,h1,(hb g rfl).trans hg,rest⟩
theorem GW.later {w w':World} {T T':Nat→Nat} {t N N' b mo mk:Nat} {e:En} {cs xs:List Value} {so:Value} {Do Dk:DataW Value} (h:GW w T t N b e cs so xs mo mk Do Dk) {F:Nat→Prop} (hf:Fr F w w') (hT:∀x,x<w.heap.size→T' x=T x) (hF:∀x,F x→x<w.heap.size→T x≠0∧¬a_ T t x) (hN:N≤N') (ht:0<t):GW w' T' t N' b e cs so xs mo mk Do Dk:=by
 have k1:∀x,x<w.heap.size→a_ T t x→w'.heap[x]?=w.heap[x]?:=fun x hx hm=>hf.block x hx fun hFx=>(hF x hFx hx).2 hm
 have k0:∀x,x<w.heap.size→T x=0→w'.heap[x]?=w.heap[x]?∧T' x=0:=fun x hx h0=>⟨hf.block x hx fun hFx=>(hF x hFx hx).1 h0,by rw [hT x hx];exact h0⟩
 have lb:=h.blk.lt
 have lmo:=h.om.lt
 have lmk:=h.km.lt
 have mb:a_ T t b:=⟨by rw [h.tb];exact Nat.le_refl _,by rw [h.tb];omega⟩
 have mmo:a_ T t mo:=⟨by rw [h.tmo];omega,by rw [h.tmo];omega⟩
 have mmk:a_ T t mk:=⟨by rw [h.tmk];omega,by rw [h.tmk];omega⟩
 have mq:∀q,so.ownBlock=some q→a_ T t q:=fun q hq=>⟨by rw [h.tq q hq];omega,by rw [h.tq q hq];omega⟩
 exact ⟨(k1 b lb mb).trans h.blk,h.base.later k0,cO h.row fun q hq=>k1 q (h.row.lt q hq).2 (mq q hq),h.rows.later k0,am h.om (k1 mo lmo mmo) hN,am h.km (k1 mk lmk mmk) hN,h.fo,h.fk,by rw [hT b lb,h.tb],fun q hq=>by rw [hT q (h.row.lt q hq).2,h.tq q hq],by rw [hT mo lmo,h.tmo],by rw [hT mk lmk,h.tmk],h.sb,h.sl⟩
theorem NH.later {w w':World} {T T':Nat→Nat} {t N N' b:Nat} {e:En} (h:NH w T t N b e) {F:Nat→Prop} (hf:Fr F w w') (hT:∀x,x<w.heap.size→T' x=T x) (hF:∀x,F x→x<w.heap.size→T x≠0∧¬a_ T t x) (hN:N≤N') (ht:0<t):NH w' T' t N' b e:=by
 obtain ⟨cs,so,xs,mo,mk,Do,Dk,hX⟩:=h
 exact ⟨cs,so,xs,mo,mk,Do,Dk,hX.later hf hT hF hN ht⟩
theorem GW.lt {w:World} {T:Nat→Nat} {t N b mo mk:Nat} {e:En} {cs xs:List Value} {so:Value} {Do Dk:DataW Value} (h:GW w T t N b e cs so xs mo mk Do Dk):b<w.heap.size:=h.blk.lt
theorem Eu {D:DataW Value} {f:Int→Int} {k:Int} (h:MN D f) (hD:IsMap D) (hk:gH k):MN (D.put (.int .i64 k) (.lit (.int .i64 (IntKind.i64.wrap (f k+1))))) (NO f k):=fun j hj=>by
 unfold NO
 by_cases e:j=k
 ·subst e
  rw [if_pos rfl,Maps.atKey_put_same hD (by trivial)]
 ·rw [if_neg e,Maps.atKey_put_other (fun h=>e (by injection h))]
  exact h j hj
end Go.Proofs.YtknlbpjcjdenbaaGreat
namespace Go.Proofs.YtknlbpjcjdenbaaGreat
open Go Go.RowKit
structure FP (Z:Nat→Prop) where
 tell:Option Value
 P:(Nat→Prop)→Value→World→Prop
 st:∀S v w w',P S v w→Fr (fun x=>Z x∧¬S x) w w'→P S v w'
def kv {Z:Nat→Prop} (x:Value):FP Z:=⟨some x,fun _ v _=>v=x,fun _ _ _ _ h _=>h⟩
def kz {Z:Nat→Prop}:FP Z:=⟨none,fun _ _ _=>True,fun _ _ _ _ _ _=>trivial⟩
def zV (Fw:Nat→Prop) (B:Nat) (x:Nat):Prop:=Fw x∨B≤x
def eM (tl:List (Option Nat)) (L:Nat→Bool) (i:Nat):Prop:=∀t,tl.getD i none=some t→L t=false
theorem eM.mono {tl:List (Option Nat)} {L:Nat→Bool} {i k:Nat} (h:eM tl (dT L i) k):eM tl L k:=fun t ht=>lg (h t ht)
theorem eM.ne {tl:List (Option Nat)} {L:Nat→Bool} {i k:Nat} (h:eM tl (dT L i) k):tl.getD k none≠some i:=fun ht=>yC (h i ht) rfl
structure JR (n m:Nat) (Fw:Nat→Prop) (w1:World) (T:List (FP (zV Fw w1.heap.size))) (tl:List (Option Nat)) (gh:Nat→Nat→Prop) (L:Nat→Bool) (u:Nat→Value) (W:World):Prop where
 old:L m=false→Below w1.heap.size w1 W
 fr:Fr Fw w1 W
 fact:∀i,i<n→L i=true→eM tl L i→(T.getD i kz).P (gh i) (u i) W
 foot:∀i,i<n→L i=true→eM tl L i→∀x,gh i x→(w1.heap.size≤x∨(Fw x∧L m=true))∧x<W.heap.size
 apart:∀i j x,i<n→j<n→i≠j→L i=true→L j=true→eM tl L i→eM tl L j→gh i x→gh j x→False
structure JS (n m:Nat) (Fw:Nat→Prop) (w1:World) (T:List (FP (zV Fw w1.heap.size))) (tl:List (Option Nat)) (Pd:Value→World→Prop) (L:Nat→Bool) (u:Nat→Value) (W:World):Prop where
 val:∀k,k<n→L k=true→∀x,(T.getD k kz).tell=some x→u k=x
 done:L n=true→Pd (u n) W
 run:L n=false→∃gh,JR n m Fw w1 T tl gh L u W
def G0 (_i:Nat) (_L:Nat→Bool) (_u:Nat→Value) (_W:World):Prop:=True
structure CS (n m i:Nat) (Fw:Nat→Prop) (w1:World) (T:List (FP (zV Fw w1.heap.size))) (tl:List (Option Nat)) (wt:Nat→Nat→Bool) (gh:Nat→Nat→Prop) (L:Nat→Bool) (u:Nat→Value) (W:World):Prop where
 old:L m=false→Below w1.heap.size w1 W
 fr:Fr Fw w1 W
 free:∀t,t=i∨gM wt t i→L t=false
 val:∀j,wt i j=true→j<n→∀x,(T.getD j kz).tell=some x→u j=x
 fact:∀j,wt i j=true→j<n→eM tl L j→(T.getD j kz).P (gh j) (u j) W
 foot:∀j,wt i j=true→j<n→eM tl L j→∀x,gh j x→(w1.heap.size≤x∨(Fw x∧L m=true))∧x<W.heap.size
 apart:∀j k x,wt i j=true→wt i k=true→j<n→k<n→j≠k→eM tl L j→eM tl L k→gh j x→gh k x→False
def qO (n i:Nat) (tl:List (Option Nat)) (wt:Nat→Nat→Bool) (gh:Nat→Nat→Prop) (x:Nat):Prop:=∃j,wt i j=true∧j<n∧tl.getD j none=some i∧gh j x
section
variable {n m:Nat} {Fw:Nat→Prop} {w1:World} {T:List (FP (zV Fw w1.heap.size))} {tl:List (Option Nat)} {Pd:Value→World→Prop} {ops:Array Oper} {wt:Nat→Nat→Bool} {Q:Exit→Act→World→Prop} {fr:(Nat→Value)→Array Value} {df:List Deferred} {i:Nat} {o:Oper}
theorem OO:E8 wt G0:=⟨fun _ _ _ _ _ _ _ _ h=>h,fun _ _ _ _ _ _ h=>h⟩
theorem CS.before {gh:Nat→Nat→Prop} {L:Nat→Bool} {u:Nat→Value} {W:World} (h:CS n m i Fw w1 T tl wt gh L u W) (hp:m=i∨gM wt m i):Below w1.heap.size w1 W:=h.old (h.free m hp)
theorem CS.mk' {gh:Nat→Nat→Prop} {L:Nat→Bool} {u:Nat→Value} {W:World} (hcl:∀k d,L k=true→wt k d=true→L d=true) (hv:∀k,k<n→L k=true→∀x,(T.getD k kz).tell=some x→u k=x) (hJ:JR n m Fw w1 T tl gh L u W) (hL:L i=false) (hdep:∀d,wt i d=true→L d=true):CS n m i Fw w1 T tl wt gh L u W:=
 ⟨hJ.old,hJ.fr,fun t ht=>by rcases ht with rfl|ht;exact hL;exact Li hcl ht hL,fun j hw hj x e=>hv j hj (hdep j hw) x e,fun j hw hj ha=>hJ.fact j hj (hdep j hw) ha,fun j hw hj ha=>hJ.foot j hj (hdep j hw) ha,fun j k x hj hk h1 h2 hne a1 a2=>hJ.apart j k x h1 h2 hne (hdep j hj) (hdep k hk) a1 a2⟩
theorem JS.step {Fx:Nat→Prop} {L:Nat→Bool} {u:Nat→Value} {W w':World} {gh:Nat→Nat→Prop} {v:Value} {S:Nat→Prop} (hi:i<n) (hn:L n=false) (hL:L i=false) (hdep:∀d,wt i d=true→L d=true)
  (hv:∀k,k<n→L k=true→∀x,(T.getD k kz).tell=some x→u k=x) (hJ:JR n m Fw w1 T tl gh L u W)
  (hFw:∀x,Fw x→x<w1.heap.size) (hFx:∀x,Fx x→(i=m∧Fw x)) (hf:Fr (fun x=>Fx x∨qO n i tl wt gh x) W w') (hP:(T.getD i kz).P S v w') (hvi:∀x,(T.getD i kz).tell=some x→v=x)
  (hS:∀x,S x→Fx x∨qO n i tl wt gh x∨W.heap.size≤x) (hlt:∀x,S x→x<w'.heap.size):JS n m Fw w1 T tl Pd (dT L i) (iI u i v) w':=by
 have hz:w1.heap.size≤W.heap.size:=hJ.fr.size
 have hlive:∀j,tl.getD j none=some i→eM tl L j:=fun j e t ht=>by rw [e] at ht;cases ht;exact hL
 have heat:∀x,qO n i tl wt gh x→(w1.heap.size≤x∨(Fw x∧L m=true))∧x<W.heap.size:=fun x ⟨j,hw,hj,ht,hg⟩=>hJ.foot j hj (hdep j hw) (hlive j ht) x hg
 -- what another live value has is not touched
 have hsep:∀k,k<n→k≠i→L k=true→eM tl (dT L i) k→∀x,(Fx x∨qO n i tl wt gh x)→zV Fw w1.heap.size x∧¬gh k x:=fun k hk hki hLk ha x hx=>by
  have ha0:=ha.mono
  have hf:=hJ.foot k hk hLk ha0 x
  rcases hx with hx|⟨j,hw,hj,ht,hg⟩
  ·obtain ⟨rfl,hx2⟩:=hFx x hx
   refine ⟨.inl hx2,fun hgk=> ?_⟩
   rcases (hf hgk).1 with h|⟨_,h⟩
   ·have:=hFw x hx2;omega
   ·rw [hL] at h;cases h
  ·refine ⟨?_,fun hgk=>hJ.apart j k x hj hk (fun e=> ?_) (hdep j hw) hLk (hlive j ht) ha0 hg hgk⟩
   ·rcases (heat x ⟨j,hw,hj,ht,hg⟩).1 with h|⟨h,_⟩
    ·exact .inr h
    ·exact .inl h
   ·subst e;exact ha.ne ht
 have hgk:∀k,k≠i→(if k=i then S else gh k)=gh k:=fun k h=>if_neg h
 have hgi:(if i=i then S else gh i)=S:=if_pos rfl
 have hlm:∀x,Fw x→L m=true→dT L i m=true:=fun _ _ h=>gm h
 refine ⟨fun k hk hLk x e=> ?_,fun h=> ?_,fun _=>⟨fun k=>if k=i then S else gh k,fun h=> ?_,?_,fun k hk hLk ha=> ?_,fun k hk hLk ha x hx=> ?_,fun j k x hj hk hne hLj hLk haj hak hgj hgk2=> ?_⟩⟩
 ·by_cases hki:k=i
  ·subst hki;rw [cq];exact hvi x e
  ·rw [dA hki];rw [bO hki] at hLk;exact hv k hk hLk x e
 ·rw [bO (by omega)] at h;rw [hn] at h;cases h
 ·have hm:=lg h
  refine Below.trans (hJ.old hm) (hf.below hz (fun x hx=> ?_))
  rcases hx with hx|hx
  ·obtain ⟨rfl,_⟩:=hFx x hx
   rw [cU] at h;cases h
  ·rcases (heat x hx).1 with h|⟨_,h⟩
   ·exact h
   ·rw [hm] at h;cases h
 ·refine hJ.fr.trans hf (fun x hx=> ?_)
  rcases hx with hx|hx
  ·exact .inl (hFx x hx).2
  ·rcases (heat x hx).1 with h|⟨h,_⟩
   ·exact .inr h
   ·exact .inl h
 ·by_cases hki:k=i
  ·subst hki;simp only [hgi,cq];exact hP
  ·rw [bO hki] at hLk
   simp only [hgk k hki,dA hki]
   exact (T.getD k kz).st _ _ _ _ (hJ.fact k hk hLk ha.mono) (hf.mono (fun x hx=> .inl (hsep k hk hki hLk ha x hx)))
 ·by_cases hki:k=i
  ·subst hki
   simp only [hgi] at hx
   refine ⟨?_,hlt x hx⟩
   rcases hS x hx with h|h|h
   ·obtain ⟨rfl,h2⟩:=hFx x h
    exact .inr ⟨h2,cU _ _⟩
   ·rcases (heat x h).1 with h|⟨h1,h2⟩
    ·exact .inl h
    ·exact .inr ⟨h1,gm h2⟩
   ·exact .inl (by omega)
  ·rw [bO hki] at hLk
   simp only [hgk k hki] at hx
   have h:=hJ.foot k hk hLk ha.mono x hx
   refine ⟨?_,Nat.lt_of_lt_of_le h.2 hf.size⟩
   rcases h.1 with h|⟨h1,h2⟩
   ·exact .inl h
   ·exact .inr ⟨h1,gm h2⟩
 ·have key:∀k,k<n→k≠i→dT L i k=true→eM tl (dT L i) k→S x→gh k x→False:=fun k hk hki hLk ha hSx hg=>by
   rw [bO hki] at hLk
   rcases hS x hSx with h|h|h
   ·exact (hsep k hk hki hLk ha x (.inl h)).2 hg
   ·exact (hsep k hk hki hLk ha x (.inr h)).2 hg
   ·have:=(hJ.foot k hk hLk ha.mono x hg).2;omega
  by_cases hji:j=i
  ·subst hji
   simp only [hgi] at hgj
   rw [hgk k (fun e=>hne e.symm)] at hgk2
   exact key k hk (fun e=>hne e.symm) hLk hak hgj hgk2
  ·rw [hgk j hji] at hgj
   by_cases hki:k=i
   ·subst hki
    simp only [hgi] at hgk2
    exact key j hj hji hLj haj hgk2 hgj
   ·rw [hgk k hki] at hgk2
    rw [bO hji] at hLj;rw [bO hki] at hLk
    exact hJ.apart j k x hj hk hne hLj hLk haj.mono hak.mono hgj hgk2
def Gd (n:Nat) (T:List (FP (zV Fw w1.heap.size))) (ops:Array Oper) (wt:Nat→Nat→Bool) (fr:(Nat→Value)→Array Value) (i:Nat) (o:Oper):Prop:=
 o.guard=none∨∃j b,o.guard=some (j,b)∧wt i j=true∧j<n∧(T.getD j kz).tell=some (.bool b)∧∀u,((ops[j]?).bind (·.dst)).bind ((fr u)[·]?)=some (u j)
theorem Gd.wanted {L:Nat→Bool} {u:Nat→Value} (h:Gd n T ops wt fr i o) (hv:∀k,k<n→L k=true→∀x,(T.getD k kz).tell=some x→u k=x) (hdep:∀d,wt i d=true→L d=true):Region.wanted o (yielded ops (fr u))=true:=by
 rcases h with h|⟨j,b,h1,h2,h3,h4,h5⟩
 ·simp [Region.wanted,h]
 ·have e:=hv j h3 (hdep j h2) _ h4
  simp [Region.wanted,h1,yielded,h5,e]
theorem Wy (hFw:∀x,Fw x→x<w1.heap.size) (hi:i<n) (hp:gM wt n i)
  (hr:∀L u W gh,CS n m i Fw w1 T tl wt gh L u W→∀K:Act→World→Prop,Shut (∀v w' S,Fr (qO n i tl wt gh) W w'→(T.getD i kz).P S v w'→(∀x,(T.getD i kz).tell=some x→v=x)→(∀x,S x→qO n i tl wt gh x∨W.heap.size≤x)→(∀x,S x→x<w'.heap.size)→K ((⟨fr u,df⟩:Act).put o.dst v) w')→Oper.wp Tryz.prog o ⟨fr u,df⟩ W K Q) (hg:Gd n T ops wt fr i o:=by exact Or.inl rfl):
  cY Tryz.prog ops wt Q fr df G0 (JS n m Fw w1 T tl Pd) i o:=by
 intro L u W hcl hJ _ hL hdep K hK
 rw [if_pos (hg.wanted hJ.val hdep)]
 have hn:=Li hcl hp hL
 obtain ⟨gh,hR⟩:=hJ.run hn
 refine hr L u W gh (CS.mk' hcl hJ.val hR hL hdep) K (fun v w' S hf hP hv hS hlt=> ?_)
 exact hK.out v w' (JS.step (Fx:=fun _=>False) hi hn hL hdep hJ.val hR hFw (fun _ h=>h.elim) (hf.mono (fun x h=> .inl (.inr h))) hP hv (fun x h=> .inr (hS x h)) hlt) (fun _ _ _ _ h=>h) trivial
theorem LN (hFw:∀x,Fw x→x<w1.heap.size) (hi:i<n) (hp:gM wt n i)
  (hr:∀L u W gh,CS n m i Fw w1 T tl wt gh L u W→∃v w' S,(execOp (⟨fr u,df⟩:Act).eval o).run Tryz.prog W= .ok (.value v) w'∧Fr (qO n i tl wt gh) W w'∧(T.getD i kz).P S v w'∧(∀x,(T.getD i kz).tell=some x→v=x)∧(∀x,S x→qO n i tl wt gh x∨W.heap.size≤x)∧(∀x,S x→x<w'.heap.size)) (hg:Gd n T ops wt fr i o:=by exact Or.inl rfl):
  cY Tryz.prog ops wt Q fr df G0 (JS n m Fw w1 T tl Pd) i o:=
 Wy hFw hi hp (fun L u W gh hc K hK=>by
  obtain ⟨v,w',S,hrun,h1,h2,h3,h4,h5⟩:=hr L u W gh hc
  unfold Oper.wp
  rw [hrun]
  exact hK.out v w' S h1 h2 h3 h4 h5) hg
theorem rH {x:Value} (hFw:∀x,Fw x→x<w1.heap.size) (hi:i<n) (hp:gM wt n i) (hT:T.getD i kz=kv x)
  (hr:∀L u W gh,CS n m i Fw w1 T tl wt gh L u W→(execOp (⟨fr u,df⟩:Act).eval o).run Tryz.prog W= .ok (.value x) W) (hg:Gd n T ops wt fr i o:=by exact Or.inl rfl):
  cY Tryz.prog ops wt Q fr df G0 (JS n m Fw w1 T tl Pd) i o:=
 LN hFw hi hp (fun L u W gh hc=>⟨x,W,fun _=>False,hr L u W gh hc,Fr.refl _ _,by rw [hT];rfl,fun y e=>by
  rw [hT] at e
  cases e;rfl,fun _ h=>h.elim,fun _ h=>h.elim⟩) hg
theorem YS (hFw:∀x,Fw x→x<w1.heap.size) (hi:i<n) (hp:gM wt n i) (him:i=m)
  (hr:∀L u W gh,CS n m i Fw w1 T tl wt gh L u W→Below w1.heap.size w1 W→∃v w' S,(execOp (⟨fr u,df⟩:Act).eval o).run Tryz.prog W= .ok (.value v) w'∧Fr (fun x=>Fw x∨qO n i tl wt gh x) W w'∧(T.getD i kz).P S v w'∧(∀x,(T.getD i kz).tell=some x→v=x)∧(∀x,S x→Fw x∨qO n i tl wt gh x∨W.heap.size≤x)∧(∀x,S x→x<w'.heap.size)) (hg:Gd n T ops wt fr i o:=by exact Or.inl rfl):
  cY Tryz.prog ops wt Q fr df G0 (JS n m Fw w1 T tl Pd) i o:=by
 intro L u W hcl hJ _ hL hdep K hK
 rw [if_pos (hg.wanted hJ.val hdep)]
 have hn:=Li hcl hp hL
 obtain ⟨gh,hR⟩:=hJ.run hn
 obtain ⟨v,w',S,hrun,h1,h2,h3,h4,h5⟩:=hr L u W gh (CS.mk' hcl hJ.val hR hL hdep) (hR.old (him▸hL))
 unfold Oper.wp
 rw [hrun]
 exact hK.out v w' (JS.step (Fx:=Fw) hi hn hL hdep hJ.val hR hFw (fun _ h=>⟨him,h⟩) h1 h2 h3 h4 h5) (fun _ _ _ _ h=>h) trivial
theorem XH (hr:∀L u W gh,CS n m n Fw w1 T tl wt gh L u W→∃r v w',(execOp (⟨fr u,df⟩:Act).eval o).run Tryz.prog W= .ok r w'∧(r= .skip∧v=undef∨r= .value v)∧Pd v w') (hg:Gd n T ops wt fr n o:=by exact Or.inl rfl):
  cY Tryz.prog ops wt Q fr df G0 (JS n m Fw w1 T tl Pd) n o:=by
 intro L u W hcl hJ _ hL hdep K hK
 rw [if_pos (hg.wanted hJ.val hdep)]
 obtain ⟨gh,hR⟩:=hJ.run hL
 obtain ⟨r,v,w',hrun,hr2,hP⟩:=hr L u W gh (CS.mk' hcl hJ.val hR hL hdep)
 have hJ':JS n m Fw w1 T tl Pd (dT L n) (iI u n v) w':=⟨fun k hk hLk x e=>by rw [bO (by omega)] at hLk;rw [dA (by omega)];exact hJ.val k hk hLk x e,fun _=>by rw [cq];exact hP,fun h=>by rw [cU] at h;cases h⟩
 unfold Oper.wp
 rw [hrun]
 rcases hr2 with ⟨rfl,rfl⟩|rfl
 ·exact hK.out undef w' hJ' (fun _ _ _ _ h=>h) trivial
 ·exact hK.out v w' hJ' (fun _ _ _ _ h=>h) trivial
end
section
variable {F:List Value} {fr:(Nat→Value)→Array Value} {df:List Deferred} {ops:Array Oper} {id:Nat} {Q:Exit→Act→World→Prop} {w:World}
theorem X4 (n m:Nat) (Fw:Nat→Prop) (p:List (Nat×Nat)) (T:List (FP (zV Fw w.heap.size))) (tl:List (Option Nat)) (Pd:Value→World→Prop)
  (hsteps:dP Tryz.prog ops (fM .any ops) Q fr df G0 (JS n m Fw w T tl Pd) 0 ops.toList)
  (hdone:∀u W,Pd (u n) W→(∀k,k<n→∀x,(T.getD k kz).tell=some x→u k=x)→Q .normal ⟨fr u,df⟩ W)
  (hF:∀u,(oA F p u).toArray=fr u:=by intro u;dsimp only [oA];try exact rfl)
  (hc:LP p ops=true:=by kernel_rfl) (hn:ops.size=n+1:=by kernel_rfl) (hm:Tryz.prog.follows .mixedOrders=true:=by kernel_rfl) (he:fh .any ops=true:=by kernel_rfl):(Code.region id ops true).wp Tryz.prog Q ⟨F.toArray,df⟩ w:=by
 obtain ⟨u0,hu⟩:=jy p F (by simp only [LP,Bool.and_eq_true] at hc;exact hc.1)
 have h0:JS n m Fw w T tl Pd (fun _=>false) u0 w.drew:=⟨fun _ _ h=>(by cases h),fun h=>(by cases h),fun _=>⟨fun _ _=>False,fun _=>(Below.refl _ _).drew,(Fr.refl _ _).drew,fun _ _ h=>(by cases h),fun _ _ h=>(by cases h),fun _ _ _ _ _ _ h=>(by cases h)⟩⟩
 exact fa (a:=⟨F.toArray,df⟩) fr G0 (JS n m Fw w T tl Pd) u0 hm he (nW hc hF) (by rw [←hF,hu]) h0 OO (fun _=>hsteps)
  (fun L u W hall hJ _=>hdone u W (hJ.done (hall n (by omega))) (fun k hk x e=>hJ.val k hk (hall k (by omega)) x e))
end
end Go.Proofs.YtknlbpjcjdenbaaGreat
namespace Go.Proofs.YtknlbpjcjdenbaaGreat
open Go Go.RowKit Go.Maps
set_option linter.unusedVariables false
theorem mS {o:Oper} {a:Act} {w:World} {b q:Nat} {x:Operand} {cs:List Value} (ho:o.op= .load 32 x) (ha:a.eval x= .pointer (some ⟨b,q,none⟩)) (hr:w.rangeAt b q cs) (hl:cs.length=11):(execOp a.eval o).run Tryz.prog w= .ok (.value (.agg cs.toArray)) w:=by
 unfold execOp
 simp only [ho,ha,Sem.run_bind,run_loadAt_mid w b q 32 cs _ hr Tryz.underlying32 rfl (by rw [aN,hl]),Result.andThen_ok,Sem.run_pure]
theorem aj.rng {w:World} {g E:Nat} {cs:List Value} (h:aj w g cs E):w.rangeAt g 0 cs:=fun j v hv=>by rw [Nat.zero_add,h.cell];exact hv
theorem cJ.below {A:Nat→Prop} {w w':World} {B:Bn} {v:Value} (h:cJ A w B v) (hb:Below w.heap.size w w'):cJ A w' B v:=h.later fun g hg ha=>⟨hb.block g hg,ha⟩
theorem oN {o:Oper} {a:Act} {w:World} {x y z:Operand} {ds:List Value} {mo mk:Nat} (ho:o.op= .build 68 #[(0,x),(1,.const (.slice none 0 0)),(2,y),(3,z)]) (hx:a.eval x= .agg ds.toArray) (hl:ds.length=11) (hy:a.eval y= .map (some mo)) (hz:a.eval z= .map (some mk)):(execOp a.eval o).run Tryz.prog w= .ok (.value (.agg (ds++ [Value.slice none 0 0,.map (some mo),.map (some mk)]).toArray)) w:=by
 obtain ⟨d0,d1,d2,d3,d4,d5,d6,d7,d8,d9,da,rfl⟩:∃d0 d1 d2 d3 d4 d5 d6 d7 d8 d9 da,ds= [d0,d1,d2,d3,d4,d5,d6,d7,d8,d9,da]:=by
  rcases ds with _|⟨d0,_|⟨d1,_|⟨d2,_|⟨d3,_|⟨d4,_|⟨d5,_|⟨d6,_|⟨d7,_|⟨d8,_|⟨d9,_|⟨da,_|⟨db,r⟩⟩⟩⟩⟩⟩⟩⟩⟩⟩⟩⟩<;>first |exact ⟨_,_,_,_,_,_,_,_,_,_,_,rfl⟩|(simp at hl;done)|(simp at hl;omega)
 have h:(Instr.build 68 #[(0,Value.agg #[d0,d1,d2,d3,d4,d5,d6,d7,d8,d9,da]),(1,.slice none 0 0),(2,.map (some mo)),(3,.map (some mk))]).run Tryz.prog w= .ok (.agg #[d0,d1,d2,d3,d4,d5,d6,d7,d8,d9,da,.slice none 0 0,.map (some mo),.map (some mk)]) w:=run_build w 68 _ _ (by kernel_rfl)
 unfold execOp
 simp only [ho,List.map_toArray,List.map_cons,List.map_nil,hx,hy,hz,show a.eval (.const (.slice none 0 0))= .slice none 0 0 from rfl]
 rw [Sem.run_bind,h]
 rfl
theorem zu {o:Oper} {a:Act} {w:World} {x:Operand} {cs:List Value} (ho:o.op= .box 68 x) (hx:a.eval x= .agg cs.toArray):(execOp a.eval o).run Tryz.prog w= .ok (.value (.pointer (some ⟨w.heap.size,0,none⟩))) (w.alloc (.cells cs.toArray 68)):=by
 unfold execOp
 simp only [ho,hx,Instr.box,newVar,newRow,newObj]
 rfl
theorem jG {A:Nat→Prop} {w w':World} {B:Bn} {cs:List Value} {b:Nat} (h:cJ A w B (.agg cs.toArray)) (hb:aj w' b cs 32):w'.cell? ⟨b,4,none⟩=some (.int .i64 B.onceId)∧w'.cell? ⟨b,6,none⟩=some (.int .i64 B.kemId):=by
 obtain ⟨v0,v1,v2,v3,v5,v7,v8,e,_⟩:=et h
 obtain rfl:cs= [v0,v1,v2,v3,.int .i64 B.onceId,v5,.int .i64 B.kemId,v7,v8,.bool B.last,.int .i64 B.version]:=congrArg Array.toList (by injection e)
 exact ⟨by rw [hb.cell];rfl,by rw [hb.cell];rfl⟩
theorem sR {o:Oper} {a:Act} {w w':World} {t:Nat} {x y z:Operand} {m k v:Value} (ho:o.op= .mapUpdate t x y z) (hx:a.eval x=m) (hy:a.eval y=k) (hz:a.eval z=v) (h:(Instr.mapUpdate t m k v).run Tryz.prog w= .ok () w'):(execOp a.eval o).run Tryz.prog w= .ok .skip w':=by
 unfold execOp
 simp only [ho,hx,hy,hz,Sem.run_bind,h,Result.andThen_ok,Sem.run_pure]
section
variable {Z:Nat→Prop}
def Xz (B:Bn):FP Z:=⟨none,fun S v w=>cJ S w B v,fun S v w w' h hf=>h.later fun g hg ha=>⟨hf.block g hg (fun h=>h.2 ha),ha⟩⟩
def Wx:FP Z:=⟨none,fun S v w=>∃x,v= .map (some x)∧S x∧MI w x 0 (.map []),fun S v w w' ⟨x,h1,h2,h3⟩ hf=>⟨x,h1,h2,am h3 (hf.block x h3.lt (fun h=>h.2 h2)) (Nat.le_refl _)⟩⟩
def Vo (B:Bn):FP Z:=⟨none,fun S v w=>∃ds mo mk,v= .agg (ds++ [Value.slice none 0 0,.map (some mo),.map (some mk)]).toArray∧cJ (fun x=>S x∧x≠mo∧x≠mk) w B (.agg ds.toArray)∧S mo∧S mk∧mo≠mk∧MI w mo 0 (.map [])∧MI w mk 0 (.map []),fun S v w w' ⟨ds,mo,mk,h1,h2,h3,h4,h5,h6,h7⟩ hf=>⟨ds,mo,mk,h1,h2.later fun g hg ha=>⟨hf.block g hg (fun h=>h.2 ha.1),ha⟩,h3,h4,h5,am h6 (hf.block mo h6.lt (fun h=>h.2 h3)) (Nat.le_refl _),am h7 (hf.block mk h7.lt (fun h=>h.2 h4)) (Nat.le_refl _)⟩⟩
def Yn (B:Bn):FP Z:=⟨none,fun S v w=>∃b ds mo mk,v= .pointer (some ⟨b,0,none⟩)∧S b∧aj w b (ds++ [Value.slice none 0 0,.map (some mo),.map (some mk)]) 68∧cJ (fun x=>S x∧x≠mo∧x≠mk∧x≠b) w B (.agg ds.toArray)∧S mo∧S mk∧mo≠mk∧b≠mo∧b≠mk∧MI w mo 0 (.map [])∧MI w mk 0 (.map []),fun S v w w' ⟨b,ds,mo,mk,h0,hb,hB,h2,h3,h4,h5,n1,n2,h6,h7⟩ hf=>⟨b,ds,mo,mk,h0,hb,(hf.block b hB.lt (fun h=>h.2 hb)).trans hB,h2.later fun g hg ha=>⟨hf.block g hg (fun h=>h.2 ha.1),ha⟩,h3,h4,h5,n1,n2,am h6 (hf.block mo h6.lt (fun h=>h.2 h3)) (Nat.le_refl _),am h7 (hf.block mk h7.lt (fun h=>h.2 h4)) (Nat.le_refl _)⟩⟩
end
set_option maxHeartbeats 4000000 in
theorem qz (s:ByteArray) (hm:s.size≤1000) (hb:bl s=true) {w:World} {A:Nat→Prop} {g:Nat} {B:Bn} {cs:List Value} (hg:aj w g [.map none] 60) (hB:cJ A w B (.agg cs.toArray)) (h1:B.onceId=0) (h2:B.kemId=0) (h3:aX B 1=0) (hs:B.small) (hAg:¬A g):
  Calls Tryz.prog 10 #[.pointer (some ⟨g,0,none⟩),.string s,.agg cs.toArray] w fun r w'=>r= .returned (.int .i64 0)∧∃b ds mo mk mb,∃S:Nat→Prop,aj w' g [.map (some mb)] 60∧w'.ownsMap Tryz.prog 9 hP mb 1 (DataW.put (.map []) (.string s.data.toList) (.held (.pointer (some ⟨b,0,none⟩))))∧aj w' b (ds++ [.slice none 0 0,.map (some mo),.map (some mk)]) 68∧cJ (fun x=>S x∧x≠mo∧x≠mk∧x≠b) w' B (.agg ds.toArray)∧S b∧S mo∧S mk∧mo≠mk∧b≠mo∧b≠mk∧MI w' mo 0 (.map [])∧MI w' mk 0 (.map [])∧(∀x,S x→w.heap.size≤x∧x≠mb)∧w.heap.size≤mb∧Fr (fun x=>x=g) w w':=by
 have hlen:=aV hB
 have HBV:=Lib.hid hB
 have HM:=Lib.hid hm
 have HNB:=Lib.hid hb
 have HG:=Lib.hid hg
 have HV:=Lib.hid h3
 have HS:=Lib.hid hs
 have HLEN:=Lib.hid hlen
 have hgl:=hg.lt
 have HAG:=Lib.hid hAg
 clear hAg
 obtain ⟨wa,hwa⟩:∃wa,wa=w.alloc (.cells cs.toArray 32):=⟨_,rfl⟩
 have hba:Below w.heap.size w wa:=by rw [hwa];exact Below.alloc' (Below.refl _ _) _
 have hPB:aj wa w.heap.size cs 32:=by rw [hwa];exact aj.new w _ _
 obtain ⟨hc4,hc6⟩:=jG hB hPB
 rw [h1] at hc4
 rw [h2] at hc6
 have HPB:=Lib.hid hPB
 have HBA:=Lib.hid hba
 have HWA:=Lib.hid hwa
 have hrg:=hPB.rng
 clear hm hb hg hB hs hlen h1 h2 h3 hba hPB
 go_enter Tryz.func10,Tryz.ntmps10
 go_upto_region 1 with fail
 rw [←hwa]
 clear hwa
 go_upto_region 4 with (first|(go_at_call 20;go_must (refine (cV s HM.out _).mono ?_;rintro r w1 ⟨rfl,rfl⟩;rw [HNB.out]))|(refine wpList_load_mid rfl 32 (.tmp 5) rfl w.heap.size 0 rfl cs _ hrg Tryz.underlying32 rfl (by rw [aN,HLEN.out]) ?_)|(go_at_call 25;go_must (refine (lq (HBV.out.below HBA.out) 1).mono ?_;rintro r w1 ⟨rfl,hb1⟩;rw [HV.out];have HB1:=Lib.hid hb1;clear hb1)))
 have hG1:aj w1 g [.map none] 60:=(HG.out.below' HBA.out).below' HB1.out
 have hcg:=hG1.cell 0
 have hfg:=hG1.frozen 0
 have hlk:(Instr.lookup 58 (.map none) (.string s) false).run Tryz.prog w1= .ok (.pointer none) w1:=by
  simpa using Maps.look_nil (w:=w1) false Jw Tryz.underlying58 (Ih w1) (H6 s HM.out)
 have hln:=fun ty=>Maps.len_nil (w:=w1) Tryz.underlying58 ty
 have hmm:= @run_makeMap Tryz.prog
 have heq:∀w,(binOp .eql 58 (.map none) (.map none)).run Tryz.prog w= .ok (.bool true) w:=fun w=>run_eql_map_nil w 58 9 64 none Tryz.underlying58
 have hcg2:=(hG1.alloc (.map #[] 0)).cell 0
 have hfg2:=(hG1.alloc (.map #[] 0)).frozen 0
 have HG1:=Lib.hid hG1
 clear hG1
 go_upto_region 21 with fail
 refine dt (fun W=>aj W g [.map (some w1.heap.size)] 60∧W.ownsMap Tryz.prog 9 hP w1.heap.size 0 (.map [])∧aj W w.heap.size cs 32∧cJ A W B (.agg cs.toArray)∧Fr (fun x=>x=g) w W) ⟨?_,?_,?_,?_,?_⟩ (fun w0 ⟨hT,hMp,hP0,hV0,hF0⟩=> ?_)
 ·have:=(HG1.out.alloc (.map #[] 0)).set 0 (.map (some w1.heap.size))
  exact this
 ·exact (World.ownsMap_made w1 Tryz.prog 9 hP).setCell (by show w1.heap.size≠g;have:=HG1.out.lt;omega) _
 ·exact ((HPB.out.below' HB1.out).alloc _).other _ (by show g≠w.heap.size;omega) _
 ·refine (HBV.out.below HBA.out).later fun x hx ha=>⟨?_,ha⟩
  have hn:x≠g:=fun e=>HAG.out (e▸ha)
  exact ((Below.heap_setCell _ ⟨g,0,none⟩ _ x hn).trans (heap_alloc_old w1 _ (Nat.lt_of_lt_of_le hx HB1.out.size))).trans (HB1.out.block x hx)
 ·exact (((Fr.of_below (F:=fun x=>x=g) HBA.out).call HB1.out).alloc _).setCell (.inl rfl) _
 obtain ⟨mb,hmb⟩:∃mb,mb=w1.heap.size:=⟨_,rfl⟩
 obtain ⟨m,hm0⟩:∃m:Nat,m=0:=⟨_,rfl⟩
 obtain ⟨D,hD⟩:∃D:DataW Value,D= .map []:=⟨_,rfl⟩
 rw [←hmb] at hT hMp
 rw [←hD,←hm0] at hMp
 have HTOP:=Lib.hid hT
 have HMAP:=Lib.hid hMp
 have HPB2:=Lib.hid hP0
 have HBV2:=Lib.hid hV0
 have HF0:=Lib.hid hF0
 have HN:=Lib.hid (show m<maxLen by subst hm0;unfold maxLen;omega)
 have HSM:=Lib.hid HM.out
 have HMB:=Lib.hid hmb
 have HM0:=Lib.hid hm0
 have HD:=Lib.hid hD
 rw [←hmb]
 clear hT hMp hP0 hV0 hF0 hmb hm0 hD hcg hfg hcg2 hfg2 hlk hln hmm heq hc4 hc6 hrg HPB HBV
 obtain ⟨pb,hpb⟩:∃pb,pb=w.heap.size:=⟨_,rfl⟩
 have HPB:Hid (aj w0 pb cs 32):=Lib.hid (by rw [hpb];exact HPB2.out)
 rw [←hpb]
 have HPBE:=Lib.hid hpb
 have HBV:=HBV2
 clear hpb HPB2 HBV2
 refine X4 11 11 (fun _=>False) [(85,0),(0,1),(0,2),(0,3),(0,4),(0,5),(0,6),(0,7),(0,8),(0,9),(0,10)] [kv (.pointer (some ⟨g,0,none⟩)),kv (.pointer (some ⟨g,0,none⟩)),kv (.pointer (some ⟨g,0,none⟩)),kv (.map (some mb)),kv (.string s),kv (.agg cs.toArray),(Xz B),(Wx),(Wx),(Vo B),(Yn B)] [none,none,none,none,none,none,some 9,some 9,some 9,some 10,none] (fun _ W=>∃b ds mo mk,∃S:Nat→Prop,W.ownsMap Tryz.prog 9 hP mb (m+1) (D.put (.string s.data.toList) (.held (.pointer (some ⟨b,0,none⟩))))∧aj W b (ds++ [Value.slice none 0 0,.map (some mo),.map (some mk)]) 68∧cJ (fun x=>S x∧x≠mo∧x≠mk∧x≠b) W B (.agg ds.toArray)∧S b∧S mo∧S mk∧mo≠mk∧b≠mo∧b≠mk∧MI W mo 0 (.map [])∧MI W mk 0 (.map [])∧(∀x,S x→w0.heap.size≤x)∧Fr (fun x=>x=mb) w0 W) ?_ (fun u6 W6 hPd hv=> ?_)
 ·refine ⟨?_,?_,?_,?_,?_,?_,?_,?_,?_,?_,?_,?_,trivial⟩
  ·refine rH (fun _ h=>h.elim) (by omega) (.one (by kernel_rfl)) (by rfl) (fun L u W gh hc=> ?_)
   have hb:=hc.before (.inr (.one (by kernel_rfl)))
   go_simp
  ·refine rH (fun _ h=>h.elim) (by omega) (.one (by kernel_rfl)) (by rfl) (fun L u W gh hc=> ?_)
   have e0:u 0= .pointer (some ⟨g,0,none⟩):=hc.val 0 (by kernel_rfl) (by omega) _ rfl
   have hb:=hc.before (.inr (.one (by kernel_rfl)))
   go_simp
  ·refine rH (fun _ h=>h.elim) (by omega) (.one (by kernel_rfl)) (by rfl) (fun L u W gh hc=> ?_)
   have e1:u 1= .pointer (some ⟨g,0,none⟩):=hc.val 1 (by kernel_rfl) (by omega) _ rfl
   have hb:=hc.before (.inr (.one (by kernel_rfl)))
   go_simp
  ·refine rH (fun _ h=>h.elim) (by omega) (.one (by kernel_rfl)) (by rfl) (fun L u W gh hc=> ?_)
   have e2:u 2= .pointer (some ⟨g,0,none⟩):=hc.val 2 (by kernel_rfl) (by omega) _ rfl
   have hb:=hc.before (.inr (.one (by kernel_rfl)))
   have hcx:W.cell? ⟨g,0,none⟩=some (.map (some mb)):=(HTOP.out.below' hb).cell 0
   go_simp
  ·refine rH (fun _ h=>h.elim) (by omega) (.one (by kernel_rfl)) (by rfl) (fun L u W gh hc=> ?_)
   have hb:=hc.before (.inr (.one (by kernel_rfl)))
   go_simp
  ·refine rH (fun _ h=>h.elim) (by omega) (.one (by kernel_rfl)) (by rfl) (fun L u W gh hc=> ?_)
   have hb:=hc.before (.inr (.one (by kernel_rfl)))
   exact mS rfl rfl ((HPB.out.below' hb).rng) HLEN.out
  ·refine Wy (fun _ h=>h.elim) (by omega) (.one (by kernel_rfl)) (fun L u W gh hc K hK=> ?_)
   have e5:u 5= .agg cs.toArray:=hc.val 5 (by kernel_rfl) (by omega) _ rfl
   have hb:=hc.before (.inr (.one (by kernel_rfl)))
   have hb:=hc.before (.inr (.one (by kernel_rfl)))
   go_simp
   go_at_call 27
   refine (gU (HBV.out.below hb) HS.out).mono ?_
   rintro r w6 ⟨v6,rfl,hb6,hv6⟩
   have hk9:=hK.out v6 w6 (fun x=>W.heap.size≤x∧x<w6.heap.size) (Fr.of_below hb6) (hv6.later fun x hx ha=>⟨rfl,ha,hx⟩) (fun x e=>(by cases e)) (fun x hx=> .inr hx.1) (fun x hx=>hx.2)
   first |exact hk9|(simp only [e5] at hk9;exact hk9)
  ·refine LN (fun _ h=>h.elim) (by omega) (.one (by kernel_rfl)) (fun L u W gh hc=> ?_)
   have hb:=hc.before (.inr (.one (by kernel_rfl)))
   exact ⟨_,_,fun x=>x=W.heap.size,by rfl,(Fr.refl _ _).alloc _,⟨W.heap.size,rfl,rfl,World.ownsMap_made W Tryz.prog 3 _⟩,fun x e=>(by cases e),fun x hx=> .inr (Nat.le_of_eq hx.symm),fun x hx=>by have hx:x=W.heap.size:=hx;subst hx;simp⟩
  ·refine LN (fun _ h=>h.elim) (by omega) (.one (by kernel_rfl)) (fun L u W gh hc=> ?_)
   have hb:=hc.before (.inr (.one (by kernel_rfl)))
   exact ⟨_,_,fun x=>x=W.heap.size,by rfl,(Fr.refl _ _).alloc _,⟨W.heap.size,rfl,rfl,World.ownsMap_made W Tryz.prog 3 _⟩,fun x e=>(by cases e),fun x hx=> .inr (Nat.le_of_eq hx.symm),fun x hx=>by have hx:x=W.heap.size:=hx;subst hx;simp⟩
  ·refine LN (fun _ h=>h.elim) (by omega) (.one (by kernel_rfl)) (fun L u W gh hc=> ?_)
   have t6:=hc.fact 6 (by kernel_rfl) (by omega) (fun t ht=>by cases ht;exact hc.free _ (.inl rfl))
   have f6:=hc.foot 6 (by kernel_rfl) (by omega) (fun t ht=>by cases ht;exact hc.free _ (.inl rfl))
   have t7:=hc.fact 7 (by kernel_rfl) (by omega) (fun t ht=>by cases ht;exact hc.free _ (.inl rfl))
   have f7:=hc.foot 7 (by kernel_rfl) (by omega) (fun t ht=>by cases ht;exact hc.free _ (.inl rfl))
   have t8:=hc.fact 8 (by kernel_rfl) (by omega) (fun t ht=>by cases ht;exact hc.free _ (.inl rfl))
   have f8:=hc.foot 8 (by kernel_rfl) (by omega) (fun t ht=>by cases ht;exact hc.free _ (.inl rfl))
   have hb:=hc.before (.inr (.one (by kernel_rfl)))
   obtain ⟨mo,e7,s7,o7⟩:=t7
   obtain ⟨mk,e8,s8,o8⟩:=t8
   obtain ⟨ds,e6⟩:∃ds:List Value,u 6= .agg ds.toArray:=by obtain ⟨ds,e6,_⟩:=t6;exact ⟨ds,e6⟩
   rw [e6] at t6
   have lv:∀j,j=6∨j=7∨j=8→eM [none,none,none,none,none,none,some 9,some 9,some 9,some 10,none] L j:=fun j hj t ht=>by rcases hj with rfl|rfl|rfl<;>(cases ht;exact hc.free _ (.inl rfl))
   have h67:∀x,gh 6 x→x≠mo:=fun x ha e=>hc.apart 6 7 x (by kernel_rfl) (by kernel_rfl) (by omega) (by omega) (by decide) (lv 6 (.inl rfl)) (lv 7 (.inr (.inl rfl))) ha (e▸s7)
   have h68:∀x,gh 6 x→x≠mk:=fun x ha e=>hc.apart 6 8 x (by kernel_rfl) (by kernel_rfl) (by omega) (by omega) (by decide) (lv 6 (.inl rfl)) (lv 8 (.inr (.inr rfl))) ha (e▸s8)
   have h78:mo≠mk:=fun e=>hc.apart 7 8 mo (by kernel_rfl) (by kernel_rfl) (by omega) (by omega) (by decide) (lv 7 (.inr (.inl rfl))) (lv 8 (.inr (.inr rfl))) s7 (e▸s8)
   refine ⟨_,W,fun x=>gh 6 x∨gh 7 x∨gh 8 x,oN rfl e6 (aV t6) e7 e8,Fr.refl _ _,⟨ds,mo,mk,rfl,t6.later fun x hx ha=>⟨rfl,.inl ha,h67 x ha,h68 x ha⟩,.inr (.inl s7),.inr (.inr s8),h78,o7,o8⟩,fun x e=>(by cases e),fun x hx=> .inl ?_,fun x hx=> ?_⟩
   ·rcases hx with h|h|h
    ·exact ⟨6,by kernel_rfl,by omega,rfl,h⟩
    ·exact ⟨7,by kernel_rfl,by omega,rfl,h⟩
    ·exact ⟨8,by kernel_rfl,by omega,rfl,h⟩
   ·rcases hx with h|h|h
    ·exact (f6 x h).2
    ·exact (f7 x h).2
    ·exact (f8 x h).2
  ·refine LN (fun _ h=>h.elim) (by omega) (.one (by kernel_rfl)) (fun L u W gh hc=> ?_)
   have t9:=hc.fact 9 (by kernel_rfl) (by omega) (fun t ht=>by cases ht;exact hc.free _ (.inl rfl))
   have f9:=hc.foot 9 (by kernel_rfl) (by omega) (fun t ht=>by cases ht;exact hc.free _ (.inl rfl))
   have hb:=hc.before (.inr (.one (by kernel_rfl)))
   obtain ⟨ds,mo,mk,e9,hb9,s1,s2,hne,o1,o2⟩:=t9
   have fm:=fun x h=>(f9 x h).2
   have al:=(Fr.refl (fun _=>False) W).alloc (.cells (ds++ [Value.slice none 0 0,.map (some mo),.map (some mk)]).toArray 68)
   refine ⟨_,_,fun x=>gh 9 x∨x=W.heap.size,zu rfl e9,(Fr.refl _ _).alloc _,⟨W.heap.size,ds,mo,mk,rfl,.inr rfl,aj.new W _ _,hb9.later fun x hx ha=>⟨al.block x hx (fun h=>h),.inl ha.1,ha.2.1,ha.2.2,by omega⟩,.inl s1,.inl s2,hne,by have:=fm mo s1;omega,by have:=fm mk s2;omega,o1.alloc _,o2.alloc _⟩,fun x e=>(by cases e),fun x hx=> ?_,fun x hx=> ?_⟩
   ·rcases hx with h|h
    ·exact .inl ⟨9,by kernel_rfl,by omega,rfl,h⟩
    ·exact .inr (Nat.le_of_eq h.symm)
   ·rcases hx with h|rfl
    ·have:=fm x h;simp;omega
    ·simp
  ·refine XH fun L u W gh hc=> ?_
   have e0:u 0= .pointer (some ⟨g,0,none⟩):=hc.val 0 (by kernel_rfl) (by omega) _ rfl
   have e1:u 1= .pointer (some ⟨g,0,none⟩):=hc.val 1 (by kernel_rfl) (by omega) _ rfl
   have e2:u 2= .pointer (some ⟨g,0,none⟩):=hc.val 2 (by kernel_rfl) (by omega) _ rfl
   have e3:u 3= .map (some mb):=hc.val 3 (by kernel_rfl) (by omega) _ rfl
   have e4:u 4= .string s:=hc.val 4 (by kernel_rfl) (by omega) _ rfl
   have e5:u 5= .agg cs.toArray:=hc.val 5 (by kernel_rfl) (by omega) _ rfl
   have t10:=hc.fact 10 (by kernel_rfl) (by omega) (fun t ht=>by cases ht)
   have f10:=hc.foot 10 (by kernel_rfl) (by omega) (fun t ht=>by cases ht)
   have hb:=hc.before (.inl rfl)
   obtain ⟨b,ds,mo,mk,e10,sb,hb10,hv10,s1,s2,hne,n1,n2,o1,o2⟩:=t10
   have hbw:=hc.old (hc.free 11 (.inl rfl))
   have hfoot:=fun x h=>(f10 x h)
   obtain ⟨w9,hr9,ho9,hg9⟩:=(am HMAP.out (hbw.block mb HMAP.out.lt) (Nat.le_refl _)).update Jw Tryz.underlying58 HN.out (H6 s HSM.out) (val:= .pointer (some ⟨b,0,none⟩)) (d:= .held (.pointer (some ⟨b,0,none⟩))) (ps:= []) rfl
   have h9:∀x,x<W.heap.size→x≠mb→w9.heap[x]?=W.heap[x]?:=fun x hx hn=>hg9.block x hx (fun e=>hn (by injection e))
   have hge:∀x,gh 10 x→w0.heap.size≤x∧x<W.heap.size:=fun x h=>⟨by rcases (f10 x h).1 with h1|⟨h1,_⟩;exact h1;exact h1.elim,(f10 x h).2⟩
   have hmb:∀x,gh 10 x→x≠mb:=fun x h e=>by have:=(hge x h).1;have:=HMAP.out.lt;omega
   refine ⟨_,_,w9,sR rfl e3 e4 e10 hr9,.inl ⟨rfl,rfl⟩,b,ds,mo,mk,gh 10,ho9,(h9 b (hge b sb).2 (hmb b sb)).trans hb10,hv10.later fun x hx ha=>⟨h9 x hx (hmb x ha.1),ha⟩,sb,s1,s2,hne,n1,n2,am o1 (h9 mo (hge mo s1).2 (hmb mo s1)) (Nat.le_refl _),am o2 (h9 mk (hge mk s2).2 (hmb mk s2)) (Nat.le_refl _),fun x hx=>(hge x hx).1,?_⟩
   exact (Fr.of_below hbw).trans (F':=fun x=>x=mb) ⟨hg9.os,hg9.tape,hg9.output,hg9.size,fun x hx hn=>h9 x hx hn⟩ (fun x hx=> .inl hx)
 obtain ⟨b,ds,mo,mk,S,k1,k2,k3,sb,s1,s2,hne,n1,n2,o1,o2,hS,hf6⟩:=hPd
 have hmbw:mb<w0.heap.size:=HMAP.out.lt
 have hsz:w.heap.size≤w0.heap.size:=HF0.out.size
 have hgm:g≠mb:=fun e=>by have h1:=HMB.out;have h2:=HBA.out.size;have h3:=HB1.out.size;omega
 have HG6:Hid (aj W6 g [.map (some mb)] 60):=Lib.hid ((hf6.block g HTOP.out.lt hgm).trans HTOP.out)
 have HF6:Hid (Fr (fun x=>x=g) w W6):=Lib.hid (HF0.out.trans hf6 fun x hx=> .inr (by have hx:x=mb:=hx;have h1:=HMB.out;have h2:=HBA.out.size;have h3:=HB1.out.size;omega))
 have K1:=Lib.hid k1
 have K2:=Lib.hid k2
 have K3:=Lib.hid k3
 have HSS:Hid (∀x,S x→w.heap.size≤x∧x≠mb):=Lib.hid fun x hx=>⟨Nat.le_trans hsz (hS x hx),fun e=>by have:=hS x hx;omega⟩
 have HWB:Hid (w.heap.size≤mb):=Lib.hid (by have h1:=HMB.out;have h2:=HBA.out.size;have h3:=HB1.out.size;omega)
 clear k1 k2 k3 hf6 hS hv
 go_wp2
 go_ret
 have k1:=K1.out
 have h0:=HM0.out
 have h1:=HD.out
 subst h0 h1
 exact ⟨rfl,b,ds,mo,mk,mb,S,HG6.out,k1,K2.out,K3.out,sb,s1,s2,hne,n1,n2,o1,o2,HSS.out,HWB.out,HF6.out⟩
end Go.Proofs.YtknlbpjcjdenbaaGreat
namespace Go.Proofs.YtknlbpjcjdenbaaGreat
open Go Go.RowKit
def XJ:Nat→TE:=oV [(68,⟨.st [(0,32),(11,49),(12,66),(13,66)],14,[.cv (.slice none 0 0),.cv (.slice none 0 0),.cv (.slice none 0 0),.cv (.slice none 0 0),.ob .int (Kd.df .int),.cv (.slice none 0 0),.ob .int (Kd.df .int),.cv (.slice none 0 0),.cv (.slice none 0 0),.ob .bool (Kd.df .bool),.ob .int (Kd.df .int),.cv (.slice none 0 0),.cv (.map none),.cv (.map none)]⟩),(64,⟨.ptr,1,[.cv (.pointer none)]⟩),(28,⟨.k .int,1,[.ob .int (Kd.df .int)]⟩),(32,⟨.st [(0,30),(1,30),(2,30),(3,30),(4,3),(5,30),(6,3),(7,30),(8,30),(9,4),(10,3)],11,[.cv (.slice none 0 0),.cv (.slice none 0 0),.cv (.slice none 0 0),.cv (.slice none 0 0),.ob .int (Kd.df .int),.cv (.slice none 0 0),.ob .int (Kd.df .int),.cv (.slice none 0 0),.cv (.slice none 0 0),.ob .bool (Kd.df .bool),.ob .int (Kd.df .int)]⟩),(49,⟨.sl 32,1,[.cv (.slice none 0 0)]⟩),(66,⟨.fn,1,[.cv (.map none)]⟩),(30,⟨.sl 5,1,[.cv (.slice none 0 0)]⟩),(3,⟨.k .int,1,[.ob .int (Kd.df .int)]⟩),(4,⟨.k .bool,1,[.ob .bool (Kd.df .bool)]⟩),(5,⟨.k .u8,1,[.ob .u8 (Kd.df .u8)]⟩)]
theorem UO:bk XJ:=xt fun p hp=>by
 rcases List.mem_cons.1 hp with rfl|hp
 ·exact fN (cells:= [.slice none 0 0]++([.slice none 0 0]++([.slice none 0 0]++([.slice none 0 0]++([.int .i64 0]++([.slice none 0 0]++([.int .i64 0]++([.slice none 0 0]++([.slice none 0 0]++([.bool false]++([.int .i64 0]++([.slice none 0 0]++([.map none]++([.map none]++([]:List Value))))))))))))))) (bytes:=240) (by kernel_rfl) Tryz.underlying68 ⟨_,rfl,rfl⟩ (fun η A w=>⟨[.slice none 0 0],_,rfl,⟨rfl,rfl⟩,⟨[.slice none 0 0],_,rfl,⟨rfl,rfl⟩,⟨[.slice none 0 0],_,rfl,⟨rfl,rfl⟩,⟨[.slice none 0 0],_,rfl,⟨rfl,rfl⟩,⟨[.int .i64 0],_,rfl,rfl,⟨[.slice none 0 0],_,rfl,⟨rfl,rfl⟩,⟨[.int .i64 0],_,rfl,rfl,⟨[.slice none 0 0],_,rfl,⟨rfl,rfl⟩,⟨[.slice none 0 0],_,rfl,⟨rfl,rfl⟩,⟨[.bool false],_,rfl,rfl,⟨[.int .i64 0],_,rfl,rfl,⟨[.slice none 0 0],_,rfl,⟨rfl,rfl⟩,⟨[.map none],_,rfl,⟨rfl,rfl⟩,⟨[.map none],_,rfl,⟨rfl,rfl⟩,rfl⟩⟩⟩⟩⟩⟩⟩⟩⟩⟩⟩⟩⟩⟩) rfl (fun k h=>by cases h) rfl (by decide)
 rcases List.mem_cons.1 hp with rfl|hp
 ·exact nl (by kernel_rfl) Tryz.underlying64 (bytes:=8) (by decide)
 rcases List.mem_cons.1 hp with rfl|hp
 ·exact eo (k:= .int) rfl rfl rfl (by kernel_rfl) Tryz.underlying28 (bytes:=8) (by decide)
 rcases List.mem_cons.1 hp with rfl|hp
 ·exact fN (cells:= [.slice none 0 0]++([.slice none 0 0]++([.slice none 0 0]++([.slice none 0 0]++([.int .i64 0]++([.slice none 0 0]++([.int .i64 0]++([.slice none 0 0]++([.slice none 0 0]++([.bool false]++([.int .i64 0]++([]:List Value)))))))))))) (bytes:=200) (by kernel_rfl) Tryz.underlying32 ⟨_,rfl,rfl⟩ (fun η A w=>⟨[.slice none 0 0],_,rfl,⟨rfl,rfl⟩,⟨[.slice none 0 0],_,rfl,⟨rfl,rfl⟩,⟨[.slice none 0 0],_,rfl,⟨rfl,rfl⟩,⟨[.slice none 0 0],_,rfl,⟨rfl,rfl⟩,⟨[.int .i64 0],_,rfl,rfl,⟨[.slice none 0 0],_,rfl,⟨rfl,rfl⟩,⟨[.int .i64 0],_,rfl,rfl,⟨[.slice none 0 0],_,rfl,⟨rfl,rfl⟩,⟨[.slice none 0 0],_,rfl,⟨rfl,rfl⟩,⟨[.bool false],_,rfl,rfl,⟨[.int .i64 0],_,rfl,rfl,rfl⟩⟩⟩⟩⟩⟩⟩⟩⟩⟩⟩) rfl (fun k h=>by cases h) rfl (by decide)
 rcases List.mem_cons.1 hp with rfl|hp
 ·exact gW (by kernel_rfl) Tryz.underlying49 (bytes:=24) (by decide)
 rcases List.mem_cons.1 hp with rfl|hp
 ·exact fN (cells:= [.map none]++([]:List Value)) (bytes:=8) (by kernel_rfl) Tryz.underlying66 rfl (fun η A w=>⟨[.map none],_,rfl,⟨rfl,rfl⟩,rfl⟩) rfl (fun k h=>by cases h) rfl (by decide)
 rcases List.mem_cons.1 hp with rfl|hp
 ·exact gW (by kernel_rfl) Tryz.underlying30 (bytes:=24) (by decide)
 rcases List.mem_cons.1 hp with rfl|hp
 ·exact eo (k:= .int) rfl rfl rfl (by kernel_rfl) Tryz.underlying3 (bytes:=8) (by decide)
 rcases List.mem_cons.1 hp with rfl|hp
 ·exact eo (k:= .bool) rfl rfl rfl (by kernel_rfl) Tryz.underlying4 (bytes:=1) (by decide)
 rcases List.mem_cons.1 hp with rfl|hp
 ·exact eo (k:= .u8) rfl rfl rfl (by kernel_rfl) Tryz.underlying5 (bytes:=1) (by decide)
 cases hp
set_option maxRecDepth 10000
set_option linter.unusedVariables false
def bK (E:Bn) (n:Nat) (f g:Int→Int) (B:Bn):Bool:=match decide (aX B 1≠0) with
 |true=>false
 |false=>match decide (B.onceId=0) with
  |true=>false
  |false=>match decide ((10:Int)≤(n:Int)) with
   |true=>false
   |false=>match decide (B.sign=E.sign) with
    |false=>false
    |true=>match decide (B.ident=E.ident) with
     |false=>false
     |true=>match decide (B.medium=E.medium) with
      |false=>false
      |true=>match decide (B.medsig=E.medsig) with
       |false=>false
       |true=>match decide (B.version=E.version) with
        |false=>false
        |true=>match decide (f B.onceId=0) with
         |false=>false
         |true=>match decide (B.kemId=0) with
          |true=>true
          |false=>decide (g B.kemId=0)
def SZ (u0 u1 u2 u3 u5 u7 u8 so mo mk:Value) (E:Bn) (n:Nat) (f g:Int→Int):Ch:= .blk 68 [.rv u0 E.sign,.rv u1 E.ident,.rv u2 E.medium,.rv u3 E.medsig,.ob .int E.onceId,.rv u5 E.once,.ob .int E.kemId,.rv u7 E.kem,.rv u8 E.kemsig,.ob .bool E.last,.ob .int E.version,.ln so n,.mp mo f,.mp mk g]
def Xc:List (Nat×CF):= [(25,ar He),(26,ar GZ)]
theorem VQ:∀p∈Xc,af p.1 p.2:=ag pw<|ag ka fun p hp=>by cases hp
theorem XA:az XJ (ap Xc):=aD UO (br VQ)
def PZ (t:Nat) (x:Bool) (ch:Ch):KK:=fun e S'=>match e with
 | .exit _=>False
 |_=>(match bY S'.sl t with
  | [.one (.cv (.bool y))]=>x=y
  | [.one (.ob .bool y)]=>x=y
  |_=>False)∧aF S'.hp 1000=some ch
section
variable {ty:Nat→TE} {ct:Nat→Option CF}
theorem IT (hm:Tryz.prog.follows .mixedOrders=true) (hO:az ty ct) {f:Nat} {fn:Func} {c:Code} (hf:Tryz.prog.funcs[f]?=some fn) (hb:fn.body=some c) {t:Nat} (hr:nS fn [t]) {l:List AV} {ch:Ch} {x:Bool} (hlen:l.length≤fn.ntmps)
  (hvc:vc ty ct fn.ntmps c ⟨aq 0 l,bW 1000 [ch],2000⟩ (PZ t x ch)) {w:World} {η:bx} (h0:∀b,2000≤b→η b=none) (hch:ch.H η (ay (aF (bW 1000 [ch])) η) w 1000) {vs:List Value} (hv:bQ η (ay (aF (bW 1000 [ch])) η) w l vs):
  Calls Tryz.prog f vs.toArray w fun e w'=>e= .returned (.bool x)∧∃H' η',Fw (aF (bW 1000 [ch])) η w H' η' w'∧η' 1000=η 1000∧ch.H η' (ay H' η') w' 1000:=by
 refine calls_of_wp hf hb ?_
 obtain ⟨hvl,hsl⟩:=jV (i:=0) hv
 have hlk:∀b c,aF (bW 1000 [ch]) b=some c→b=1000∧c=ch:=fun b c h=>by
  rw [mm.1] at h
  by_cases k:1000≤b
  ·rw [if_pos k] at h
   have k2:=(List.getElem?_eq_some_iff.1 h).1
   have k2:b-1000<1:=k2
   obtain rfl:b=1000:=by omega
   exact ⟨rfl,(Option.some.inj h).symm⟩
  ·rw [if_neg k] at h;cases h
 have hS:pM fn.ntmps ⟨aq 0 l,bW 1000 [ch],2000⟩ η {tmps:=vs.toArray++Array.replicate (fn.ntmps-vs.toArray.size) undef,defers:= []} w:=by
  refine ⟨⟨rfl,?_,fun t=> ?_,fun b c h=> ?_,fun b b' g hbb h1 h2 hg=> ?_⟩,h0⟩
  ·simp;omega
  ·rcases hsl t with h|⟨x,v,h1,h2,h3,h4⟩
   ·show bz _ _ _ (bY (aq 0 l) t) _
    rw [h];trivial
   ·show bz _ _ _ (bY (aq 0 l) t) _
    rw [h1]
    have e:(vs.toArray++Array.replicate (fn.ntmps-vs.toArray.size) undef).getD t undef=v:=by
     rw [Array.getD_eq_getD_getElem?,Array.getElem?_append_left (by simp;exact (List.getElem?_eq_some_iff.1 h3).1)]
     simp only [Nat.sub_zero] at h3
     rw [List.getElem?_toArray,h3];rfl
    show bz _ _ _ [x] (Array.getD _ t undef)
    rw [e]
    exact h4
  ·obtain ⟨rfl,rfl⟩:=hlk b c h
   exact hch
  ·cases e1:aF (bW 1000 [ch]) b with
   |none=>exact absurd e1 h1
   |some c1=>
    cases e2:aF (bW 1000 [ch]) b' with
    |none=>exact absurd e2 h2
    |some c2=>exact absurd ((hlk b c1 e1).1.trans (hlk b' c2 e2).1.symm) hbb
 refine wp_mono (js hm hO c _ _ hvc _ _ _ hS) fun e a' w' hP=> ?_
 obtain ⟨e',S',η',h1,h2,⟨hS',_⟩,hF,hHp,hE,_⟩:=hP
 have key:((match bY S'.sl t with | [.one (.cv (.bool y))]=>x=y| [.one (.ob .bool y)]=>x=y|_=>False)∧aF S'.hp 1000=some ch)→a'.defers= []∧∃v,(results fn a'.tmps).run Tryz.prog w'= .ok v w'∧(Ending.returned v= .returned (.bool x)∧∃H' η',Fw (aF (bW 1000 [ch])) η w H' η' w'∧η' 1000=η 1000∧ch.H η' (ay H' η') w' 1000):=fun ⟨k1,k2⟩=>by
  refine ⟨hS'.df,_,jt hr a'.tmps w',?_,_,_,hF,hE 1000 (by show 1000<2000;decide),hS'.chunk 1000 ch k2⟩
  have hs:=hS'.slot t
  show Ending.returned (a'.tmps.getD t undef)=_
  split at k1
  ·rename_i y e1
   rw [e1] at hs
   subst k1
   exact congrArg _ (ak hs.1)
  ·rename_i y e1
   rw [e1] at hs
   subst k1
   have: [a'.tmps.getD t undef]= [Value.bool x]:=hs
   exact congrArg _ (List.singleton_inj.1 this)
  ·exact k1.elim
 cases e with
 |normal=>cases h1;exact key h2
 |ret=>cases h1;exact key h2
 |exit id=>cases h1;exact h2.elim
 |panic c=>cases h1
 |outgrown=>cases h1
 |goto l=>cases h1
end
theorem nt {p:Prop} [Decidable p] (h:(!decide p)=true):decide p=false:=by simpa using h
theorem nf {p:Prop} [Decidable p] (h:(!decide p)=false):decide p=true:=by simpa using h
theorem Xa {a b:Int} (h:decide (a≠b)=true):decide (a=b)=false:=by simpa using h
theorem RO {a b:Int} (h:decide (a≠b)=false):decide (a=b)=true:=by simpa using h
set_option maxHeartbeats 4000000 in
theorem Mv (u0 u1 u2 u3 u5 u7 u8 so mo mk:Value) (E:Bn) (n:Nat) (f g:Int→Int) (B:Bn) (hp:gH B.onceId∧gH B.kemId):vc XJ (ap Xc) Tryz.f36.ntmps (ah Tryz.f36) ⟨aq 0 [.one (.ptr 1000 0),B.av],bW 1000 [SZ u0 u1 u2 u3 u5 u7 u8 so mo mk E n f g],2000⟩ (PZ 4 (bK E n f g B) (SZ u0 u1 u2 u3 u5 u7 u8 so mo mk E n f g)):=by
 have nn:∀ {p:Prop} [Decidable p],(!decide p)=true→decide p=false:=fun h=>by simpa using h
 refine ⟨fun h0=> ?_,fun h0=> ?_⟩
 ·refine ⟨h0,?_,rfl⟩
  show bK E n f g B=_
  rw [bK];erw [h0]
 ·refine ⟨fun h1=>⟨h0,h1,?_,rfl⟩,fun h1=> ?_⟩
  ·show bK E n f g B=_
   rw [bK];erw [h0];rw [h1]
  ·refine ⟨h0,h1,fun hn=>⟨fun h2=>⟨?_,rfl⟩,fun h2=> ?_⟩⟩
   ·show bK E n f g B=_
    rw [bK];erw [h0];rw [h1,h2]
   ·refine ⟨fun h3=>⟨fun h4=> ?_,fun h4=>⟨h3,h4,?_⟩⟩,fun h3=>⟨h3,?_⟩⟩
    ·refine ⟨h3,h4,fun h5=>⟨h5,?_,rfl⟩,fun h5=>⟨fun h6=>⟨h5,h6,?_,rfl⟩,fun h6=>⟨h5,h6,fun h7=>⟨?_,rfl⟩,fun h7=> ?_⟩⟩⟩
     ·show bK E n f g B=_
      rw [bK];erw [h0];rw [h1,h2,h3,h4,nt h5]
     ·show bK E n f g B=_
      rw [bK];erw [h0];rw [h1,h2,h3,h4,nf h5,nt h6]
     ·show bK E n f g B=_
      rw [bK];erw [h0];rw [h1,h2,h3,h4,nf h5,nf h6,Xa h7]
     ·refine ⟨fun h8=>⟨fun h9=> ?_,fun h9=> ?_⟩,fun h8=> ?_⟩
      ·refine ⟨h8,h9,hp.1,?_,rfl⟩
       show bK E n f g B=_
       rw [bK];erw [h0];rw [h1,h2,h3,h4,nf h5,nf h6,RO h7,h8,h9]
      ·refine ⟨h8,h9,hp.1,hp.2,?_,rfl⟩
       show bK E n f g B=_
       rw [bK];erw [h0];rw [h1,h2,h3,h4,nf h5,nf h6,RO h7,h8,h9]
      ·refine ⟨h8,hp.1,?_,rfl⟩
       show bK E n f g B=_
       rw [bK];erw [h0];rw [h1,h2,h3,h4,nf h5,nf h6,RO h7,h8]
    ·refine ⟨?_,rfl⟩
     show bK E n f g B=_
     rw [bK];erw [h0];rw [h1,h2,h3,h4]
    ·refine ⟨?_,rfl⟩
     show bK E n f g B=_
     rw [bK];erw [h0];rw [h1,h2,h3]
end Go.Proofs.YtknlbpjcjdenbaaGreat
namespace Go.Proofs.YtknlbpjcjdenbaaGreat
open Go Go.RowKit Go.Maps
set_option linter.unusedVariables false
abbrev iZ (cs:List Value) (so:Value) (mo mk:Nat):List Value:=cs++ [so,.map (some mo),.map (some mk)]
theorem aj.cell11 {w:World} {b mo mk:Nat} {cs:List Value} {so:Value} (h:aj w b (iZ cs so mo mk) 68) (hl:cs.length=11):w.cell? ⟨b,11,none⟩=some so:=by
 rw [h.cell,List.getElem?_append_right (by omega),hl];rfl
theorem aj.cell12 {w:World} {b mo mk:Nat} {cs:List Value} {so:Value} (h:aj w b (iZ cs so mo mk) 68) (hl:cs.length=11):w.cell? ⟨b,12,none⟩=some (.map (some mo)):=by
 rw [h.cell,List.getElem?_append_right (by omega),hl];rfl
theorem aj.cell13 {w:World} {b mo mk:Nat} {cs:List Value} {so:Value} (h:aj w b (iZ cs so mo mk) 68) (hl:cs.length=11):w.cell? ⟨b,13,none⟩=some (.map (some mk)):=by
 rw [h.cell,List.getElem?_append_right (by omega),hl];rfl
theorem aj.set11 {w:World} {b mo mk:Nat} {cs:List Value} {so v:Value} (h:aj w b (iZ cs so mo mk) 68) (hl:cs.length=11):aj (w.setCell ⟨b,11,none⟩ v) b (iZ cs v mo mk) 68:=by
 have h1:=h.set 11 v
 rw [List.set_append_right _ _ (by omega),hl] at h1
 exact h1
theorem cJ.ones {A:Nat→Prop} {w:World} {B:Bn} {cs:List Value} (h:cJ A w B (.agg cs.toArray)):∀u∈cs,u.oneCell'=true:=by
 have:=eW h
 simp only [List.all_toArray,List.all_eq_true] at this
 exact this
theorem lZ {w:World} {v:Value} {n:Nat} {xs:List Value} (h:w.ownsRow 0 32 11 v n xs):∃a n c,v= .slice a n c:=by
 rcases h.2 with ⟨rfl,_⟩|⟨g,c,cur,rfl,_⟩<;>exact ⟨_,_,_,rfl⟩
section
variable {Z:Nat→Prop}
def YV (B:Bn):FP Z:=⟨none,fun S v w=>∃q cs,v= .slice (some ⟨q,0,none⟩) 1 1∧S q∧aj w q cs 32∧cJ (fun x=>S x∧x≠q) w B (.agg cs.toArray),fun S v w w' ⟨q,cs,h1,h2,h3,h4⟩ hf=>⟨q,cs,h1,h2,(hf.block q h3.lt (fun h=>h.2 h2)).trans h3,h4.later fun g hg ha=>⟨hf.block g hg (fun h=>h.2 ha.1),ha⟩⟩⟩
def YK (lo:Nat) (B:Bn) (n:Nat) (xs:List Value):FP Z:=⟨none,fun S v w=>∃cs,w.ownsRow 0 32 11 v (n+1) (xs++cs)∧(∀x,v.ownBlock=some x→S x)∧cJ (fun x=>S x∧v.ownBlock≠some x∧lo≤x) w B (.agg cs.toArray),fun S v w w' ⟨cs,h1,h2,h3⟩ hf=>⟨cs,cO h1 fun x hx=>hf.block x (h1.lt x hx).2 (fun h=>h.2 (h2 x hx)),h2,h3.later fun g hg ha=>⟨hf.block g hg (fun h=>h.2 ha.1),ha⟩⟩⟩
end
theorem u4:∃i z,Tryz.prog.info? 32=some i∧i.zero=some z∧i.size=11∧z.cells.size=11∧i.bytes=200∧z= .agg bP:=by
 have h:(Tryz.prog.info? 32).map (fun i=>(i.size,i.bytes,i.zero))=some (11,200,some (.agg bP)):=by kernel_rfl
 obtain ⟨i,hi,h⟩:=Option.map_eq_some_iff.1 h
 simp only [Prod.mk.injEq] at h
 exact ⟨i,_,hi,h.2.2,h.1,rfl,h.2.1,rfl⟩
theorem Hm {ds:List Value} (hl:ds.length=11):∃d0 d1 d2 d3 d4 d5 d6 d7 d8 d9 da,ds= [d0,d1,d2,d3,d4,d5,d6,d7,d8,d9,da]:=by
 rcases ds with _|⟨d0,_|⟨d1,_|⟨d2,_|⟨d3,_|⟨d4,_|⟨d5,_|⟨d6,_|⟨d7,_|⟨d8,_|⟨d9,_|⟨da,_|⟨db,r⟩⟩⟩⟩⟩⟩⟩⟩⟩⟩⟩⟩<;>first |exact ⟨_,_,_,_,_,_,_,_,_,_,_,rfl⟩|(simp at hl;done)|(simp at hl;omega)
theorem sM {o:Oper} {a:Act} {w:World} {x:Operand} {cs:List Value} (ho:o.op= .buildSlice 49 1 #[(0,x)]) (hx:a.eval x= .agg cs.toArray) (hl:cs.length=11):(execOp a.eval o).run Tryz.prog w= .ok (.value (.slice (some ⟨w.heap.size,0,none⟩) 1 1)) (w.alloc (.cells cs.toArray 32)):=by
 obtain ⟨i,z,hi,hz,hs,hzs,hby,hze⟩:=u4
 obtain ⟨d0,d1,d2,d3,d4,d5,d6,d7,d8,d9,da,rfl⟩:=Hm hl
 have h:(Instr.buildSlice 49 1 #[(0,Value.agg #[d0,d1,d2,d3,d4,d5,d6,d7,d8,d9,da])]).run Tryz.prog w= .ok (.slice (some ⟨w.heap.size,0,none⟩) 1 1) (w.alloc (.cells #[d0,d1,d2,d3,d4,d5,d6,d7,d8,d9,da] 32)):=
  run_buildSlice (P:=Tryz.prog) w 49 32 1 _ _ i z Tryz.underlying49 hi hz (by rw [hs];decide) (by rw [hs];decide) (by rw [hs,hze];kernel_rfl)
 unfold execOp
 simp only [ho,List.map_toArray,List.map_cons,List.map_nil,hx]
 rw [Sem.run_bind,h]
 rfl
theorem Mj {o:Oper} {a:Act} {w w':World} {s x:Operand} {u v r:Value} {t:Nat} (ho:o.op= .call {callee:= .builtin .append,args:= #[s,x],argTypes:= #[t,t]}) (hs:a.eval s=v) (hx:a.eval x=u) (hr:(Builtin.append_ #[t,t] o.type #[v,u]).run Tryz.prog w= .ok r w'):(execOp a.eval o).run Tryz.prog w= .ok (.value r) w':=by
 unfold execOp
 simp only [ho,resolve,invoke,builtin,Sem.run_bind,Sem.run_pure,Result.andThen_ok,List.map_toArray,List.map_cons,List.map_nil,hs,hx,hr]
theorem AK {o:Oper} {a:Act} {w:World} {x y:Operand} {v old:Value} {p:Addr} (ho:o.op= .store 49 x y) (hx:a.eval x= .pointer (some p)) (hy:a.eval y=v) (h1:∃a n c,v= .slice a n c) (hc:w.cell? p=some old) (hf:w.frozen? p=false):(execOp a.eval o).run Tryz.prog w= .ok .skip (w.setCell p v):=by
 obtain ⟨ad,n,c,rfl⟩:=h1
 have hs:(Instr.storeAt 49 (.pointer (some p)) (.slice ad n c)).run Tryz.prog w= .ok () (w.setCell p (.slice ad n c)):=by
  unfold Instr.storeAt
  go_simp
 unfold execOp
 simp only [ho,hx,hy]
 rw [Sem.run_bind,hs]
 rfl
theorem Vg {w:World} {so:Value} {n q ty:Nat} {xs cs:List Value} (hown:w.ownsRow 0 32 11 so n xs) (hq:aj w q cs 32) (hl:cs.length=11) (h1:∀u∈cs,u.oneCell'=true) (hn:n≤1000000):∃v' w',(Builtin.append_ #[49,49] ty #[so,.slice (some ⟨q,0,none⟩) 1 1]).run Tryz.prog w= .ok v' w'∧w'.ownsRow 0 32 11 v' (n+1) (xs++cs)∧w.grownBy w' so.ownBlock∧∀g,v'.ownBlock=some g→so.ownBlock=some g∨w.heap.size≤g:=by
 obtain ⟨i,z,hi,hz,hs,hzs,hby, -⟩:=u4
 have hnews:∀j u,cs[j]?=some u→w.cell? ((⟨q,0,none⟩:Addr).add j)=some u:=fun j u hu=>by
  rw [show (⟨q,0,none⟩:Addr).add j=⟨q,j,none⟩ by unfold Addr.add;split<;>simp_all,hq.cell,hu]
 have hl1:cs.length=1*11:=by omega
 have hmx:n+1≤maxLen:=by unfold maxLen;omega
 rcases hown.2 with ⟨rfl,rfl⟩|⟨g,cap,cur,rfl,hbg,hg,hnc,hcm,hcs,htake⟩
 ·have hx:xs= []:=List.eq_nil_of_length_eq_zero (by simpa using hown.1)
  subst hx
  obtain ⟨v',w',r1,r2,r3,r4⟩:=run_append_own (P:=Tryz.prog) w w.heap.size 49 ty 32 i z 11 i.bytes Tryz.underlying49 hi hz hs rfl hzs (by omega) (.slice none 0 0) 0 [] (World.ownsRow_nil w _ 32 11) ⟨q,0,none⟩ 1 1 cs hl1 hnews h1 hmx (by rw [hby];omega) (Nat.le_refl _)
  refine ⟨v',w',r1,⟨r2.1,?_⟩,r3,fun g hg=> .inr (r2.lt g hg).1⟩
  rcases r2.2 with h|⟨g,cap,cur,e1,e2,e3⟩
  ·exact .inl h
  ·exact .inr ⟨g,cap,cur,e1,Nat.zero_le _,e3⟩
 ·obtain ⟨v',w',r1,r2,r3,r4⟩:=run_append_own (P:=Tryz.prog) w 0 49 ty 32 i z 11 i.bytes Tryz.underlying49 hi hz hs rfl hzs (by omega) _ n xs hown ⟨q,0,none⟩ 1 1 cs hl1 hnews h1 hmx (by rw [hby];omega) (Nat.zero_le _)
  refine ⟨v',w',r1,r2,r3,fun x hx=> ?_⟩
  by_cases hroom:n+1≤cap
  ·have hr:=run_append_room (P:=Tryz.prog) w 49 ty 32 i Tryz.underlying49 hi g n cap cur hg ⟨q,0,none⟩ 1 1 cs (by rw [hs];exact hl1) hnews h1 hroom (by rw [hs,hl,hcs];omega)
   rw [r1] at hr
   injection hr with hr
   subst hr
   exact .inl hx
  ·have holds:∀j u,xs[j]?=some u→w.cell? ((⟨g,0,none⟩:Addr).add j)=some u:=hown.cells (g:=g) rfl
   have hr:=run_append_grow (P:=Tryz.prog) w 49 ty 32 i z Tryz.underlying49 hi hz ⟨g,0,none⟩ n cap xs (by rw [hs];exact hown.1) holds ⟨q,0,none⟩ 1 1 cs (by rw [hs];exact hl1) hnews (by omega) (by simp only [maxLen] at hmx;omega) (growslice_fits (by omega) (by rw [hby];omega))
   rw [r1] at hr
   injection hr with hr
   subst hr
   cases hx
   exact .inr (Nat.le_refl _)
def En.takes (e:En) (B:Bn):Bool:=bK e.base e.once.length e.onces e.kems B
def stp (p:En×Nat) (B:Bn):En×Nat:=if p.1.takes B then (p.1.add B,p.2+1) else p
def En.adds (e:En) (l:List Bn):En×Nat:=l.foldl stp (e,0)
theorem F6 {e:En} {l:List Bn} {k:Nat} (hk:k<l.length):e.adds (l.take (k+1))=stp (e.adds (l.take k)) l[k]:=by
 rw [En.adds,List.take_succ_eq_append_getElem hk,List.foldl_append];rfl
theorem Fq {e:En} {B:Bn} (h:e.takes B=true):e.once.length<10:=by
 unfold En.takes bK at h
 split at h
 ·cases h
 ·split at h
  ·cases h
  ·split at h
   ·cases h
   ·rename_i h3
    have:=of_decide_eq_false h3
    omega
theorem J9 {e:En}:∀ {l:List Bn},(e.adds l).2≤l.length:=by
 intro l
 have:∀(l:List Bn) (p:En×Nat),(l.foldl stp p).2≤p.2+l.length:=by
  intro l
  induction l with
  |nil=>intro p;exact Nat.le_refl _
  |cons B l ih=>
   intro p
   have:=ih (stp p B)
   rw [List.foldl_cons,List.length_cons]
   refine Nat.le_trans this ?_
   unfold stp
   split
   ·simp;omega
   ·omega
 have h:=this l (e,0)
 unfold En.adds
 omega
theorem iU {A A':Nat→Prop} {w:World} {k:Kd} {l:List k.T} {v:Value} (hA:∀g,A g→A' g):dU A w k l v→dU A' w k l v:=fun ⟨a,c,q1,q2,q3,q4,q5⟩=>⟨a,c,q1,q2,q3,q4,fun z=>by obtain ⟨g,o,cs,z1,z3,z2⟩:=q5 z;exact ⟨g,o,cs,z1,hA g z3,z2⟩⟩
theorem EN {w:World} {v:Value} {n:Nat} {xs:List Value} (h:w.ownsRow 0 32 11 v n xs):∃a c,v= .slice a n c:=by
 rcases h.2 with ⟨rfl,rfl⟩|⟨g,c,cur,rfl,_⟩<;>exact ⟨_,_,rfl⟩
theorem N9 {w:World} {v:Value} {n:Nat} {xs:List Value} (h:w.ownsRow 0 32 11 v n xs):n≤maxLen:=by
 rcases h.2 with ⟨_,rfl⟩|⟨g,c,cur,_,_,_,h1,h2,_⟩
 ·exact Nat.zero_le _
 ·exact Nat.le_trans h1 h2
theorem qB {w:World} {T:Nat→Nat} {t N b mo mk:Nat} {e:En} {cs xs:List Value} {so v:Value} {Do Dk:DataW Value} {A:Nat→Prop} {B:Bn} (hX:GW w T t N b e cs so xs mo mk Do Dk) (hB:cJ A w B v) (hA:¬A b) (hf:B.fine) (ht:0<t):Calls Tryz.prog 36 #[.pointer (some ⟨b,0,none⟩),v] w fun r w'=>r= .returned (.bool (e.takes B))∧Below w.heap.size w w':=by
 obtain ⟨u0,u1,u2,u3,u5,u7,u8,ec,r0,r1,r2,r3,r5,r7,r8⟩:=et hX.base
 obtain rfl:cs= [u0,u1,u2,u3,.int .i64 e.base.onceId,u5,.int .i64 e.base.kemId,u7,u8,.bool e.base.last,.int .i64 e.base.version]:=congrArg Array.toList (by injection ec)
 obtain ⟨ch,hch⟩:∃ch,ch=SZ u0 u1 u2 u3 u5 u7 u8 so (.map (some mo)) (.map (some mk)) e.base e.once.length e.onces e.kems:=⟨_,rfl⟩
 obtain ⟨H1,hH1⟩:∃H1:Nat→Option Ch,H1=aF (bW 1000 [ch]):=⟨_,rfl⟩
 obtain ⟨η1,hη1⟩:∃η1:bx,η1=fun x=>if x=1000 then some (.pointer (some ⟨b,0,none⟩)) else none:=⟨_,rfl⟩
 have e7:η1 1000=some (.pointer (some ⟨b,0,none⟩)):=by rw [hη1];rfl
 have hn7:∀x,H1 x≠none→x=1000:=fun x hx=>by
  rw [hH1,mm.1] at hx
  by_cases k:1000≤x
  ·rw [if_pos k] at hx
   by_cases k2:x-1000<1
   ·omega
   ·rw [List.getElem?_eq_none (by show 1≤x-1000;omega)] at hx;exact absurd rfl hx
  ·rw [if_neg k] at hx;exact absurd rfl hx
 have an:∀g,g≠b→ay H1 η1 g:=fun g hg x hx=>by
  rw [hn7 x hx,bu,e7]
  intro h
  exact hg (Option.some.inj h).symm
 have a0:∀g,T g=0→ay H1 η1 g:=fun g hg=>an g fun h=>by have:=hX.tb;rw [←h,hg] at this;omega
 have hmo:mo≠b:=fun h=>by have h1:=hX.tb;have h2:=hX.tmo;rw [h] at h2;omega
 have hmk:mk≠b:=fun h=>by have h1:=hX.tb;have h2:=hX.tmk;rw [h] at h2;omega
 have hone:∀u∈ [u0,u1,u2,u3,.int .i64 e.base.onceId,u5,.int .i64 e.base.kemId,u7,u8,.bool e.base.last,.int .i64 e.base.version]++ [so,.map (some mo),.map (some mk)],u.oneCell'=true:=fun u hu=>by
  rcases List.mem_append.1 hu with h|h
  ·exact hX.base.ones u h
  ·simp only [List.mem_cons,List.not_mem_nil,or_false] at h
   rcases h with rfl|rfl|rfl
   ·obtain ⟨a,n,c,e⟩:=lZ hX.row;rw [e];rfl
   ·rfl
   ·rfl
 have hp:ch.H η1 (ay H1 η1) w 1000:=by
  rw [hch]
  exact ⟨b,_,e7,hX.blk,⟨[u0],_,rfl,⟨rfl,iU a0 r0⟩,[u1],_,rfl,⟨rfl,iU a0 r1⟩,[u2],_,rfl,⟨rfl,iU a0 r2⟩,[u3],_,rfl,⟨rfl,iU a0 r3⟩,[_],_,rfl,rfl,[u5],_,rfl,⟨rfl,iU a0 r5⟩,[_],_,rfl,rfl,[u7],_,rfl,⟨rfl,iU a0 r7⟩,[u8],_,rfl,⟨rfl,iU a0 r8⟩,[_],_,rfl,rfl,[_],_,rfl,rfl,[so],_,rfl,⟨rfl,EN hX.row,N9 hX.row⟩,[_],_,rfl,⟨rfl,mo,N,Do,rfl,an mo hmo,hX.om,hX.fo⟩,[_],_,rfl,⟨rfl,mk,N,Dk,rfl,an mk hmk,hX.km,hX.fk⟩,rfl⟩,hone⟩
 have hav:AV.H η1 (ay H1 η1) w B.av v:=AV.H.later (η:=E0) (η':=η1) ⟨fun _ _ h=>(by cases h),fun g hg ha=>⟨rfl,an g fun h=>hA (h▸ha)⟩⟩ hB
 have hvc:=Mv u0 u1 u2 u3 u5 u7 u8 so (.map (some mo)) (.map (some mk)) e.base e.once.length e.onces e.kems B ⟨hf.2.1,hf.2.2⟩
 rw [←hch] at hvc
 refine (IT cP XA Tryz.func36 (by rfl) (t:=4) Tryz.results36 (by show 2≤96;decide) hvc (η:=η1) (fun x hx=>by rw [hη1];exact if_neg (by omega)) (by rw [←hH1];exact hp) (vs:= [.pointer (some ⟨b,0,none⟩),v]) (by rw [←hH1];exact ⟨_,_,rfl,⟨b,e7,rfl⟩,v,_,rfl,hav,rfl⟩)).mono fun r w' ⟨he,H',η',hF,h1,h2⟩=> ?_
 rw [←hH1] at hF
 refine ⟨he,hF.os,hF.tape,hF.output,hF.size,fun x hx=> ?_⟩
 by_cases hxb:x=b
 ·rw [hch] at h2
  obtain ⟨g',cs',q1,q2,q3,_⟩:=h2
  rw [h1,e7] at q1
  cases q1
  obtain ⟨_,_,a0,⟨b0,_⟩,_,_,a1,⟨b1,_⟩,_,_,a2,⟨b2,_⟩,_,_,a3,⟨b3,_⟩,_,_,a4,b4,_,_,a5,⟨b5,_⟩,_,_,a6,b6,_,_,a7,⟨b7,_⟩,_,_,a8,⟨b8,_⟩,_,_,a9,b9,_,_,aa,ba,_,_,ab,⟨bb,_⟩,_,_,ac,⟨bc,_⟩,_,_,ad,⟨bd,_⟩,ae⟩:=q3
  cases (show _= [Value.int .i64 e.base.onceId] from b4)
  cases (show _= [Value.int .i64 e.base.kemId] from b6)
  cases (show _= [Value.bool e.base.last] from b9)
  cases (show _= [Value.int .i64 e.base.version] from ba)
  subst ae ad ac ab aa a9 a8 a7 a6 a5 a4 a3 a2 a1 a0 b0 b1 b2 b3 b5 b7 b8 bb bc bd
  rw [hxb]
  exact q2.trans hX.blk.symm
 ·exact (hF.anon x hx (an x hxb)).1
set_option maxHeartbeats 8000000 in
theorem GG (s:ByteArray) (hm:s.size≤1000) (hb:bl s=true) {w:World} {T:Nat→Nat} {t N g mb m b q c:Nat} {D:DataW Value} {e:En} {l:List Bn} {zs:List Value} (hE:wI w g mb m D) (hp:yK D s (some ⟨b,0,none⟩)) (hX:NH w T t N b e) (ht:0<t) (hTg:¬a_ T t g) (hTm:¬a_ T t mb) (hTx:∀x,w.heap.size≤x→¬a_ T t x)
  {A:Nat→Prop} (hAm:∀x,A x→¬a_ T t x) (hq:w.rangeAt q 0 zs) (hz:cI A w zs l) (hTq:A q) (hl:∀B∈l,B.fine) (hN:N+l.length≤1000000):
  Calls Tryz.prog 12 #[.pointer (some ⟨g,0,none⟩),.string s,.slice (some ⟨q,0,none⟩) l.length c] w fun r w'=>r= .returned (.tuple #[.int .i64 ((e.adds l).2:Int),.int .i64 0])∧∃T',(∀x,x<w.heap.size→T' x=T x)∧NH w' T' t (N+l.length) b (e.adds l).1∧Fr (a_ T t) w w'∧∀x,w'.heap.size≤x→¬a_ T' t x:=by
 have hfind:=jz s hm hb hE hp
 have HQ:=Lib.hid hq
 have HZ:=Lib.hid hz
 have HX:=Lib.hid hX
 have HT:=Lib.hid ht
 have HTX:=Lib.hid hTx
 have HTQ:=Lib.hid hTq
 have HAM:=Lib.hid hAm
 have HFI:=Lib.hid hl
 have HNN:=Lib.hid hN
 have hlen:(l.length:Int)≤1000000:=by omega
 have HF:=Lib.hid hfind
 clear hAm hfind hq hz hX ht hTg hTm hTx hTq hl hN hE hp hm hb
 go_enter Tryz.func12,Tryz.ntmps12
 go_wp2_with (go_at_call 35;go_must (refine HF.out.mono ?_;rintro r w1 ⟨rfl,rfl⟩))
 go_loopw [6,22] (fun n6 i wr=>∃(k:Nat) (T1:Nat→Nat),k≤l.length∧n6= .int .i64 ((e.adds (l.take k)).2:Int)∧i= .int .i64 k∧(∀x,x<w.heap.size→T1 x=T x)∧NH wr T1 t (N+k) b (e.adds (l.take k)).1∧Fr (a_ T t) w wr∧∀x,wr.heap.size≤x→¬a_ T1 t x) (fun _ i _=>l.length-(intOf i).toNat)
 case atStart=>exact ⟨0,T,Nat.zero_le _,rfl,rfl,fun _ _=>rfl,HX.out,Fr.refl _ _,HTX.out⟩
 case round=>
  obtain ⟨k,T1,hk,rfl,rfl,hT1,hX1,hF1,hTx1⟩:=hrel
  by_cases hlt:k<l.length
  ·have hltz:(k:Int)<(l.length:Int):=by omega
   obtain ⟨B,hBe⟩:∃B,B=l[k]:=⟨_,rfl⟩
   obtain ⟨zi,hzi,hB⟩:=HZ.out.at hlt
   rw [←hBe] at hB
   have hfin:=HFI.out B (hBe▸List.getElem_mem hlt)
   have hzl:=aV hB
   have hzo:=eW hB
   have hql:q<w.heap.size:=jv HQ.out (by rw [HZ.out.len];omega)
   have hnq:¬a_ T t q:=HAM.out q HTQ.out
   have hrg:wr.rangeAt q (k*11) zi:=by
    have h1:=ii HQ.out (hF1.block q hql hnq)
    have h2:=gY (k:=k*11) (n:=11) h1
    rw [Nat.zero_add,←hzi] at h2
    exact h2
   have hB1:cJ (fun x=>A x∧x<w.heap.size) wr B (.agg zi.toArray):=hB.later fun x hx ha=>⟨hF1.block x hx (HAM.out x ha),ha,hx⟩
   have hadd:=F6 (e:=e) hlt
   rw [←hBe] at hadd
   have hcnt:(e.adds (l.take k)).2≤l.length:=Nat.le_trans J9 (by rw [List.length_take];omega)
   obtain ⟨e1,he1⟩:∃e1,e1=(e.adds (l.take k)).1:=⟨_,rfl⟩
   obtain ⟨c1,hc1⟩:∃c1,c1=(e.adds (l.take k)).2:=⟨_,rfl⟩
   have hstp:e.adds (l.take (k+1))=if e1.takes B then (e1.add B,c1+1) else (e1,c1):=by
    rw [hadd,stp,←he1,←hc1]
    split
    ·rfl
    ·exact Prod.ext he1.symm hc1.symm
   rw [←he1] at hX1
   rw [←hc1] at hcnt ⊢
   obtain ⟨cs0,so,xs,mo,mk,Do,Dk,hX2⟩:=hX1
   obtain ⟨W1,hW1⟩:∃W1,W1=(wr.alloc (.cells bP 32)).setRow wr.heap.size zi.toArray:=⟨_,rfl⟩
   have hP1:aj W1 wr.heap.size zi 32:=by rw [hW1];exact cw (aj.new wr _ _)
   have hb1:Below wr.heap.size wr W1:=by rw [hW1];exact below_setRow (Below.alloc' (Below.refl _ _) _) (Nat.le_refl _) _
   have hrp:=hP1.rng
   have hX3:GW W1 T1 t (N+k) b e1 cs0 so xs mo mk Do Dk:=hX2.later (F:=fun _=>False) (Fr.of_below hb1) (fun _ _=>rfl) (fun _ h=>h.elim) (Nat.le_refl _) HT.out
   have hnb:¬(A b∧b<w.heap.size):=fun h=>HAM.out b h.1 (by unfold a_;rw [←hT1 b h.2,hX2.tb];omega)
   have kL:(Tryz.prog.info? 32).map (·.size)=some zi.toArray.size:=by rw [aN];simp [hzl]
   have ho32:bP.size=zi.toArray.size:=by simp [hzl]
   have HX2:=Lib.hid hX2
   have HX3:=Lib.hid hX3
   have HB3:=Lib.hid (hB1.below hb1)
   have HAB:=Lib.hid hnb
   have HFN:=Lib.hid hfin
   have HP1:=Lib.hid hP1
   have HW1:=Lib.hid hb1
   have HST:=Lib.hid hstp
   have HFR:=Lib.hid hF1
   have HTX1:=Lib.hid hTx1
   have HTT:=Lib.hid hT1
   have HK:=Lib.hid hlt
   have HZL:=Lib.hid hzl
   have hcz:(c1:Int)≤1000000:=by omega
   clear hX2 hX3 hB1 hB hnb hfin hP1 hb1 hstp hF1 hT1 hTx1 hadd he1 hc1 hBe hzi hql hnq hcnt
   by_cases htk:e1.takes B=true
   ·have HTK:=Lib.hid htk
    go_upto_region 7 with (first|(refine wpList_load_mid rfl 32 (.tmp 24) rfl q (k*11) rfl zi _ hrg Tryz.underlying32 rfl (by rw [aN,hzl]) ?_)|(refine wpList_store_row rfl 32 _ _ rfl wr.heap.size _ rfl rfl 32 bP (aj.new wr _ _) kL ho32 hzo ?_))
    rw [←hW1]
    clear hW1
    go_upto_region 8 with (first|(refine wpList_load_mid rfl 32 (.tmp 10) rfl wr.heap.size 0 rfl zi _ hrp Tryz.underlying32 rfl (by rw [aN,hzl]) ?_)|(go_at_call 36;go_must (refine (qB HX3.out HB3.out HAB.out HFN.out HT.out).mono ?_;rintro r w2 ⟨rfl,hb2⟩;rw [HTK.out];have HB2:=Lib.hid hb2;clear hb2)))
    have hf2:Fr (fun _=>False) wr w2:=(Fr.of_below HW1.out).call HB2.out
    have hX4:GW w2 T1 t (N+k) b e1 cs0 so xs mo mk Do Dk:=HX2.out.later (F:=fun _=>False) hf2 (fun _ _=>rfl) (fun _ h=>h.elim) (Nat.le_refl _) HT.out
    have hl0:=aV hX4.base
    have hsb:¬so.ownBlock=some b:=fun e=>by have h1:=hX4.tq b e;rw [hX4.tb] at h1;omega
    obtain ⟨pb,hpb⟩:∃pb,pb=wr.heap.size:=⟨_,rfl⟩
    have HPB:Hid (aj w2 pb zi 32):=Lib.hid (by rw [hpb];exact HP1.out.below' HB2.out)
    have HBV:=Lib.hid (HB3.out.below HB2.out)
    have HBLK:=Lib.hid (show aj w2 b (iZ cs0 so mo mk) 68 from hX4.blk)
    have HROW:=Lib.hid hX4.row
    have HFW:=Lib.hid (show ∀x,so.ownBlock=some x→x<w2.heap.size from fun x hx=>(hX4.row.lt x hx).2)
    have HBN:=Lib.hid hsb
    have HCL:=Lib.hid hl0
    have HLEN:=HZL
    have HS:=Lib.hid HFN.out.1
    have HN:=Lib.hid (show e1.once.length≤1000000 by have:=Fq HTK.out;omega)
    have HF2:=Lib.hid hf2
    have HX4:=Lib.hid hX4
    have HPE:=Lib.hid hpb
    rw [←hpb]
    clear hf2 hX4 hl0 hsb hpb hrg hrp kL ho32 hzo HX3
    refine X4 11 8 (fun x => so.ownBlock = some x) [(29, 0), (0, 1), (0, 2), (0, 3), (0, 4), (0, 5), (0, 6), (0, 7), (0, 8), (0, 9), (0, 10)] [kv (.pointer (some ⟨b, 0, none⟩)), kv (.pointer (some ⟨b, 0, none⟩)), kv (.pointer (some ⟨b, 0, none⟩)), kv (.pointer (some ⟨b, 11, none⟩)), kv (so), kv (.agg zi.toArray), (Xz B), (YV B), (YK w2.heap.size B e1.once.length xs), kv (.pointer (some ⟨b, 0, none⟩)), kv (.pointer (some ⟨b, 11, none⟩))] [none, none, none, none, none, none, some 7, some 8, none, none, none] (fun _ W => ∃ v cs, ∃ S : Nat → Prop, aj W b (iZ cs0 v mo mk) 68 ∧ W.ownsRow 0 32 11 v (e1.once.length + 1) (xs ++ cs) ∧ cJ (fun x => S x ∧ v.ownBlock ≠ some x ∧ w2.heap.size ≤ x) W B (.agg cs.toArray) ∧ (∀ x, v.ownBlock = some x → S x) ∧ (∀ x, S x → w2.heap.size ≤ x ∨ so.ownBlock = some x) ∧ Fr (fun x => so.ownBlock = some x ∨ x = b  ) w2 W) ?_ (fun u6 W6 hPd hv => ?_)
    ·refine ⟨?_,?_,?_,?_,?_,?_,?_,?_,?_,?_,?_,?_,trivial⟩
     ·refine rH HFW.out (by omega) (.one (by kernel_rfl)) (by rfl) (fun L u W gh hc=> ?_)
      go_simp
     ·refine rH HFW.out (by omega) (.one (by kernel_rfl)) (by rfl) (fun L u W gh hc=> ?_)
      have hb:=hc.before (.inr (.cons (c:=4) (by kernel_rfl) (.cons (c:=3) (by kernel_rfl) (.cons (c:=2) (by kernel_rfl) (.one (by kernel_rfl))))))
      go_simp
     ·refine rH HFW.out (by omega) (.one (by kernel_rfl)) (by rfl) (fun L u W gh hc=> ?_)
      have e1:u 1= .pointer (some ⟨b,0,none⟩):=hc.val 1 (by kernel_rfl) (by omega) _ rfl
      have hb:=hc.before (.inr (.cons (c:=4) (by kernel_rfl) (.cons (c:=3) (by kernel_rfl) (.one (by kernel_rfl)))))
      go_simp
     ·refine rH HFW.out (by omega) (.one (by kernel_rfl)) (by rfl) (fun L u W gh hc=> ?_)
      have e2:u 2= .pointer (some ⟨b,0,none⟩):=hc.val 2 (by kernel_rfl) (by omega) _ rfl
      have hb:=hc.before (.inr (.cons (c:=4) (by kernel_rfl) (.one (by kernel_rfl))))
      go_simp
     ·refine rH HFW.out (by omega) (.one (by kernel_rfl)) (by rfl) (fun L u W gh hc=> ?_)
      have e3:u 3= .pointer (some ⟨b,11,none⟩):=hc.val 3 (by kernel_rfl) (by omega) _ rfl
      have hb:=hc.before (.inr (.one (by kernel_rfl)))
      have hcx:W.cell? ⟨b,11,none⟩=some so:=(HBLK.out.below' hb).cell11 HCL.out
      go_simp
     ·refine rH HFW.out (by omega) (.one (by kernel_rfl)) (by rfl) (fun L u W gh hc=> ?_)
      have hb:=hc.before (.inr (.cons (c:=6) (by kernel_rfl) (.one (by kernel_rfl))))
      exact mS rfl rfl ((HPB.out.below' hb).rng) HLEN.out
     ·refine Wy HFW.out (by omega) (.one (by kernel_rfl)) (fun L u W gh hc K hK=> ?_)
      have e5:u 5= .agg zi.toArray:=hc.val 5 (by kernel_rfl) (by omega) _ rfl
      have hb:=hc.before (.inr (.one (by kernel_rfl)))
      go_simp
      go_at_call 27
      refine (gU (HBV.out.below hb) HS.out).mono ?_
      rintro r w6 ⟨v6,rfl,hb6,hv6⟩
      have hk9:=hK.out v6 w6 (fun x=>W.heap.size≤x∧x<w6.heap.size) (Fr.of_below hb6) (hv6.later fun x hx ha=>⟨rfl,ha,hx⟩) (fun x e=>(by cases e)) (fun x hx=> .inr hx.1) (fun x hx=>hx.2)
      first |exact hk9|(simp only [e5] at hk9;exact hk9)
     ·refine LN HFW.out (by omega) (.one (by kernel_rfl)) (fun L u W gh hc=> ?_)
      have t6:=hc.fact 6 (by kernel_rfl) (by omega) (fun t ht=>by cases ht;exact hc.free _ (.inl rfl))
      have f6:=hc.foot 6 (by kernel_rfl) (by omega) (fun t ht=>by cases ht;exact hc.free _ (.inl rfl))
      have hb:=hc.before (.inr (.one (by kernel_rfl)))
      obtain ⟨cs,e6⟩:∃cs:List Value,u 6= .agg cs.toArray:=by obtain ⟨cs,e6,_⟩:=t6;exact ⟨cs,e6⟩
      rw [e6] at t6
      have al:=(Fr.refl (fun _=>False) W).alloc (.cells cs.toArray 32)
      refine ⟨_,_,fun x=>gh 6 x∨x=W.heap.size,sM rfl e6 (aV t6),(Fr.refl _ _).alloc _,⟨W.heap.size,cs,rfl,.inr rfl,aj.new W _ _,t6.later fun x hx ha=>⟨al.block x hx (fun h=>h),.inl ha,by omega⟩⟩,fun x e=>(by cases e),fun x hx=> ?_,fun x hx=> ?_⟩
      ·rcases hx with h|h
       ·exact .inl ⟨6,by kernel_rfl,by omega,rfl,h⟩
       ·exact .inr (Nat.le_of_eq h.symm)
      ·rcases hx with h|rfl
       ·have:=(f6 x h).2;simp;omega
       ·simp
     ·refine YS HFW.out (by omega) (.one (by kernel_rfl)) rfl fun L u W gh hc hb=> ?_
      have e4:u 4=so:=hc.val 4 (by kernel_rfl) (by omega) _ rfl
      have t7:=hc.fact 7 (by kernel_rfl) (by omega) (fun t ht=>by cases ht;exact hc.free _ (.inl rfl))
      have f7:=hc.foot 7 (by kernel_rfl) (by omega) (fun t ht=>by cases ht;exact hc.free _ (.inl rfl))
      obtain ⟨q,cs,e7,s7,b7,v7⟩:=t7
      have hso:W.ownsRow 0 32 11 so e1.once.length xs:=cO HROW.out fun x hx=>hb.block x (HROW.out.lt x hx).2
      obtain ⟨v8,w8,hr8,ho8,hg8,hn8⟩:=Vg (ty:=49) hso b7 (aV v7) v7.ones HN.out
      have hq:∀x,gh 7 x→so.ownBlock≠some x:=fun x hx e=>by have h1:=(f7 x hx).1;have:=HFW.out x e;rcases h1 with h1|⟨_,h1⟩;omega;rw [hc.free 8 (.inl rfl)] at h1;cases h1
      have h9:∀x,x<W.heap.size→so.ownBlock≠some x→w8.heap[x]?=W.heap[x]?:=fun x hx hn=>hg8.block x hx (fun e=>hn e.symm)
      have h10:∀x,x<W.heap.size→gh 7 x→v8.ownBlock≠some x:=fun x hx h e=>by rcases hn8 x e with h1|h1;exact hq x h h1;omega
      have h11:∀x,gh 7 x→w2.heap.size≤x:=fun x h=>by rcases (f7 x h).1 with h1|⟨_,h1⟩;exact h1;rw [hc.free 8 (.inl rfl)] at h1;cases h1
      refine ⟨v8,w8,fun x=>v8.ownBlock=some x∨gh 7 x,Mj rfl e4 e7 hr8,⟨hg8.os,hg8.tape,hg8.output,hg8.size,fun x hx hn=>h9 x hx (fun e=>hn (.inl e))⟩,⟨cs,ho8,fun x hx=> .inl hx,v7.later fun x hx ha=>⟨h9 x hx (hq x ha.1),.inr ha.1,h10 x hx ha.1,h11 x ha.1⟩⟩,fun x e=>(by cases e),fun x hx=> ?_,fun x hx=> ?_⟩
      ·rcases hx with h|h
       ·rcases hn8 x h with h|h
        ·exact .inl h
        ·exact .inr (.inr h)
       ·exact .inr (.inl ⟨7,by kernel_rfl,by omega,rfl,h⟩)
      ·rcases hx with h|h
       ·exact (ho8.lt x h).2
       ·exact Nat.lt_of_lt_of_le (f7 x h).2 hg8.size
     ·refine rH HFW.out (by omega) (.cons (c:=10) (by kernel_rfl) (.one (by kernel_rfl))) (by rfl) (fun L u W gh hc=> ?_)
      have e0:u 0= .pointer (some ⟨b,0,none⟩):=hc.val 0 (by kernel_rfl) (by omega) _ rfl
      have e1:u 1= .pointer (some ⟨b,0,none⟩):=hc.val 1 (by kernel_rfl) (by omega) _ rfl
      have e2:u 2= .pointer (some ⟨b,0,none⟩):=hc.val 2 (by kernel_rfl) (by omega) _ rfl
      have e3:u 3= .pointer (some ⟨b,11,none⟩):=hc.val 3 (by kernel_rfl) (by omega) _ rfl
      have e4:u 4=so:=hc.val 4 (by kernel_rfl) (by omega) _ rfl
      have e5:u 5= .agg zi.toArray:=hc.val 5 (by kernel_rfl) (by omega) _ rfl
      have t8:=hc.fact 8 (by kernel_rfl) (by omega) (fun t ht=>by cases ht)
      have f8:=hc.foot 8 (by kernel_rfl) (by omega) (fun t ht=>by cases ht)
      go_simp
     ·refine rH HFW.out (by omega) (.one (by kernel_rfl)) (by rfl) (fun L u W gh hc=> ?_)
      have e0:u 0= .pointer (some ⟨b,0,none⟩):=hc.val 0 (by kernel_rfl) (by omega) _ rfl
      have e1:u 1= .pointer (some ⟨b,0,none⟩):=hc.val 1 (by kernel_rfl) (by omega) _ rfl
      have e2:u 2= .pointer (some ⟨b,0,none⟩):=hc.val 2 (by kernel_rfl) (by omega) _ rfl
      have e3:u 3= .pointer (some ⟨b,11,none⟩):=hc.val 3 (by kernel_rfl) (by omega) _ rfl
      have e4:u 4=so:=hc.val 4 (by kernel_rfl) (by omega) _ rfl
      have e5:u 5= .agg zi.toArray:=hc.val 5 (by kernel_rfl) (by omega) _ rfl
      have t8:=hc.fact 8 (by kernel_rfl) (by omega) (fun t ht=>by cases ht)
      have f8:=hc.foot 8 (by kernel_rfl) (by omega) (fun t ht=>by cases ht)
      have e9:u 9= .pointer (some ⟨b,0,none⟩):=hc.val 9 (by kernel_rfl) (by omega) _ rfl
      go_simp
     ·refine XH fun L u W gh hc=> ?_
      have e0:u 0= .pointer (some ⟨b,0,none⟩):=hc.val 0 (by kernel_rfl) (by omega) _ rfl
      have e1:u 1= .pointer (some ⟨b,0,none⟩):=hc.val 1 (by kernel_rfl) (by omega) _ rfl
      have e2:u 2= .pointer (some ⟨b,0,none⟩):=hc.val 2 (by kernel_rfl) (by omega) _ rfl
      have e3:u 3= .pointer (some ⟨b,11,none⟩):=hc.val 3 (by kernel_rfl) (by omega) _ rfl
      have e4:u 4=so:=hc.val 4 (by kernel_rfl) (by omega) _ rfl
      have e5:u 5= .agg zi.toArray:=hc.val 5 (by kernel_rfl) (by omega) _ rfl
      have t8:=hc.fact 8 (by kernel_rfl) (by omega) (fun t ht=>by cases ht)
      have f8:=hc.foot 8 (by kernel_rfl) (by omega) (fun t ht=>by cases ht)
      have e10:u 10= .pointer (some ⟨b,11,none⟩):=hc.val 10 (by kernel_rfl) (by omega) _ rfl
      obtain ⟨cs,ho8,hs8,hv8⟩:=t8
      have hfr:=hc.fr
      have hbn:¬so.ownBlock=some b:=HBN.out
      have hBW:aj W b (iZ cs0 so mo mk) 68:=(hfr.block b HBLK.out.lt hbn).trans HBLK.out
      have hw:∀x,x≠b→(W.setCell ⟨b,11,none⟩ (u 8)).heap[x]?=W.heap[x]?:=fun x hn=>Below.heap_setCell W ⟨b,11,none⟩ (u 8) x hn
      have hsb:∀x,gh 8 x→x≠b:=fun x hx e=>by subst e;rcases (f8 x hx).1 with h|⟨h,_⟩;exact absurd HBLK.out.lt (Nat.not_lt.2 h);exact hbn h
      have hone:=lZ ho8
      refine ⟨_,_,W.setCell ⟨b,11,none⟩ (u 8),AK rfl e10 rfl hone (hBW.cell11 HCL.out) (hBW.frozen _),.inl ⟨rfl,rfl⟩,u 8,cs,gh 8,hBW.set11 HCL.out,cO ho8 fun x hx=>hw x (hsb x (hs8 x hx)),hv8.later fun x hx ha=>⟨hw x (hsb x ha.1),ha⟩,hs8,fun x hx=> ?_,(hfr.mono (fun x hx=> .inl (.inl hx))).trans (F':=fun x=>x=b) (Fr.setCell (F:=fun x=>x=b) (Fr.refl _ W) (.inl rfl) _) (fun x hx=> .inl (.inr hx))⟩
      exact (f8 x hx).1.imp id (fun h=>h.1)
    obtain ⟨v,cs,S,hb6,ho6,hv6,hs6,hS6,hf6⟩:=hPd
    have hX4:=HX4.out
    have hmolt:=hX4.om.lt
    have hmklt:=hX4.km.lt
    have htag:so.ownBlock≠some mo∧so.ownBlock≠some mk∧b≠mo∧b≠mk∧mo≠mk:=⟨fun h=>by have h1:=hX4.tq _ h;rw [hX4.tmo] at h1;omega,fun h=>by have h1:=hX4.tq _ h;rw [hX4.tmk] at h1;omega,fun h=>by have h1:=hX4.tb;rw [h,hX4.tmo] at h1;omega,fun h=>by have h1:=hX4.tb;rw [h,hX4.tmk] at h1;omega,fun h=>by have h1:=hX4.tmo;rw [h,hX4.tmk] at h1;omega⟩
    have hvlt:∀x,v.ownBlock=some x→w2.heap.size≤x∨so.ownBlock=some x:=fun x hx=>hS6 x (hs6 x hx)
    have hvmo:∀x,v.ownBlock=some x→x≠mo∧x≠mk∧x≠b:=fun x hx=>by
     rcases hvlt x hx with h1|h1
     ·exact ⟨by omega,by omega,fun h=>by have:=hX4.lt;omega⟩
     ·exact ⟨fun h=>htag.1 (h▸h1),fun h=>htag.2.1 (h▸h1),fun h=>HBN.out (h▸h1)⟩
    have hmo6:MI W6 mo (N+k) Do:=am hX4.om (hf6.block mo hmolt fun h=>h.elim htag.1 (fun e=>htag.2.2.1 e.symm)) (Nat.le_refl _)
    have hmk6:MI W6 mk (N+k) Dk:=am hX4.km (hf6.block mk hmklt fun h=>h.elim htag.2.1 (fun e=>htag.2.2.2.1 e.symm)) (Nat.le_refl _)
    have hpn:pb≠b∧so.ownBlock≠some pb:=by
     have h1:=HPE.out
     exact ⟨fun h=>by have:=HX2.out.lt;omega,fun h=>by have:=(HX2.out.row.lt pb h).2;omega⟩
    have hp6:aj W6 pb zi 32:=(hf6.block pb HPB.out.lt fun h=>h.elim hpn.2 hpn.1).trans HPB.out
    obtain ⟨hc4,hc6⟩:=jG HBV.out hp6
    have hc12:=hb6.cell12 HCL.out
    have hlk9:=jO (A:=fun _=>True) ⟨mo,_,Do,rfl,trivial,hmo6,hX4.fo⟩ HFN.out.2.1
    have hlk9d:=jO (A:=fun _=>True) (w:=W6.drew) ⟨mo,_,Do,rfl,trivial,hmo6.drew,hX4.fo⟩ HFN.out.2.1
    have hNk:N+k<maxLen:=by have:=HNN.out;have:=HK.out;unfold maxLen;omega
    have HB6:=Lib.hid hb6
    have HO6:=Lib.hid ho6
    have HV6:=Lib.hid hv6
    have HS6:=Lib.hid hS6
    have HSS:=Lib.hid hs6
    have HF6:=Lib.hid hf6
    have HVL:=Lib.hid hvlt
    have HVM:=Lib.hid hvmo
    have HTG:=Lib.hid htag
    have HMO6:=Lib.hid hmo6
    have HMK6:=Lib.hid hmk6
    have HP6:=Lib.hid hp6
    have HPN:=Lib.hid hpn
    clear hb6 ho6 hv6 hs6 hS6 hf6 hvlt hvmo htag hmo6 hmk6 hp6 hpn hX4 hv
    go_upto_region 9 with fail
    go_still_tail 8,(by kernel_rfl)
    refine wpList_mapUpdate_own _ rfl _ _ _ 66 rfl 3 3 (Maps.int_keyed Tryz.underlying3) Tryz.underlying66 (plainElem Tryz.prog 3) mo (N+k) Do rfl HMO6.out hNk (.int .i64 B.onceId) _ (.int .i64 B.onceId) rfl rfl (zN HFN.out.2.1) (.lit (.int .i64 (IntKind.i64.wrap (e1.onces B.onceId+1)))) [] (plainElem_int Tryz.underlying3 (wf_wrap _ _)) (fun w7 ho7 hg7=> ?_)
    have h67:Fr (fun x=>x=mo) W6 w7:=⟨hg7.os,hg7.tape,hg7.output,hg7.size,fun x hx hn=>hg7.block x hx (fun e=>hn (by injection e))⟩
    have hb7:=h67.blk HB6.out HTG.out.2.2.1
    have hp7:aj w7 pb zi 32:=h67.blk HP6.out (fun h=>by have:=HX2.out.om.lt;have:=HPE.out;omega)
    have hmk7:MI w7 mk (N+k) Dk:=am HMK6.out (h67.block mk HMK6.out.lt (fun h=>HTG.out.2.2.2.2 h.symm)) (Nat.le_refl _)
    obtain ⟨hc4',hc6'⟩:=jG HBV.out hp7
    have hc13:=hb7.cell13 HCL.out
    have hlk10:=jO (A:=fun _=>True) ⟨mk,_,Dk,rfl,trivial,hmk7,HX4.out.fk⟩ HFN.out.2.2
    have hlk10d:=jO (A:=fun _=>True) (w:=w7.drew) ⟨mk,_,Dk,rfl,trivial,hmk7.drew,HX4.out.fk⟩ HFN.out.2.2
    have HO7:=Lib.hid ho7
    have H67:=Lib.hid h67
    have HMK7:=Lib.hid hmk7
    clear ho7 hg7 h67 hb7 hp7 hmk7 hc4 hc6 hc12 hlk9 hlk9d
    go_upto_region 10 with fail
    go_still_tail 8,(by kernel_rfl)
    refine wpList_mapUpdate_own _ rfl _ _ _ 66 rfl 3 3 (Maps.int_keyed Tryz.underlying3) Tryz.underlying66 (plainElem Tryz.prog 3) mk (N+k) Dk rfl HMK7.out hNk (.int .i64 B.kemId) _ (.int .i64 B.kemId) rfl rfl (zN HFN.out.2.2) (.lit (.int .i64 (IntKind.i64.wrap (e1.kems B.kemId+1)))) [] (plainElem_int Tryz.underlying3 (wf_wrap _ _)) (fun w8 ho8 hg8=> ?_)
    have h78:Fr (fun x=>x=mk) w7 w8:=⟨hg8.os,hg8.tape,hg8.output,hg8.size,fun x hx hn=>hg8.block x hx (fun e=>hn (by injection e))⟩
    have HO8:=Lib.hid ho8
    have H78:=Lib.hid h78
    clear ho8 hg8 h78 hc4' hc6' hc13 hlk10 hlk10d
    go_wp2
    have hX2:=HX2.out
    have hk1:=HK.out
    have ep:=HPE.out
    have h28:Fr (fun x=>so.ownBlock=some x∨x=b∨x=mo∨x=mk) wr w8:=
     ((((HF2.out.mono fun _ h=>h.elim).trans HF6.out fun x hx=> .inl (by rcases hx with h|h;exact .inl h;exact .inr (.inl h))).trans H67.out fun x hx=> .inl (.inr (.inr (.inl hx)))).trans H78.out fun x hx=> .inl (.inr (.inr (.inr hx))))
    have h68:∀x,x<W6.heap.size→x≠mo→x≠mk→w8.heap[x]?=W6.heap[x]?:=fun x hx h1 h2=>(H78.out.block x (Nat.lt_of_lt_of_le hx H67.out.size) h2).trans (H67.out.block x hx h1)
    have hwr2:wr.heap.size≤w2.heap.size:=HF2.out.size
    have hsolt:∀x,so.ownBlock=some x→x<wr.heap.size:=fun x hx=>(hX2.row.lt x hx).2
    obtain ⟨T2,hT2⟩:∃T2:Nat→Nat,T2=fun x=>if x<wr.heap.size then T1 x else if v.ownBlock=some x then t+1 else 0:=⟨_,rfl⟩
    have t2o:∀x,x<wr.heap.size→T2 x=T1 x:=fun x hx=>by rw [hT2];exact if_pos hx
    have t2n:∀x,wr.heap.size≤x→v.ownBlock≠some x→T2 x=0:=fun x hx hv=>by rw [hT2];show (if x<wr.heap.size then T1 x else if v.ownBlock=some x then t+1 else 0)=0;rw [if_neg (by omega),if_neg hv]
    have XT:∀x,v.ownBlock=some x→T2 x=t+1:=fun x hv=>by
     rcases HVL.out x hv with h|h
     ·rw [hT2];show (if x<wr.heap.size then T1 x else if v.ownBlock=some x then t+1 else 0)=t+1;rw [if_neg (by omega),if_pos hv]
     ·rw [t2o x (hsolt x h)];exact hX2.tq x h
    have ht:=HT.out
    have hm1:∀x,(so.ownBlock=some x∨x=b∨x=mo∨x=mk)→a_ T1 t x:=fun x hx=>by
     unfold a_
     rcases hx with h|rfl|rfl|rfl
     ·rw [hX2.tq x h];omega
     ·rw [hX2.tb];omega
     ·rw [hX2.tmo];omega
     ·rw [hX2.tmk];omega
    have k0:∀x,x<wr.heap.size→T1 x=0→w8.heap[x]?=wr.heap[x]?∧T2 x=0:=fun x hx h0=>⟨h28.block x hx fun h=>by have:=(hm1 x h).1;omega,(t2o x hx).trans h0⟩
    have hrow:w8.ownsRow 0 32 11 v (e1.once.length+1) (xs++cs):=cO HO6.out fun x hx=>h68 x (HO6.out.lt x hx).2 (HVM.out x hx).1 (HVM.out x hx).2.1
    have hnew:cJ (fun x=>T2 x=0) w8 B (.agg cs.toArray):=HV6.out.later fun x hx ha=>⟨h68 x hx (fun h=>by have:=hX2.om.lt;have:=ha.2.2;omega) (fun h=>by have:=hX2.km.lt;have:=ha.2.2;omega),t2n x (Nat.le_trans hwr2 ha.2.2) ha.2.1⟩
    have hbl:b<wr.heap.size:=hX2.lt
    have hX9:GW w8 T2 t (N+(k+1)) b (e1.add B) cs0 v (xs++cs) mo mk (Do.put (.int .i64 B.onceId) (.lit (.int .i64 (IntKind.i64.wrap (e1.onces B.onceId+1))))) (Dk.put (.int .i64 B.kemId) (.lit (.int .i64 (IntKind.i64.wrap (e1.kems B.kemId+1))))):=
     ⟨(h68 b HB6.out.lt HTG.out.2.2.1 HTG.out.2.2.2.1).trans HB6.out,hX2.base.later k0,(by rw [show (e1.add B).once.length=e1.once.length+1 from List.length_append];exact hrow),(hX2.rows.later k0).append hnew,am HO7.out (H78.out.block mo HO7.out.lt HTG.out.2.2.2.2) (by omega),am HO8.out rfl (by omega),Eu hX2.fo hX2.om.isMap HFN.out.2.1,Eu hX2.fk hX2.km.isMap HFN.out.2.2,(t2o b hbl).trans hX2.tb,XT,(t2o mo hX2.om.lt).trans hX2.tmo,(t2o mk hX2.km.lt).trans hX2.tmk,hX2.sb,fun B' hB'=>by
      rcases List.mem_append.1 hB' with h|h
      ·exact hX2.sl B' h
      ·rw [List.mem_singleton.1 h];exact HFN.out⟩
    have hst:=HST.out
    rw [if_pos HTK.out] at hst
    refine ⟨⟨k+1,T2,hk1,?_,?_,fun x hx=>(t2o x (Nat.lt_of_lt_of_le hx HFR.out.size)).trans (HTT.out x hx),?_,?_,fun x hx h=> ?_⟩,?_⟩
    ·rw [hst];simp
    ·simp
    ·rw [hst];exact ⟨cs0,v,xs++cs,mo,mk,_,_,hX9⟩
    ·refine HFR.out.trans h28 fun x hx=> ?_
     rcases Nat.lt_or_ge x w.heap.size with h|h
     ·have h1:=hm1 x hx
      unfold a_ at h1 ⊢
      rw [HTT.out x h] at h1
      exact .inl h1
     ·exact .inr h
    ·have h1:=h.1
     rw [t2n x (Nat.le_trans h28.size hx) (fun hv=>by have:=(hrow.lt x hv).2;omega)] at h1
     omega
    ·simp only [intOf];omega
   ·have HTK:Hid (e1.takes B=false):=Lib.hid (by simpa using htk)
    go_upto_region 7 with (first|(refine wpList_load_mid rfl 32 (.tmp 24) rfl q (k*11) rfl zi _ hrg Tryz.underlying32 rfl (by rw [aN,hzl]) ?_)|(refine wpList_store_row rfl 32 _ _ rfl wr.heap.size _ rfl rfl 32 bP (aj.new wr _ _) kL ho32 hzo ?_))
    rw [←hW1]
    clear hW1
    go_wp2_with (first|(refine wpList_load_mid rfl 32 (.tmp 10) rfl wr.heap.size 0 rfl zi _ hrp Tryz.underlying32 rfl (by rw [aN,hzl]) ?_)|(go_at_call 36;go_must (refine (qB HX3.out HB3.out HAB.out HFN.out HT.out).mono ?_;rintro r w2 ⟨rfl,hb2⟩;rw [HTK.out];have HB2:=Lib.hid hb2;clear hb2)))
    have hf2:Fr (fun _=>False) wr w2:=(Fr.of_below HW1.out).call HB2.out
    have hst:=HST.out
    rw [if_neg (by rw [HTK.out];simp)] at hst
    have hk1:=HK.out
    refine ⟨⟨k+1,T1,hk1,?_,?_,HTT.out,?_,HFR.out.trans hf2 (fun _ h=>h.elim),fun x hx=>HTX1.out x (Nat.le_trans hf2.size hx)⟩,?_⟩
    ·rw [hst]
    ·simp
    ·rw [hst];exact ⟨cs0,so,xs,mo,mk,Do,Dk,HX2.out.later (F:=fun _=>False) hf2 (fun _ _=>rfl) (fun _ h=>h.elim) (by omega) HT.out⟩
    ·simp only [intOf];omega
  ·have hkl:k=l.length:=by omega
   subst hkl
   go_wp2
   go_ret2
   rw [List.take_length] at hX1 ⊢
   exact ⟨rfl,T1,hT1,hX1,hF1,hTx1⟩
set_option linter.unusedVariables false
theorem rX {w:World} {so:Value} {n:Nat} {xs:List Value} (h:w.ownsRow 0 32 11 so (n+1) xs):∃q c cur,so= .slice (some ⟨q,0,none⟩) (n+1) c∧aj w q cur 32∧cur.length=c*11∧cur.take ((n+1)*11)=xs∧n+1≤c∧c≤maxLen:=by
 rcases h.2 with ⟨_,h0⟩|⟨q,c,cur,rfl,_,hg,h1,h2,h3,h4⟩
 ·cases h0
 ·exact ⟨q,c,cur.toList,rfl,hg,by simpa using h3,h4,h1,h2⟩
theorem Iv {w:World} {q n c:Nat} {cur xs:List Value} (hB:aj w q cur 32) (h1:cur.length=c*11) (h2:cur.take (n*11)=xs) (h3:n≤c) (h4:c≤maxLen):w.ownsRow 0 32 11 (.slice (some ⟨q,0,none⟩) n c) n xs:=by
 refine ⟨by rw [←h2,List.length_take,h1];exact Nat.min_eq_left (Nat.mul_le_mul_right _ h3),.inr ⟨q,c,cur.toArray,rfl,Nat.zero_le _,hB,h3,h4,by simpa using h1,by simpa using h2⟩⟩
def cN (w:World) (T:Nat→Nat) (x:Nat):Nat:=if x<w.heap.size then T x else 0
theorem oC {w:World} {mb m b:Nat} {D:DataW Value} {s:ByteArray} (ho:w.ownsMap Tryz.prog 9 hP mb m D) (hm:s.size≤1000) (hp:yK D s (some ⟨b,0,none⟩)):(Instr.lookup 58 (.map (some mb)) (.string s) false).run Tryz.prog w= .ok (.pointer (some ⟨b,0,none⟩)) w:=by
 obtain ⟨v,k1,k2⟩:=jX ho hm
 rw [show D.atKey (.string s.data.toList) (.held (.pointer none))= .held (.pointer (some ⟨b,0,none⟩)) from hp] at k2
 rw [←DV k2]
 exact k1
set_option maxHeartbeats 4000000 in
theorem Au (s:ByteArray) (hm:s.size≤1000) (hb:bl s=true) {w:World} {T:Nat→Nat} {t N g mb m b mo mk:Nat} {D Do Dk:DataW Value} {e:En} {B:Bn} {l:List Bn} {cs xs:List Value} {so:Value} (hE:wI w g mb m D) (hp:yK D s (some ⟨b,0,none⟩)) (hX:GW w T t N b e cs so xs mo mk Do Dk) (ho:e.once=B::l) (ht:0<t) (hTg:¬a_ T t g) (hTm:¬a_ T t mb):
  Calls Tryz.prog 14 #[.pointer (some ⟨g,0,none⟩),.string s] w fun r w'=>∃z,r= .returned (.tuple #[z,.int .i64 0])∧cJ (fun x=>cN w T x=0) w' B z∧NH w' (cN w T) t N b ⟨e.base,l,e.onces,e.kems⟩∧Fr (fun x=>T x=t+1∨x=b) w w':=by
 obtain ⟨q,c,cur,rfl,hq,hcl,hcx,hc1,hc2⟩:=rX (n:=l.length) (by have:=hX.row;rw [ho] at this;exact this)
 have hrows:=hX.rows
 rw [ho] at hrows
 obtain ⟨ds,e0,hB⟩:=hrows.at (k:=0) (by simp)
 have hds:ds=cur.take 11:=by
  rw [e0,←hcx,Nat.zero_mul,List.drop_zero,List.take_take,Nat.min_eq_left (by omega)]
 have hd11:ds.length=11:=aV hB
 have hE1:∀w1,Below w.heap.size w w1→wI w1 g mb m D:=fun w1 hb1=>⟨hE.top.below' hb1,am hE.map (hb1.block mb hE.map.lt) (Nat.le_refl _)⟩
 have hXb:∀w1,Below w.heap.size w w1→aj w1 b (cs++ [.slice (some ⟨q,0,none⟩) (l.length+1) c,.map (some mo),.map (some mk)]) 68:=fun w1 hb1=>hX.blk.below' hb1
 have hl0:cs.length=11:=aV hX.base
 have h11:∀w1,Below w.heap.size w w1→w1.cell? ⟨b,11,none⟩=some (.slice (some ⟨q,0,none⟩) (l.length+1) c):=fun w1 hb1=>by
  rw [(hXb w1 hb1).cell,List.getElem?_append_right (by omega),hl0];rfl
 have hfin:B.fine:=hX.sl B (by rw [ho];simp)
 have hlook:∀w1,Below w.heap.size w w1→Calls Tryz.prog 37 #[.pointer (some ⟨g,0,none⟩),.string s] w1 fun e w'=>∃z,e= .returned (.tuple #[z,.int .i64 0])∧Below w1.heap.size w1 w'∧cJ (fun g=>w1.heap.size≤g) w' B z:=fun w1 hb1=>
  zK (A:=fun x=>T x=0) _ s hfin.1 (fun w2 hb2=>⟨h11 w2 (Below.call hb1 hb2),hB.below (Below.call hb1 hb2),by
   have h1:=(hq.below' (Below.call hb1 hb2)).rng
   have h2:=gY (k:=0) (n:=11) h1
   rw [List.drop_zero,←hds] at h2
   exact h2⟩) fun w2 hb2=>(jz s hm hb (hE1 w2 (Below.call hb1 hb2)) hp).mono fun e w' h=>h
 have hcount:∀w1,Below w.heap.size w w1→Calls Tryz.prog 13 #[.pointer (some ⟨g,0,none⟩),.string s] w1 fun e w'=>e= .returned (.int .i64 ((l.length+1:Nat):Int))∧w1=w':=fun w1 hb1=>
  rQ _ s (h11 w1 hb1) (jz s hm hb (hE1 w1 hb1) hp)
 have hTq:T q=t+1:=hX.tq q rfl
 have HGQ:=Lib.hid (show g≠q from fun e=>hTg (e▸⟨by omega,by omega⟩))
 have HMQ:=Lib.hid (show mb≠q from fun e=>hTm (e▸⟨by omega,by omega⟩))
 have HBQ:=Lib.hid (show b≠q from fun e=>by have:=hX.tb;rw [e] at this;omega)
 clear hTg hTm hTq
 have HCS:=Lib.hid hl0
 have HONE:Hid (∀u∈cur.take ((l.length+1)*11),u.oneCell'=true):=Lib.hid (by rw [hcx];exact hX.rows.one)
 have HL:=Lib.hid hlook
 have HCn:=Lib.hid hcount
 have HE:=Lib.hid hE1
 have HXB:=Lib.hid hXb
 have H11:=Lib.hid h11
 have HX:=Lib.hid hX
 have HSM:=Lib.hid hm
 have HP:=Lib.hid hp
 have HQ:=Lib.hid hq
 have HCL:=Lib.hid hcl
 have HCX:=Lib.hid hcx
 have hc1':=hc1
 have HC1:=Lib.hid hc1'
 have HC2:=Lib.hid hc2
 have HO:=Lib.hid ho
 have HT:=Lib.hid ht
 have HRW:=Lib.hid hrows
 have hk2:(0:Int)<((l.length+1:Nat):Int):=by omega
 clear hlook hcount hE hE1 hXb h11 hX hm hb hp hq hcl hcx hc1 hc1' hc2 ho ht hB hrows e0 hds hd11 hl0 hfin
 go_enter Tryz.func14,Tryz.ntmps14
 go_upto_region 2 with (first|(go_at_call 37;go_must (refine (HL.out _ ((by repeat (first|(with_reducible refine Below.alloc' ?_ _)|(with_reducible refine Below.drew ?_)|(with_reducible refine below_drewN ?_ _)|((with_reducible refine Below.setCell ?_ ?_ _);rotate_left;(focus (first|exact Nat.le_refl _|(simp;done)|(simp;omega))))|(with_reducible assumption)|(with_reducible exact Below.refl _ _))))).mono ?_;rintro e w1 ⟨z,rfl,hb,hz⟩;obtain ⟨ys,rfl⟩:∃ys:List Value,z= .agg ys.toArray:=(by obtain ⟨ys,e,_⟩:=hz;exact ⟨ys,e⟩);have hl1:=aV hz;have kL:(Tryz.prog.info? 32).map (·.size)=some ys.toArray.size:=(by rw [aN];simp [hl1]);have ho32:bP.size=ys.toArray.size:=(by simp [hl1]);have H1:=eW hz;have HZ:=Lib.hid hz;have HBW:=Lib.hid hb;clear hz hb))|(refine wpList_store_row rfl 32 _ _ rfl w1.heap.size _ rfl rfl 32 bP (aj.new w1 _ _) kL ho32 H1 ?_))
 have hs1:w.heap.size<w1.heap.size:=by
  have h2:(w.heap.push (.cells bP 32)).size≤w1.heap.size:=HBW.out.size
  simp at h2
  omega
 have hb1:Below w.heap.size w w1:=Below.trans ((by repeat (first|(with_reducible refine Below.alloc' ?_ _)|(with_reducible refine Below.drew ?_)|(with_reducible refine below_drewN ?_ _)|((with_reducible refine Below.setCell ?_ ?_ _);rotate_left;(focus (first|exact Nat.le_refl _|(simp;done)|(simp;omega))))|(with_reducible assumption)|(with_reducible exact Below.refl _ _)))) (HBW.out.mono (by show w.heap.size≤(w.heap.push _).size;simp))
 obtain ⟨W,hW⟩:∃W,W=(w1.alloc (.cells bP 32)).setRow w1.heap.size ys.toArray:=⟨_,rfl⟩
 have hB2:aj W w1.heap.size ys 32:=by rw [hW];exact cw (aj.new w1 _ _)
 have hB3:W.heap[w.heap.size]?=some (.cells bP 32 (0,0)):=by
  rw [hW,setRow_other _ _ _ _ (by omega)]
  exact (heap_alloc_old w1 (.cells bP 32) hs1).trans ((HBW.out.block _ (by show w.heap.size<(w.heap.push _).size;simp)).trans (aj.new w _ _))
 have hbW:Below w.heap.size w W:=by rw [hW];exact below_setRow (Below.alloc' hb1 _) (by omega) _
 have hzW:cJ (fun g=>w.heap.size<g) W B (.agg ys.toArray):=by
  refine HZ.out.later fun x hx ha=>⟨?_,?_⟩
  ·rw [hW,setRow_other _ _ _ _ (by omega)]
   exact heap_alloc_old w1 (.cells bP 32) hx
  ·have ha:(w.heap.push (.cells bP 32)).size≤x:=ha
   simp at ha
   show w.heap.size<x
   omega
 have hEW:=HE.out W hbW
 have hrY:=hB2.rng
 rw [←hW]
 have HBW2:=Lib.hid hbW
 have HZW:=Lib.hid hzW
 have HEW:=Lib.hid hEW
 have HB2:=Lib.hid hB2
 clear hW hbW hzW hB2 HBW HZ hb1 hEW
 go_upto_region 3 with (go_at_call 13;go_must (refine (HCn.out _ HBW2.out).mono ?_;rintro e w2 ⟨rfl,rfl⟩))
 obtain ⟨W0,hW0⟩:∃W0,W0=W:=⟨_,rfl⟩
 rw [←hW0]
 have HXW:Hid (aj W0 b (iZ cs (.slice (some ⟨q,0,none⟩) (l.length+1) c) mo mk) 68):=Lib.hid (by rw [hW0];exact HXB.out W HBW2.out)
 have HQ0:Hid (aj W0 q cur 32):=Lib.hid (by rw [hW0];exact HQ.out.below' HBW2.out)
 have HW0:=Lib.hid hW0
 have HEW:Hid (wI W0 g mb m D):=Lib.hid (by rw [hW0];exact HEW.out)
 clear hW0
 refine YE 19 [(22,0),(0,1),(0,2),(0,3),(0,4),(0,5),(0,6),(0,7),(0,8),(0,9),(0,10),(0,11),(0,12),(0,13),(0,14),(0,15),(0,16),(0,17)] [.pointer (some ⟨g,0,none⟩),.pointer (some ⟨g,0,none⟩),.pointer (some ⟨g,0,none⟩),.map (some mb),.string s,.pointer (some ⟨b,0,none⟩),.pointer (some ⟨g,0,none⟩),.pointer (some ⟨g,0,none⟩),.pointer (some ⟨g,0,none⟩),.map (some mb),.string s,.pointer (some ⟨b,0,none⟩),.pointer (some ⟨b,0,none⟩),.pointer (some ⟨b,11,none⟩),.slice (some ⟨q,0,none⟩) (l.length+1) c,.slice (some ⟨q,0,none⟩) l.length c,.pointer (some ⟨b,0,none⟩),.pointer (some ⟨b,11,none⟩),undef] [15,18] (fun j W=>match j with |0=>Below W0.heap.size W0 W|1=>Fr (fun x=>x=q) W0 W∧∃xs',aj W q xs' 32∧xs'.length=c*11∧xs'.take (l.length*11)=(cur.drop 11).take (l.length*11)|_=>∃W1,(Fr (fun x=>x=q) W0 W1∧∃xs',aj W1 q xs' 32∧xs'.length=c*11∧xs'.take (l.length*11)=(cur.drop 11).take (l.length*11))∧W=W1.setCell ⟨b,11,none⟩ (.slice (some ⟨q,0,none⟩) l.length c)) ?_ (by intro k hk;simp at hk;omega) ?_ (fun u6 W6 hPd hv=> ?_)
 ·exact (Below.refl _ _).drew
 ·refine ⟨?_,?_,?_,?_,?_,?_,?_,?_,?_,?_,?_,?_,?_,?_,?_,?_,?_,?_,?_,trivial⟩
  ·refine wP (by decide) fun u W j hP h1 h2 hu=> ?_
   clear hP h1 h2
   go_simp
  ·refine wP (by decide) fun u W j hP h1 h2 hu=> ?_
   have e0:u 0= .pointer (some ⟨g,0,none⟩):=hu 0 (by kernel_rfl)
   clear hP h1 h2
   go_simp
  ·refine wP (by decide) fun u W j hP h1 h2 hu=> ?_
   have e1:u 1= .pointer (some ⟨g,0,none⟩):=hu 1 (by kernel_rfl)
   clear hP h1 h2
   go_simp
  ·refine wP (by decide) fun u W j hP h1 h2 hu=> ?_
   have e2:u 2= .pointer (some ⟨g,0,none⟩):=hu 2 (by kernel_rfl)
   have hf:Fr (fun x=>x=q) W0 W:=by
    have hj:j≤1:=h2 1 18 rfl (.one (by kernel_rfl))
    rcases j with _|_|j
    ·exact Fr.of_below hP
    ·exact hP.1
    ·omega
   clear hP h1 h2
   have hcx:W.cell? ⟨g,0,none⟩=some (.map (some mb)):=(hf.blk HEW.out.top HGQ.out).cell 0
   go_simp
  ·refine wP (by decide) fun u W j hP h1 h2 hu=> ?_
   clear hP h1 h2
   go_simp
  ·refine wP (by decide) fun u W j hP h1 h2 hu=> ?_
   have e3:u 3= .map (some mb):=hu 3 (by kernel_rfl)
   have e4:u 4= .string s:=hu 4 (by kernel_rfl)
   have hf:Fr (fun x=>x=q) W0 W:=by
    have hj:j≤1:=h2 1 18 rfl (.one (by kernel_rfl))
    rcases j with _|_|j
    ·exact Fr.of_below hP
    ·exact hP.1
    ·omega
   clear hP h1 h2
   have hcx:(Instr.lookup 58 (.map (some mb)) (.string s) false).run Tryz.prog W= .ok (.pointer (some ⟨b,0,none⟩)) W:=oC (am HEW.out.map (hf.block mb HEW.out.map.lt HMQ.out) (Nat.le_refl _)) HSM.out HP.out
   go_simp
  ·refine wP (by decide) fun u W j hP h1 h2 hu=> ?_
   clear hP h1 h2
   go_simp
  ·refine wP (by decide) fun u W j hP h1 h2 hu=> ?_
   have e6:u 6= .pointer (some ⟨g,0,none⟩):=hu 6 (by kernel_rfl)
   clear hP h1 h2
   go_simp
  ·refine wP (by decide) fun u W j hP h1 h2 hu=> ?_
   have e7:u 7= .pointer (some ⟨g,0,none⟩):=hu 7 (by kernel_rfl)
   clear hP h1 h2
   go_simp
  ·refine wP (by decide) fun u W j hP h1 h2 hu=> ?_
   have e8:u 8= .pointer (some ⟨g,0,none⟩):=hu 8 (by kernel_rfl)
   have hj:j=0:=by have:=h2 0 15 rfl (.cons (c:=14) (by kernel_rfl) (.cons (c:=13) (by kernel_rfl) (.cons (c:=12) (by kernel_rfl) (.cons (c:=11) (by kernel_rfl) (.one (by kernel_rfl))))));omega
   subst hj
   have hP:Below W0.heap.size W0 W:=hP
   have hf:Fr (fun x=>x=q) W0 W:=Fr.of_below hP
   clear hP h1 h2
   have hcx:W.cell? ⟨g,0,none⟩=some (.map (some mb)):=(hf.blk HEW.out.top HGQ.out).cell 0
   go_simp
  ·refine wP (by decide) fun u W j hP h1 h2 hu=> ?_
   clear hP h1 h2
   go_simp
  ·refine wP (by decide) fun u W j hP h1 h2 hu=> ?_
   have e9:u 9= .map (some mb):=hu 9 (by kernel_rfl)
   have e10:u 10= .string s:=hu 10 (by kernel_rfl)
   have hj:j=0:=by have:=h2 0 15 rfl (.cons (c:=14) (by kernel_rfl) (.cons (c:=13) (by kernel_rfl) (.cons (c:=12) (by kernel_rfl) (.one (by kernel_rfl)))));omega
   subst hj
   have hP:Below W0.heap.size W0 W:=hP
   have hf:Fr (fun x=>x=q) W0 W:=Fr.of_below hP
   clear hP h1 h2
   have hcx:(Instr.lookup 58 (.map (some mb)) (.string s) false).run Tryz.prog W= .ok (.pointer (some ⟨b,0,none⟩)) W:=oC (am HEW.out.map (hf.block mb HEW.out.map.lt HMQ.out) (Nat.le_refl _)) HSM.out HP.out
   go_simp
  ·refine wP (by decide) fun u W j hP h1 h2 hu=> ?_
   have e11:u 11= .pointer (some ⟨b,0,none⟩):=hu 11 (by kernel_rfl)
   clear hP h1 h2
   go_simp
  ·refine wP (by decide) fun u W j hP h1 h2 hu=> ?_
   have e12:u 12= .pointer (some ⟨b,0,none⟩):=hu 12 (by kernel_rfl)
   clear hP h1 h2
   go_simp
  ·refine wP (by decide) fun u W j hP h1 h2 hu=> ?_
   have e13:u 13= .pointer (some ⟨b,11,none⟩):=hu 13 (by kernel_rfl)
   have hj:j=0:=by have:=h2 0 15 rfl (.one (by kernel_rfl));omega
   subst hj
   have hP:Below W0.heap.size W0 W:=hP
   have hf:Fr (fun x=>x=q) W0 W:=Fr.of_below hP
   clear hP h1 h2
   have hcx:W.cell? ⟨b,11,none⟩=some (.slice (some ⟨q,0,none⟩) (l.length+1) c):=(hf.blk HXW.out HBQ.out).cell11 HCS.out
   go_simp
  ·refine Yc (t:=0) rfl (by decide) (fun s k hs=>absurd hs (Nat.not_lt_zero s)) fun u W hP hu K hK=> ?_
   have e14:u 14= .slice (some ⟨q,0,none⟩) (l.length+1) c:=hu 14 (by kernel_rfl)
   have hP:Below W0.heap.size W0 W:=hP
   go_simp
   go_at_call 38
   refine (K0 (n:=l.length) (c:=c) (HQ0.out.below' hP) HCL.out HONE.out HC1.out HC2.out).mono ?_
   rintro e9 w9 ⟨rfl,xs',hq9,hl9,ht9,hf9⟩
   have hk9:=hK.out w9 ⟨(Fr.of_below hP).trans hf9 (fun x hx=> .inl hx),xs',hq9,hl9,ht9⟩
   first |exact hk9|(simp only [List.getD_cons_zero,List.getD_cons_succ,e14] at hk9;exact hk9)
  ·refine wP (by decide) fun u W j hP h1 h2 hu=> ?_
   have e0:u 0= .pointer (some ⟨g,0,none⟩):=hu 0 (by kernel_rfl)
   have e1:u 1= .pointer (some ⟨g,0,none⟩):=hu 1 (by kernel_rfl)
   have e2:u 2= .pointer (some ⟨g,0,none⟩):=hu 2 (by kernel_rfl)
   have e3:u 3= .map (some mb):=hu 3 (by kernel_rfl)
   have e4:u 4= .string s:=hu 4 (by kernel_rfl)
   have e5:u 5= .pointer (some ⟨b,0,none⟩):=hu 5 (by kernel_rfl)
   have e6:u 6= .pointer (some ⟨g,0,none⟩):=hu 6 (by kernel_rfl)
   have e7:u 7= .pointer (some ⟨g,0,none⟩):=hu 7 (by kernel_rfl)
   have e8:u 8= .pointer (some ⟨g,0,none⟩):=hu 8 (by kernel_rfl)
   have e9:u 9= .map (some mb):=hu 9 (by kernel_rfl)
   have e10:u 10= .string s:=hu 10 (by kernel_rfl)
   have e11:u 11= .pointer (some ⟨b,0,none⟩):=hu 11 (by kernel_rfl)
   have e12:u 12= .pointer (some ⟨b,0,none⟩):=hu 12 (by kernel_rfl)
   have e13:u 13= .pointer (some ⟨b,11,none⟩):=hu 13 (by kernel_rfl)
   have e14:u 14= .slice (some ⟨q,0,none⟩) (l.length+1) c:=hu 14 (by kernel_rfl)
   have e15:u 15= .slice (some ⟨q,0,none⟩) l.length c:=hu 15 (by kernel_rfl)
   clear hP h1 h2
   go_simp
  ·refine wP (by decide) fun u W j hP h1 h2 hu=> ?_
   have e0:u 0= .pointer (some ⟨g,0,none⟩):=hu 0 (by kernel_rfl)
   have e1:u 1= .pointer (some ⟨g,0,none⟩):=hu 1 (by kernel_rfl)
   have e2:u 2= .pointer (some ⟨g,0,none⟩):=hu 2 (by kernel_rfl)
   have e3:u 3= .map (some mb):=hu 3 (by kernel_rfl)
   have e4:u 4= .string s:=hu 4 (by kernel_rfl)
   have e5:u 5= .pointer (some ⟨b,0,none⟩):=hu 5 (by kernel_rfl)
   have e6:u 6= .pointer (some ⟨g,0,none⟩):=hu 6 (by kernel_rfl)
   have e7:u 7= .pointer (some ⟨g,0,none⟩):=hu 7 (by kernel_rfl)
   have e8:u 8= .pointer (some ⟨g,0,none⟩):=hu 8 (by kernel_rfl)
   have e9:u 9= .map (some mb):=hu 9 (by kernel_rfl)
   have e10:u 10= .string s:=hu 10 (by kernel_rfl)
   have e11:u 11= .pointer (some ⟨b,0,none⟩):=hu 11 (by kernel_rfl)
   have e12:u 12= .pointer (some ⟨b,0,none⟩):=hu 12 (by kernel_rfl)
   have e13:u 13= .pointer (some ⟨b,11,none⟩):=hu 13 (by kernel_rfl)
   have e14:u 14= .slice (some ⟨q,0,none⟩) (l.length+1) c:=hu 14 (by kernel_rfl)
   have e15:u 15= .slice (some ⟨q,0,none⟩) l.length c:=hu 15 (by kernel_rfl)
   have e16:u 16= .pointer (some ⟨b,0,none⟩):=hu 16 (by kernel_rfl)
   clear hP h1 h2
   go_simp
  ·refine Yc (t:=1) rfl (by decide) (fun s9 k9 hs9 hk9=> ?_) (fun u W hP hu K hK=> ?_)
   ·have h9:s9=0:=by omega
    subst h9;cases hk9;exact (.one (by kernel_rfl))
   have e0:u 0= .pointer (some ⟨g,0,none⟩):=hu 0 (by kernel_rfl)
   have e1:u 1= .pointer (some ⟨g,0,none⟩):=hu 1 (by kernel_rfl)
   have e2:u 2= .pointer (some ⟨g,0,none⟩):=hu 2 (by kernel_rfl)
   have e3:u 3= .map (some mb):=hu 3 (by kernel_rfl)
   have e4:u 4= .string s:=hu 4 (by kernel_rfl)
   have e5:u 5= .pointer (some ⟨b,0,none⟩):=hu 5 (by kernel_rfl)
   have e6:u 6= .pointer (some ⟨g,0,none⟩):=hu 6 (by kernel_rfl)
   have e7:u 7= .pointer (some ⟨g,0,none⟩):=hu 7 (by kernel_rfl)
   have e8:u 8= .pointer (some ⟨g,0,none⟩):=hu 8 (by kernel_rfl)
   have e9:u 9= .map (some mb):=hu 9 (by kernel_rfl)
   have e10:u 10= .string s:=hu 10 (by kernel_rfl)
   have e11:u 11= .pointer (some ⟨b,0,none⟩):=hu 11 (by kernel_rfl)
   have e12:u 12= .pointer (some ⟨b,0,none⟩):=hu 12 (by kernel_rfl)
   have e13:u 13= .pointer (some ⟨b,11,none⟩):=hu 13 (by kernel_rfl)
   have e14:u 14= .slice (some ⟨q,0,none⟩) (l.length+1) c:=hu 14 (by kernel_rfl)
   have e15:u 15= .slice (some ⟨q,0,none⟩) l.length c:=hu 15 (by kernel_rfl)
   have e17:u 17= .pointer (some ⟨b,11,none⟩):=hu 17 (by kernel_rfl)
   have hP:Fr (fun x=>x=q) W0 W∧∃xs',aj W q xs' 32∧xs'.length=c*11∧xs'.take (l.length*11)=(cur.drop 11).take (l.length*11):=hP
   obtain ⟨hf8,xs',hq8,hl8,ht8⟩:=hP
   have hB8:=hf8.blk HXW.out HBQ.out
   have hc8:=hB8.cell11 HCS.out
   have hz8:=hB8.frozen 11
   go_simp
   have hk9:=hK.out _ ⟨W,⟨hf8,xs',hq8,hl8,ht8⟩,rfl⟩
   first |exact hk9|(simp only [List.getD_cons_zero,List.getD_cons_succ,e0,e1,e2,e3,e4,e5,e6,e7,e8,e9,e10,e11,e12,e13,e14,e15,e17] at hk9;exact hk9)
 obtain ⟨W1,⟨hf1,xs',hq1,hlx,htx⟩,rfl⟩:=hPd
 have hbl:b<w.heap.size:=HX.out.blk.lt
 have hql:q<w.heap.size:=HQ.out.lt
 obtain ⟨V,hV⟩:∃V,V=W1.setCell ⟨b,11,none⟩ (.slice (some ⟨q,0,none⟩) l.length c):=⟨_,rfl⟩
 have hB1:aj W1 b (iZ cs (.slice (some ⟨q,0,none⟩) (l.length+1) c) mo mk) 68:=hf1.blk HXW.out HBQ.out
 have hVb:aj V b (iZ cs (.slice (some ⟨q,0,none⟩) l.length c) mo mk) 68:=by rw [hV];exact hB1.set11 HCS.out
 have hVq:aj V q xs' 32:=by rw [hV];exact hq1.other _ (by show b≠q;exact HBQ.out) _
 have hVf:Fr (fun x=>x=q∨x=b) W0 V:=by rw [hV];exact (hf1.mono (fun x hx=> .inl (.inl hx))).setCell (.inl (.inr rfl)) _
 have hy:aj V w1.heap.size ys 32:=(hVf.block _ (by rw [HW0.out];exact HB2.out.lt) (by omega)).trans (by rw [HW0.out];exact HB2.out)
 have hB4:V.heap[w.heap.size]?=some (.cells bP 32 (0,0)):=(hVf.block _ (by rw [HW0.out];exact (Array.getElem?_eq_some_iff.1 hB3).1) (by omega)).trans (by rw [HW0.out];exact hB3)
 have hry:=hy.rng
 rw [←hV]
 have HVB:=Lib.hid hVb
 have HVQ:=Lib.hid hVq
 have HVF:=Lib.hid hVf
 have HLX:=Lib.hid hlx
 have HTX:=Lib.hid htx
 clear hV hVb hVq hVf hlx htx hf1 hq1 hB1 hy hv hrY
 go_wp2_with (first|(refine wpList_load_mid rfl 32 (.tmp 6) rfl w1.heap.size 0 rfl ys _ hry Tryz.underlying32 rfl (by rw [aN,hl1]) ?_)|(refine wpList_store_row rfl 32 _ _ rfl w.heap.size _ rfl rfl 32 bP hB4 kL ho32 H1 ?_))
 refine bodyPost_ret (eX (g:=w.heap.size) Tryz.results14 _ _ rfl (cw (cs:=bP.toList) hB4) hl1) ?_ ?_
 ·rfl
 ·have hWf:Fr (fun x=>T x=t+1∨x=b) w V:=(Fr.of_below (by rw [HW0.out];exact HBW2.out:Below w.heap.size w W0)).trans HVF.out (fun x hx=> .inl (by rcases hx with rfl|rfl;exact .inl (HX.out.tq _ rfl);exact .inr rfl))
  have hWf2:=hWf.setRow (g:=w.heap.size) (.inr (Nat.le_refl _)) ys.toArray
  have k0:∀x,x<w.heap.size→T x=0→(V.setRow w.heap.size ys.toArray).heap[x]?=w.heap[x]?∧cN w T x=0:=fun x hx h0=>⟨hWf2.block x hx (fun h=>by rcases h with h|h;omega;have:=HX.out.tb;rw [←h,h0] at this;have:=HT.out;omega),by rw [cN,if_pos hx,h0]⟩
  have k1:∀x,x<w.heap.size→x≠q→x≠b→T x≠t+1→(V.setRow w.heap.size ys.toArray).heap[x]?=w.heap[x]?:=fun x hx h1 h2 h3=>hWf2.block x hx (fun h=>by rcases h with h|h;exact h3 h;exact h2 h)
  have hlo:=HX.out.om.lt
  have hlk:=HX.out.km.lt
  have tb:=HX.out.tb
  have tmo:=HX.out.tmo
  have tmk:=HX.out.tmk
  obtain ⟨cs0,r,ex,hB0,hr⟩:=HRW.out
  have h0l:=aV hB0
  have er:xs'.take (l.length*11)=r:=by
   rw [HTX.out,show l.length*11=(l.length+1)*11-11 by omega,←List.drop_take,HCX.out,ex,←h0l,List.drop_left]
  refine ⟨_,rfl,HZW.out.later fun x hx ha=>⟨?_,?_⟩,⟨cs,.slice (some ⟨q,0,none⟩) l.length c,r,mo,mk,Do,Dk,?_⟩,hWf2⟩
  ·have ha:w.heap.size<x:=ha
   rw [setRow_other _ _ _ _ (by omega)]
   refine (HVF.out.block x (by rw [HW0.out];exact hx) (by omega)).trans (by rw [HW0.out])
  ·have ha:w.heap.size<x:=ha
   rw [cN,if_neg (by omega)]
  ·exact ⟨(setRow_other _ _ _ _ (by omega)).trans HVB.out,HX.out.base.later k0,Iv ((setRow_other _ _ _ _ (by omega)).trans HVQ.out) HLX.out er (by have:=HC1.out;omega) HC2.out,hr.later k0,am HX.out.om (k1 mo hlo (fun e=>by have:=HX.out.tq q rfl;rw [←e] at this;omega) (fun e=>by rw [e] at tmo;omega) (by omega)) (Nat.le_refl _),am HX.out.km (k1 mk hlk (fun e=>by have:=HX.out.tq q rfl;rw [←e] at this;omega) (fun e=>by rw [e] at tmk;omega) (by omega)) (Nat.le_refl _),HX.out.fo,HX.out.fk,by rw [cN,if_pos hbl,tb],fun q' hq'=>by cases hq';rw [cN,if_pos hql];exact HX.out.tq q rfl,by rw [cN,if_pos hlo,tmo],by rw [cN,if_pos hlk,tmk],HX.out.sb,fun B' hB'=>HX.out.sl B' (by rw [HO.out];exact List.mem_cons_of_mem _ hB')⟩
set_option linter.unusedVariables false
def wu (w:World) (g:Nat) (s:ByteArray) (T:Nat→Nat) (N:Nat) (e:En):Prop:=∃mb m D b,wI w g mb m D∧yK D s (some ⟨b,0,none⟩)∧NH w T 4 N b e∧¬a_ T 4 g∧¬a_ T 4 mb∧∀x,w.heap.size≤x→¬a_ T 4 x
theorem wu.below {w w':World} {g N:Nat} {s:ByteArray} {T:Nat→Nat} {e:En} (h:wu w g s T N e) (hb:Below w.heap.size w w'):wu w' g s T N e:=by
 obtain ⟨mb,m,D,b,h1,h2,h3,h4,h5,h6⟩:=h
 exact ⟨mb,m,D,b,⟨h1.top.below' hb,am h1.map (hb.block mb h1.map.lt) (Nat.le_refl _)⟩,h2,h3.later (F:=fun _=>False) (Fr.of_below hb) (fun _ _=>rfl) (fun _ h=>h.elim) (Nat.le_refl _) (by decide),h4,h5,fun x hx=>h6 x (Nat.le_trans hb.size hx)⟩
theorem wu.new {w:World} {g N:Nat} {s:ByteArray} {T:Nat→Nat} {e:En} (h:wu w g s T N e):∀x,w.heap.size≤x→¬a_ T 4 x:=by
 obtain ⟨mb,m,D,b,h1,h2,h3,h4,h5,h6⟩:=h
 exact h6
open Classical in
theorem Md (s:ByteArray) (hm:s.size≤1000) (hb:bl s=true) {w:World} {A:Nat→Prop} {g:Nat} {B:Bn} {cs:List Value} (hg:aj w g [.map none] 60) (hB:cJ A w B (.agg cs.toArray)) (h1:B.onceId=0) (h2:B.kemId=0) (h3:aX B 1=0) (hs:B.fine) (hAg:¬A g):
  Calls Tryz.prog 10 #[.pointer (some ⟨g,0,none⟩),.string s,.agg cs.toArray] w fun r w'=>r= .returned (.int .i64 0)∧∃T,wu w' g s T 1 ⟨B,[],fun _=>0,fun _=>0⟩∧(∀x,x<w.heap.size→¬a_ T 4 x)∧Fr (fun x=>x=g) w w':=by
 refine (qz s hm hb hg hB h1 h2 h3 hs.1 hAg).mono fun r w' ⟨hr,b,ds,mo,mk,mb,S,k1,k2,k3,k4,sb,s1,s2,hne,n1,n2,o1,o2,hS,hmb,hf⟩=>⟨hr,?_⟩
 obtain ⟨T,hT⟩:∃T:Nat→Nat,T=fun x=>if x=b then 4 else if x=mo then 6 else if x=mk then 7 else if S x then 0 else 3:=⟨_,rfl⟩
 have tb:T b=4:=by rw [hT];exact if_pos rfl
 have tmo:T mo=6:=by rw [hT];show (if mo=b then 4 else if mo=mo then 6 else _)=6;rw [if_neg (Ne.symm n1),if_pos rfl]
 have tmk:T mk=7:=by rw [hT];show (if mk=b then 4 else if mk=mo then 6 else if mk=mk then 7 else _)=7;rw [if_neg (Ne.symm n2),if_neg (Ne.symm hne),if_pos rfl]
 have t0:∀x,S x∧x≠mo∧x≠mk∧x≠b→T x=0:=fun x ⟨a1,a2,a3,a4⟩=>by rw [hT];show (if x=b then 4 else if x=mo then 6 else if x=mk then 7 else if S x then 0 else 3)=0;rw [if_neg a4,if_neg a2,if_neg a3,if_pos a1]
 have tn:∀x,x≠b→x≠mo→x≠mk→¬a_ T 4 x:=fun x a1 a2 a3 h=>by
  have h4:=h.1
  rw [hT] at h4
  have h4:4≤(if x=b then 4 else if x=mo then 6 else if x=mk then 7 else if S x then 0 else 3):=h4
  rw [if_neg a1,if_neg a2,if_neg a3] at h4
  split at h4<;>omega
 have hlt:∀x,x<w.heap.size→¬a_ T 4 x:=fun x hx=>tn x (fun e=>by have:=(hS b sb).1;omega) (fun e=>by have:=(hS mo s1).1;omega) (fun e=>by have:=(hS mk s2).1;omega)
 refine ⟨T,⟨mb,1,_,b,⟨k1,k2⟩,?_,⟨ds,.slice none 0 0,[],mo,mk,.map [],.map [],?_⟩,hlt g hg.lt,tn mb (fun e=>(hS b sb).2 e.symm) (fun e=>(hS mo s1).2 e.symm) (fun e=>(hS mk s2).2 e.symm),fun x hx=>tn x (fun e=>by have:=k3.lt;omega) (fun e=>by have:=o1.lt;omega) (fun e=>by have:=o2.lt;omega)⟩,hlt,hf⟩
 ·exact Maps.atKey_put_same ⟨[],rfl⟩ (by trivial) _ _
 ·exact ⟨k3,k4.later fun x _ ha=>⟨rfl,t0 x ha⟩,World.ownsRow_nil w' 0 32 11,rfl,am o1 rfl (by decide),am o2 rfl (by decide),fun _ _=>rfl,fun _ _=>rfl,tb,fun q hq=>(by cases hq),tmo,tmk,hs,fun B' h=>(by cases h)⟩
theorem wN (s:ByteArray) (hm:s.size≤1000) (hb:bl s=true) {w:World} {g N q c:Nat} {T:Nat→Nat} {e:En} {l:List Bn} {zs:List Value} {A:Nat→Prop} (h:wu w g s T N e) (hAm:∀x,A x→¬a_ T 4 x) (hq:w.rangeAt q 0 zs) (hz:cI A w zs l) (hTq:A q) (hl:∀B∈l,B.fine) (hN:N+l.length≤1000000):
  Calls Tryz.prog 12 #[.pointer (some ⟨g,0,none⟩),.string s,.slice (some ⟨q,0,none⟩) l.length c] w fun r w'=>r= .returned (.tuple #[.int .i64 ((e.adds l).2:Int),.int .i64 0])∧∃T',(∀x,x<w.heap.size→T' x=T x)∧wu w' g s T' (N+l.length) (e.adds l).1∧Fr (a_ T 4) w w':=by
 obtain ⟨mb,m,D,b,h1,h2,h3,h4,h5,h6⟩:=h
 refine (GG s hm hb h1 h2 h3 (by decide) h4 h5 h6 hAm hq hz hTq hl hN).mono fun r w' ⟨hr,T',hT,hX,hf,hx⟩=>⟨hr,T',hT,⟨mb,m,D,b,⟨hf.blk h1.top h4,am h1.map (hf.block mb h1.map.lt h5) (Nat.le_refl _)⟩,h2,hX,fun k=>h4 ?_,fun k=>h5 ?_,hx⟩,hf⟩
 ·unfold a_ at *;rw [hT g h1.top.lt] at k;exact k
 ·unfold a_ at *;rw [hT mb h1.map.lt] at k;exact k
theorem mM (s:ByteArray) (hm:s.size≤1000) (hb:bl s=true) {w:World} {g N:Nat} {T:Nat→Nat} {e:En} (h:wu w g s T N e):Calls Tryz.prog 13 #[.pointer (some ⟨g,0,none⟩),.string s] w fun r w'=>r= .returned (.int .i64 (e.once.length:Int))∧w=w':=by
 obtain ⟨mb,m,D,b,h1,h2,⟨cs,so,xs,mo,mk,Do,Dk,hX⟩,h4,h5,h6⟩:=h
 obtain ⟨a,n,c,e1⟩:=lZ hX.row
 subst e1
 have hn:n=e.once.length:=by
  rcases hX.row.2 with ⟨e1,e2⟩|⟨g,c,cur,e1,_⟩
  ·cases e1;exact e2.symm
  ·cases e1;rfl
 subst hn
 exact rQ _ s (hX.blk.cell11 (aV hX.base)) (jz s hm hb h1 h2)
theorem GB (s:ByteArray) (hm:s.size≤1000) (hb:bl s=true) {w:World} {g N:Nat} {T:Nat→Nat} {e:En} {B:Bn} {l:List Bn} (h:wu w g s T N e) (ho:e.once=B::l):Calls Tryz.prog 14 #[.pointer (some ⟨g,0,none⟩),.string s] w fun r w'=>∃z T' A,r= .returned (.tuple #[z,.int .i64 0])∧cJ A w' B z∧(∀x,x<w.heap.size→T' x=T x)∧wu w' g s T' N ⟨e.base,l,e.onces,e.kems⟩∧Fr (a_ T 4) w w':=by
 obtain ⟨mb,m,D,b,h1,h2,⟨cs,so,xs,mo,mk,Do,Dk,hX⟩,h4,h5,h6⟩:=h
 refine (Au s hm hb h1 h2 hX ho (by decide) h4 h5).mono fun r w' ⟨z,hr,hz,hE,hf⟩=> ?_
 have hT:∀x,x<w.heap.size→cN w T x=T x:=fun x hx=>if_pos hx
 have hf2:Fr (a_ T 4) w w':=hf.mono fun x hx=> .inl (by rcases hx with h|rfl;exact ⟨by omega,by omega⟩;exact ⟨by rw [hX.tb];exact Nat.le_refl _,by rw [hX.tb];omega⟩)
 refine ⟨z,_,_,hr,hz,hT,⟨mb,m,D,b,⟨hf2.blk h1.top h4,am h1.map (hf2.block mb h1.map.lt h5) (Nat.le_refl _)⟩,h2,hE,fun k=>h4 ?_,fun k=>h5 ?_,fun x hx k=> ?_⟩,hf2⟩
 ·unfold a_ at *;rw [hT g h1.top.lt] at k;exact k
 ·unfold a_ at *;rw [hT mb h1.map.lt] at k;exact k
 ·have h0:=k.1
  rw [cN,if_neg (by have:=hf.size;omega)] at h0
  omega
theorem Kx (s:ByteArray) (hm:s.size≤1000) (hb:bl s=true) {w:World} {g N:Nat} {T:Nat→Nat} {e:En} (h:wu w g s T N e) (ho:e.once= []):Calls Tryz.prog 14 #[.pointer (some ⟨g,0,none⟩),.string s] w fun r w'=>∃z A,r= .returned (.tuple #[z,.int .i64 0])∧cJ A w' e.base z∧Below w.heap.size w w':=by
 obtain ⟨mb,m,D,b,h1,h2,⟨cs,so,xs,mo,mk,Do,Dk,hX⟩,h4,h5,h6⟩:=h
 have hS:wu w g s T N e:=⟨mb,m,D,b,h1,h2,⟨cs,so,xs,mo,mk,Do,Dk,hX⟩,h4,h5,h6⟩
 obtain ⟨a,c,e1⟩:∃a c,so= .slice a 0 c:=by
  rcases hX.row.2 with ⟨e1,e2⟩|⟨g,c,cur,e1,_⟩
  ·exact ⟨none,0,e1⟩
  ·rw [ho] at e1;exact ⟨_,_,e1⟩
 subst e1
 have hE:∀w1,Below w.heap.size w w1→wI w1 g mb m D:=fun w1 hb1=>⟨h1.top.below' hb1,am h1.map (hb1.block mb h1.map.lt) (Nat.le_refl _)⟩
 refine (Am (B:=e.base) _ s (fun w1 hb1=>Gv (A:=fun x=>T x=0) (b:=b) (a:=a) (c:=c) (cs:=cs) _ s hX.sb.1 (fun w2 hb2=> ?_) fun w2 hb2=>(jz s hm hb (hE w2 (Below.call hb1 hb2)) h2)) fun w1 hb1=> ?_).mono fun r w' ⟨z,hr,hbl,hz⟩=>⟨z,_,hr,hz,hbl⟩
 ·have hb3:=Below.call hb1 hb2
  have hB:=hX.blk.below' hb3
  refine ⟨hB.cell11 (aV hX.base),hX.base.below hb3,fun j v hv=> ?_⟩
  rw [Nat.zero_add,hB.cell,List.getElem?_append_left (List.getElem?_eq_some_iff.1 hv).1,hv]
 ·have:=mM s hm hb (hS.below hb1)
  rw [ho] at this
  exact this
end Go.Proofs.YtknlbpjcjdenbaaGreat
namespace Go.Proofs.YtknlbpjcjdenbaaGreat
open Go Go.RowKit
def OA (T:List WP) (i:Nat) (_L:Nat→Bool) (u:Nat→Value) (W:World):Prop:=(T.getD i fj).P (u i) W
def UE (w1:World) (_L:Nat→Bool) (_u:Nat→Value) (W:World):Prop:=Below w1.heap.size w1 W
section
variable {w1:World} {T:List WP} {ops:Array Oper} {wt:Nat→Nat→Bool} {Q:Exit→Act→World→Prop} {fr:(Nat→Value)→Array Value} {df:List Deferred} {i:Nat} {o:Oper}
theorem JV:E8 wt (OA T):=⟨fun _ _ _ _ _ _ hki _ h=>by unfold OA at *;rw [dA hki];exact h,fun _ _ _ _ _ hb h=>(T.getD _ fj).st _ _ _ h hb⟩
theorem X8 (hr:∀u W,Below w1.heap.size w1 W→(∀j,wt i j=true→(T.getD j fj).P (u j) W)→∀K:Act→World→Prop,Shut (∀v w',Below W.heap.size W w'→(T.getD i fj).P v w'→K ((⟨fr u,df⟩:Act).put o.dst v) w')→Oper.wp Tryz.prog o ⟨fr u,df⟩ W K Q) (hg:o.guard=none:=by rfl):
  cY Tryz.prog ops wt Q fr df (OA T) (UE w1) i o:=by
 intro L u W hcl hJ hG hL hdep K hK
 rw [if_pos (by simp [Region.wanted,hg])]
 refine hr u W hJ (fun j hw=>hG j (hdep j hw)) K (fun v w' hb hv=> ?_)
 exact hK.out _ w' (Below.call hJ hb) (fun k hk hki hwk h=>by unfold OA at *;rw [dA hki];exact (T.getD k fj).st _ _ _ h hb) (by unfold OA;rw [cq];exact hv)
theorem YG (hr:∀u W,Below w1.heap.size w1 W→(∀j,wt i j=true→(T.getD j fj).P (u j) W)→∃v W',(execOp (⟨fr u,df⟩:Act).eval o).run Tryz.prog W= .ok (.value v) W'∧(T.getD i fj).P v W'∧Below W.heap.size W W') (hg:o.guard=none:=by rfl):
  cY Tryz.prog ops wt Q fr df (OA T) (UE w1) i o:=
 X8 (fun u W hb hu K hK=>by
  obtain ⟨v,W',hrun,hv,hb'⟩:=hr u W hb hu
  unfold Oper.wp
  rw [hrun]
  exact hK.out v W' hb' hv) hg
theorem mP {x:Value} (hT:T.getD i fj=gn x) (hr:∀u W,Below w1.heap.size w1 W→(∀j,wt i j=true→(T.getD j fj).P (u j) W)→(execOp (⟨fr u,df⟩:Act).eval o).run Tryz.prog W= .ok (.value x) W) (hg:o.guard=none:=by rfl):
  cY Tryz.prog ops wt Q fr df (OA T) (UE w1) i o:=
 YG (fun u W hb hu=>⟨x,W,hr u W hb hu,by rw [hT];rfl,Below.refl _ _⟩) hg
end
section
variable {F:List Value} {fr:(Nat→Value)→Array Value} {df:List Deferred} {ops:Array Oper} {id:Nat} {Q:Exit→Act→World→Prop} {w:World}
theorem XM (n:Nat) (p:List (Nat×Nat)) (T:List WP)
  (hsteps:dP Tryz.prog ops (fM .any ops) Q fr df (OA T) (UE w) 0 ops.toList)
  (hdone:∀u W,Below w.heap.size w W→(∀k,k<n→(T.getD k fj).P (u k) W)→Q .normal ⟨fr u,df⟩ W)
  (hF:∀u,(oA F p u).toArray=fr u:=by intro u;dsimp only [oA];try exact rfl)
  (hc:LP p ops=true:=by kernel_rfl) (hn:ops.size=n:=by kernel_rfl) (hm:Tryz.prog.follows .mixedOrders=true:=by kernel_rfl) (he:fh .any ops=true:=by kernel_rfl):(Code.region id ops true).wp Tryz.prog Q ⟨F.toArray,df⟩ w:=by
 obtain ⟨u0,hu⟩:=jy p F (by simp only [LP,Bool.and_eq_true] at hc;exact hc.1)
 exact fa (a:=⟨F.toArray,df⟩) fr (OA T) (UE w) u0 hm he (nW hc hF) (by rw [←hF,hu]) (Below.refl _ _).drew JV (fun _=>hsteps)
  (fun L u W hall hJ hG=>hdone u W hJ (fun k hk=>hG k (by omega)))
end
end Go.Proofs.YtknlbpjcjdenbaaGreat
namespace Go.Proofs.YtknlbpjcjdenbaaGreat
open Go Go.RowKit Go.Maps
set_option linter.unusedVariables false
theorem PD {A:Nat→Prop} {w:World} {B:Bn} {cs:List Value} (h:cJ A w B (.agg cs.toArray)):∃y,cs[0]?=some y∧dU A w .u8 B.sign y∧cs[10]?=some (.int .i64 B.version):=by
 obtain ⟨v0,v1,v2,v3,v5,v7,v8,e,r0,_⟩:=et h
 obtain rfl:cs= [v0,v1,v2,v3,.int .i64 B.onceId,v5,.int .i64 B.kemId,v7,v8,.bool B.last,.int .i64 B.version]:=congrArg Array.toList (by injection e)
 exact ⟨v0,rfl,r0,rfl⟩
theorem nk {cs:List Value} {so:Value} {mo mk k:Nat} (hl:cs.length=11) (hk:k<11):(iZ cs so mo mk)[k]?=cs[k]?:=List.getElem?_append_left (by omega)
theorem yk {w:World} {b mo mk:Nat} {cs ys:List Value} {so:Value} (h:aj w b (iZ cs so mo mk) 68) (hl:cs.length=11) (hy:ys.length=11):w.there b 0 ys.toArray.size:=fun j hj=>by
 have hj:j<11:=by simpa [hy] using hj
 rw [Nat.zero_add]
 refine ⟨?_,h.frozen j⟩
 rw [h.cell,nk hl hj,List.getElem?_eq_getElem (by omega)];rfl
def dO (base B:Bn):Bool:=decide (B.medium=base.medium)&&decide (B.version=base.version)
set_option maxHeartbeats 8000000 in
theorem O9 (s:ByteArray) (hm:s.size≤1000) (hnb:bl s=true) {w:World} {A:Nat→Prop} {T:Nat→Nat} {t N g mb m b mo mk:Nat} {D Do Dk:DataW Value} {e:En} {cs0 xs cs:List Value} {so:Value} {B:Bn} (hE:wI w g mb m D) (hp:yK D s (some ⟨b,0,none⟩)) (hX:GW w T t N b e cs0 so xs mo mk Do Dk) (ht:0<t) (hTg:¬a_ T t g) (hTm:¬a_ T t mb)
  (hB:cJ A w B (.agg cs.toArray)) (hAm:∀x,A x→¬a_ T t x) (h1:B.onceId=0) (h2:B.kemId=0) (h3:aX B 1=0) (hs:B.fine)
  (hdel:∀(W:World) (pb:Nat),Fr (a_ T t) w W→w.heap.size≤pb→aj W pb cs 32→cJ A W B (.agg cs.toArray)→W.ownsRow 0 32 11 so e.once.length xs→cI (fun x=>T x=0) W xs e.once→Calls Tryz.prog 28 #[so,.func (.func 29) #[] #[.pointer (some ⟨pb,0,none⟩)]] W fun r w'=>∃so' xs',r= .returned so'∧w'.ownsRow 0 32 11 so' (e.once.filter (dO B)).length xs'∧cI (fun x=>T x=0∧x<w.heap.size) w' xs' (e.once.filter (dO B))∧Fr (fun x=>so.ownBlock=some x) W w'∧∀x,so'.ownBlock=some x→so.ownBlock=some x):
  Calls Tryz.prog 10 #[.pointer (some ⟨g,0,none⟩),.string s,.agg cs.toArray] w fun r w'=>(e.base.sign≠B.sign→r= .returned (.int .i64 3)∧Below w.heap.size w w')∧(e.base.sign=B.sign→B.version<e.base.version→r= .returned (.int .i64 4)∧Below w.heap.size w w')∧
   (e.base.sign=B.sign→¬B.version<e.base.version→r= .returned (.int .i64 0)∧∃T',(∀x,x<w.heap.size→T' x=T x)∧NH w' T' t N b ⟨B,e.once.filter (dO B),e.onces,e.kems⟩∧Fr (a_ T t) w w'∧∀x,w'.heap.size≤x→¬a_ T' t x):=by
 have hlen:=aV hB
 have hl0:=aV hX.base
 have hlk1:∀W,Below w.heap.size w W→(Instr.lookup 58 (.map (some mb)) (.string s) false).run Tryz.prog W= .ok (.pointer (some ⟨b,0,none⟩)) W:=fun W hb=>oC (am hE.map (hb.block mb hE.map.lt) (Nat.le_refl _)) hm hp
 have HLK:=Lib.hid hlk1
 have HBV:=Lib.hid hB
 have HM:=Lib.hid hm
 have HNB:=Lib.hid hnb
 have HE:=Lib.hid hE
 have HX:=Lib.hid hX
 have HT:=Lib.hid ht
 have HTG:=Lib.hid hTg
 have HTM:=Lib.hid hTm
 have HAM:=Lib.hid hAm
 have HV:=Lib.hid h3
 have HS:=Lib.hid hs
 have HLEN:=Lib.hid hlen
 have HL0:=Lib.hid hl0
 have HDEL:=Lib.hid hdel
 obtain ⟨wa,hwa⟩:∃wa,wa=w.alloc (.cells cs.toArray 32):=⟨_,rfl⟩
 have hba:Below w.heap.size w wa:=by rw [hwa];exact Below.alloc' (Below.refl _ _) _
 have hPB:aj wa w.heap.size cs 32:=by rw [hwa];exact aj.new w _ _
 obtain ⟨hc4,hc6⟩:=jG hB hPB
 rw [h1] at hc4
 rw [h2] at hc6
 have HPB:=Lib.hid hPB
 have HBA:=Lib.hid hba
 have hrg:=hPB.rng
 obtain ⟨y0,hy0,hry,hy10⟩:=PD hB
 obtain ⟨z0,hz0,hrz,hz10⟩:=PD hX.base
 have HY0:=Lib.hid hy0
 have HY10:=Lib.hid hy10
 have HZ0:=Lib.hid (show (iZ cs0 so mo mk)[0]?=some z0 from (nk hl0 (by decide)).trans hz0)
 have HZ10:=Lib.hid (show (iZ cs0 so mo mk)[10]?=some (.int .i64 e.base.version) from (nk hl0 (by decide)).trans hz10)
 have HRY0:=Lib.hid hry
 have HRZ0:=Lib.hid hrz
 clear hlk1 hm hnb hE hp hX ht hTg hTm hB hAm h1 h2 h3 hs hdel hlen hl0 hba hPB hy0 hry hy10 hz0 hrz hz10
 go_enter Tryz.func10,Tryz.ntmps10
 go_upto_region 1 with fail
 rw [←hwa]
 clear hwa
 go_upto_region 4 with (first|(go_at_call 20;go_must (refine (cV s HM.out _).mono ?_;rintro r w1 ⟨rfl,rfl⟩;rw [HNB.out]))|(refine wpList_load_mid rfl 32 (.tmp 5) rfl w.heap.size 0 rfl cs _ hrg Tryz.underlying32 rfl (by rw [aN,HLEN.out]) ?_)|(go_at_call 25;go_must (refine (lq (HBV.out.below HBA.out) 1).mono ?_;rintro r w1 ⟨rfl,hb1⟩;rw [HV.out];have HB1:=Lib.hid hb1;clear hb1)))
 have hbw:Below w.heap.size w w1:=HBA.out.trans (HB1.out.mono HBA.out.size)
 have hcg:=(HE.out.top.below' hbw).cell 0
 have hlk:=HLK.out w1 hbw
 obtain ⟨pb,hpb⟩:∃pb,pb=w.heap.size:=⟨_,rfl⟩
 have HPBE:=Lib.hid hpb
 have HPB:Hid (aj w1 pb cs 32):=Lib.hid (by rw [hpb];exact HPB.out.below' HB1.out)
 have HXB:Hid (aj w1 b (iZ cs0 so mo mk) 68):=Lib.hid (HX.out.blk.below' hbw)
 have HBW:=Lib.hid hbw
 have HRZ:Hid (∀W,Below w1.heap.size w1 W→dU (fun x=>T x=0) W .u8 e.base.sign z0):=Lib.hid fun W hb=>dU.later (η:=E0) (η':=E0) ⟨fun _ _ h=>h,fun x hx ha=>⟨(hbw.trans (hb.mono hbw.size)).block x hx,ha⟩⟩ HRZ0.out
 have HRY:Hid (∀W,Below w1.heap.size w1 W→dU A W .u8 B.sign y0):=Lib.hid fun W hb=>dU.later (η:=E0) (η':=E0) ⟨fun _ _ h=>h,fun x hx ha=>⟨(hbw.trans (hb.mono hbw.size)).block x hx,ha⟩⟩ HRY0.out
 rw [←hpb]
 clear hpb hbw hc4 hc6 hrg
 go_upto_region 10 with fail
 refine XM 10 [(37,9),(0,0),(0,1),(0,2),(0,3),(0,4),(0,5),(0,6),(0,7),(0,8)] [gn (.pointer (some ⟨b,0,none⟩)),gn (.pointer (some ⟨b,0,none⟩)),gn (.pointer (some ⟨b,0,none⟩)),gn (.pointer (some ⟨b,0,none⟩)),gn (z0),gn (.pointer (some ⟨pb,0,none⟩)),gn (y0),gn (.bool (decide (e.base.sign=B.sign))),gn (.bool (!decide (e.base.sign=B.sign))),gn (.bool (!decide (e.base.sign=B.sign)))] ?_ (fun u6 W6 hb6 hv=> ?_)
 ·refine ⟨?_,?_,?_,?_,?_,?_,?_,?_,?_,?_,trivial⟩
  ·refine mP (by rfl) (fun u W hb hu=> ?_)
   go_simp
  ·refine mP (by rfl) (fun u W hb hu=> ?_)
   have e0:u 0= .pointer (some ⟨b,0,none⟩):=hu 0 (by kernel_rfl)
   go_simp
  ·refine mP (by rfl) (fun u W hb hu=> ?_)
   have e1:u 1= .pointer (some ⟨b,0,none⟩):=hu 1 (by kernel_rfl)
   go_simp
  ·refine mP (by rfl) (fun u W hb hu=> ?_)
   have e2:u 2= .pointer (some ⟨b,0,none⟩):=hu 2 (by kernel_rfl)
   go_simp
  ·refine mP (by rfl) (fun u W hb hu=> ?_)
   have e3:u 3= .pointer (some ⟨b,0,none⟩):=hu 3 (by kernel_rfl)
   have hcx:W.cell? ⟨b,0,none⟩=some z0:=((HXB.out.below' hb).cell 0).trans HZ0.out
   go_simp
  ·refine mP (by rfl) (fun u W hb hu=> ?_)
   go_simp
  ·refine mP (by rfl) (fun u W hb hu=> ?_)
   have e5:u 5= .pointer (some ⟨pb,0,none⟩):=hu 5 (by kernel_rfl)
   have hcx:W.cell? ⟨pb,0,none⟩=some y0:=((HPB.out.below' hb).cell 0).trans HY0.out
   go_simp
  ·refine X8 (fun u W hb hu K hK=> ?_)
   have e4:u 4=z0:=hu 4 (by kernel_rfl)
   have e6:u 6=y0:=hu 6 (by kernel_rfl)
   go_simp
   go_at_call 26
   refine (iG (HRZ.out W hb) (HRY.out W hb)).mono ?_
   rintro r w6 ⟨rfl,hb6⟩
   have hk9:=hK.out _ w6 hb6 rfl
   first |exact hk9|(simp only [e4,e6] at hk9;exact hk9)
  ·refine mP (by rfl) (fun u W hb hu=> ?_)
   have e7:u 7= .bool (decide (e.base.sign=B.sign)):=hu 7 (by kernel_rfl)
   go_simp
  ·refine mP (by rfl) (fun u W hb hu=> ?_)
   have e7:u 7= .bool (decide (e.base.sign=B.sign)):=hu 7 (by kernel_rfl)
   have e8:u 8= .bool (!decide (e.base.sign=B.sign)):=hu 8 (by kernel_rfl)
   go_simp
 have e9:u6 9= .bool (!decide (e.base.sign=B.sign)):=hv 9 (by omega)
 have HB6:=Lib.hid hb6
 have HPB2:=Lib.hid (HPB.out.below' hb6)
 have HXB2:=Lib.hid (HXB.out.below' hb6)
 clear hb6 hv hcg hlk
 by_cases hsg:e.base.sign=B.sign
 ·have d1:(!decide (e.base.sign=B.sign))=false:=by rw [decide_eq_true hsg];rfl
  rw [d1] at e9
  rw [e9]
  have HSG:=Lib.hid hsg
  clear hsg d1
  go_upto_region 12 with fail
  refine XM 9 [(47,8),(0,0),(0,1),(0,2),(0,3),(0,4),(0,5),(0,6),(0,7)] [gn (.pointer (some ⟨pb,10,none⟩)),gn (.int .i64 B.version),gn (.pointer (some ⟨b,0,none⟩)),gn (.pointer (some ⟨b,0,none⟩)),gn (.pointer (some ⟨b,0,none⟩)),gn (.pointer (some ⟨b,10,none⟩)),gn (.int .i64 e.base.version),gn (.bool (decide (B.version<e.base.version))),gn (.bool (decide (B.version<e.base.version)))] ?_ (fun u7 W7 hb7 hv7=> ?_)
  ·refine ⟨?_,?_,?_,?_,?_,?_,?_,?_,?_,trivial⟩
   ·refine mP (by rfl) (fun u W hb hu=> ?_)
    go_simp
   ·refine mP (by rfl) (fun u W hb hu=> ?_)
    have e0:u 0= .pointer (some ⟨pb,10,none⟩):=hu 0 (by kernel_rfl)
    have hcx:W.cell? ⟨pb,10,none⟩=some (.int .i64 B.version):=((HPB2.out.below' hb).cell 10).trans HY10.out
    go_simp
   ·refine mP (by rfl) (fun u W hb hu=> ?_)
    go_simp
   ·refine mP (by rfl) (fun u W hb hu=> ?_)
    have e2:u 2= .pointer (some ⟨b,0,none⟩):=hu 2 (by kernel_rfl)
    go_simp
   ·refine mP (by rfl) (fun u W hb hu=> ?_)
    have e3:u 3= .pointer (some ⟨b,0,none⟩):=hu 3 (by kernel_rfl)
    go_simp
   ·refine mP (by rfl) (fun u W hb hu=> ?_)
    have e4:u 4= .pointer (some ⟨b,0,none⟩):=hu 4 (by kernel_rfl)
    go_simp
   ·refine mP (by rfl) (fun u W hb hu=> ?_)
    have e5:u 5= .pointer (some ⟨b,10,none⟩):=hu 5 (by kernel_rfl)
    have hcx:W.cell? ⟨b,10,none⟩=some (.int .i64 e.base.version):=((HXB2.out.below' hb).cell 10).trans HZ10.out
    go_simp
   ·refine mP (by rfl) (fun u W hb hu=> ?_)
    have e1:u 1= .int .i64 B.version:=hu 1 (by kernel_rfl)
    have e6:u 6= .int .i64 e.base.version:=hu 6 (by kernel_rfl)
    go_simp
   ·refine mP (by rfl) (fun u W hb hu=> ?_)
    have e7:u 7= .bool (decide (B.version<e.base.version)):=hu 7 (by kernel_rfl)
    go_simp
  have e8:u7 8= .bool (decide (B.version<e.base.version)):=hv7 8 (by omega)
  have HB7:=Lib.hid (Below.call (Below.call HBW.out HB6.out) hb7)
  have HPB3:=Lib.hid (HPB2.out.below' hb7)
  have HXB3:=Lib.hid (HXB2.out.below' hb7)
  clear hb7 hv7
  by_cases hvv:B.version<e.base.version
  ·rw [decide_eq_true hvv] at e8
   rw [e8]
   have HVV:=Lib.hid hvv
   clear hvv
   go_wp2
   go_ret
   exact ⟨fun h=>absurd HSG.out h,fun _ _=>⟨rfl,HB7.out⟩,fun _ h=>absurd HVV.out (by omega)⟩
  ·rw [decide_eq_false hvv] at e8
   rw [e8]
   have HVV:=Lib.hid hvv
   clear hvv
   have hrp:=HPB3.out.rng
   go_upto_region 14 with fail
   go_upto_region 15 with (first|(refine wpList_load_mid rfl 32 (.tmp 5) rfl pb 0 rfl cs _ hrp Tryz.underlying32 rfl (by rw [aN,HLEN.out]) ?_)|(go_at_call 27;go_must (refine (gU (HBV.out.below HB7.out) HS.out.1).mono ?_;rintro r w8 ⟨v8,rfl,hb8,hz8⟩;obtain ⟨ys,rfl⟩:∃ys:List Value,v8= .agg ys.toArray:=(by obtain ⟨y,e,_⟩:=hz8;exact ⟨y,e⟩);have hl8:=aV hz8;have hi8:(Tryz.prog.info? 32).map (·.size)=some ys.toArray.size:=(by rw [aN];simp [hl8]);have h81:=eW hz8;have HX8:=Lib.hid (HXB3.out.below' hb8);have ht8:=yk HX8.out HL0.out hl8;have HZ8:=Lib.hid hz8;have HB8:=Lib.hid hb8;clear hz8 hb8))|(refine wpList_store_mid rfl 32 _ _ rfl b 0 ys.toArray rfl rfl ht8 hi8 h81 ?_))
   have hX:=HX.out
   have htt:=HT.out
   have hmb:a_ T t b:=by unfold a_;rw [hX.tb];omega
   have hsob:so.ownBlock≠some b:=fun h=>by have h1:=hX.tq b h;rw [hX.tb] at h1;omega
   have hbl:=hX.lt
   obtain ⟨w9,hw9⟩:∃w9,w9=w8.setCells b 0 ys.toArray.toList:=⟨_,rfl⟩
   have hX9:aj w9 b (iZ ys so mo mk) 68:=by
    have h1:=lQ (ds:=ys) (o:=0) HX8.out (by rw [List.length_append,HL0.out,hl8];simp)
    rw [hw9]
    rw [List.take_zero,List.nil_append,Nat.zero_add,hl8,←HL0.out,List.drop_left] at h1
    exact h1
   have hf8:Fr (fun _=>False) w w8:=(Fr.of_below HB7.out).call HB8.out
   have hf9:Fr (fun x=>x=b) w w9:=by rw [hw9];exact Fr.setCells (F:=fun x=>x=b) (hf8.mono fun _ h=>h.elim) (.inl rfl)
   have hf89:Fr (fun x=>x=b) w8 w9:=by rw [hw9];exact Fr.setCells (F:=fun x=>x=b) (Fr.refl _ _) (.inl rfl)
   have hpbn:pb≠b:=by have:=HPBE.out;omega
   have hc11:=hX9.cell11 hl8
   have HD:=HDEL.out w9 pb (hf9.mono fun x hx=> .inl (by have hx:x=b:=hx;rw [hx];exact hmb)) (Nat.le_of_eq HPBE.out.symm) (hf89.blk (HPB3.out.below' HB8.out) hpbn) (HBV.out.later fun x hx ha=>⟨hf9.block x hx fun h=>HAM.out x ha (by have h:x=b:=h;rw [h];exact hmb),ha⟩) (cO hX.row fun x hx=>hf9.block x (hX.row.lt x hx).2 fun h=>hsob (by have h:x=b:=h;rw [←h];exact hx)) (hX.rows.later fun x hx ha=>⟨hf9.block x hx fun h=>by have h:x=b:=h;rw [h,hX.tb] at ha;omega,ha⟩)
   have HDL:=Lib.hid HD
   have HX9:=Lib.hid hX9
   have HF9:=Lib.hid hf9
   have HF89:=Lib.hid hf89
   have HSOB:=Lib.hid hsob
   rw [←hw9]
   clear hX htt hmb hsob hbl hw9 hX9 hf8 hf9 hf89 hpbn HD hi8 h81 ht8 hrp HDEL
   go_upto_region 16 with (go_at_call 28;go_must (refine HDL.out.mono ?_;rintro r w10 ⟨so',xs',rfl,ho10,hr10,hf10,hs10⟩;obtain ⟨a',n',c',rfl⟩:=lZ ho10;have hX10:=hf10.blk HX9.out HSOB.out;have hc10:=hX10.cell11 hl8;have hz10:=hX10.frozen 11;have HO10:=Lib.hid ho10;have HR10:=Lib.hid hr10;have HF10:=Lib.hid hf10;have HS10:=Lib.hid hs10;have HX10:=Lib.hid hX10;clear ho10 hr10 hf10 hs10 hX10))
   go_wp2
   go_ret
   have hX:=HX.out
   have htt:=HT.out
   refine ⟨fun h=>absurd HSG.out h,fun _ h=>absurd h (Int.not_lt.2 HVV.out),fun _ _=>⟨rfl,cN w T,fun x hx=>if_pos hx,?_⟩⟩
   obtain ⟨w11,hw11⟩:∃w11,w11=w10.setCell ⟨b,11,none⟩ (.slice a' n' c'):=⟨_,rfl⟩
   have hX11:aj w11 b (iZ ys (.slice a' n' c') mo mk) 68:=by rw [hw11];exact HX10.out.set11 hl8
   have hn11:∀x,x≠b→w11.heap[x]?=w10.heap[x]?:=fun x hn=>by rw [hw11];exact Below.heap_setCell w10 ⟨b,11,none⟩ _ x hn
   have hfa:Fr (fun x=>so.ownBlock=some x∨x=b) w w11:=by
    rw [hw11]
    exact Fr.setCell (F:=fun x=>so.ownBlock=some x∨x=b) ((HF9.out.mono fun x hx=> .inl (.inr hx)).trans HF10.out fun x hx=> .inl (.inl hx)) (.inl (.inr rfl)) _
   have hm:∀x,(so.ownBlock=some x∨x=b)→a_ T t x:=fun x hx=>by
    unfold a_
    rcases hx with h|rfl
    ·rw [hX.tq x h];omega
    ·rw [hX.tb];omega
   rw [←hw11]
   refine ⟨⟨ys,_,xs',mo,mk,Do,Dk,⟨hX11,?_,?_,?_,?_,?_,hX.fo,hX.fk,?_,?_,?_,?_,HS.out,fun B' hB'=>hX.sl B' (List.mem_filter.1 hB').1⟩⟩,hfa.mono fun x hx=> .inl (hm x hx),fun x hx h=> ?_⟩
   ·have hw7:w.heap.size≤W7.heap.size:=HB7.out.size
    exact HZ8.out.later fun x hx ha=>by
     have ha:W7.heap.size≤x:=ha
     have hxb:x≠b:=fun h=>by have:=hX.lt;omega
     refine ⟨(hn11 x hxb).trans ((HF10.out.block x (Nat.lt_of_lt_of_le hx HF89.out.size) fun h=>by have:=(hX.row.lt x h).2;omega).trans (HF89.out.block x hx hxb)),?_⟩
     rw [cN,if_neg (by omega)]
   ·exact cO HO10.out fun x hx=>hn11 x fun h=>HSOB.out (by rw [←h];exact HS10.out x hx)
   ·exact HR10.out.later fun x hx ha=>⟨hn11 x fun h=>by have h0:=ha.1;rw [h,hX.tb] at h0;omega,by rw [cN,if_pos ha.2];exact ha.1⟩
   ·exact am hX.om (hfa.block mo hX.om.lt fun h=>by
     rcases h with h|h
     ·have h1:=hX.tq mo h;rw [hX.tmo] at h1;omega
     ·have h1:=hX.tb;rw [←h,hX.tmo] at h1;omega) (Nat.le_refl _)
   ·exact am hX.km (hfa.block mk hX.km.lt fun h=>by
     rcases h with h|h
     ·have h1:=hX.tq mk h;rw [hX.tmk] at h1;omega
     ·have h1:=hX.tb;rw [←h,hX.tmk] at h1;omega) (Nat.le_refl _)
   ·rw [cN,if_pos hX.lt];exact hX.tb
   ·intro x hx
    have h1:=HS10.out x hx
    rw [cN,if_pos (hX.row.lt x h1).2]
    exact hX.tq x h1
   ·rw [cN,if_pos hX.om.lt];exact hX.tmo
   ·rw [cN,if_pos hX.km.lt];exact hX.tmk
   ·have h1:=h.1
    rw [cN,if_neg (by have:=hfa.size;omega)] at h1
    omega
 ·have d1:(!decide (e.base.sign=B.sign))=true:=by rw [decide_eq_false hsg];rfl
  rw [d1] at e9
  rw [e9]
  have HSG:=Lib.hid hsg
  have HB7:=Lib.hid (Below.call HBW.out HB6.out)
  clear hsg d1
  go_wp2
  go_ret
  exact ⟨fun _=>⟨rfl,HB7.out⟩,fun h=>absurd h HSG.out,fun h=>absurd h HSG.out⟩
set_option linter.unusedVariables false
open Classical in
set_option linter.unusedVariables false
theorem Pz {A:Nat→Prop} {w:World} {B:Bn} {cs:List Value} (h:cJ A w B (.agg cs.toArray)):∃y,cs[2]?=some y∧dU A w .u8 B.medium y∧cs[10]?=some (.int .i64 B.version):=by
 obtain ⟨v0,v1,v2,v3,v5,v7,v8,e,r0,r1,r2,_⟩:=et h
 obtain rfl:cs= [v0,v1,v2,v3,.int .i64 B.onceId,v5,.int .i64 B.kemId,v7,v8,.bool B.last,.int .i64 B.version]:=congrArg Array.toList (by injection e)
 exact ⟨v2,rfl,r2,rfl⟩
theorem vh {A A':Nat→Prop} {w:World} {B B':Bn} {cs ds:List Value} {pb:Nat} (hP:aj w pb cs 32) (hB:cJ A w B (.agg cs.toArray)) (hB':cJ A' w B' (.agg ds.toArray)):Calls Tryz.prog 29 #[.agg ds.toArray,.pointer (some ⟨pb,0,none⟩)] w fun r w'=>r= .returned (.bool (!dO B B'))∧Below w.heap.size w w':=by
 obtain ⟨y,y2,ry,y10⟩:=Pz hB
 obtain ⟨z,z2,rz,z10⟩:=Pz hB'
 obtain ⟨W,hW⟩:∃W,W=w.alloc (.cells ds.toArray 32):=⟨_,rfl⟩
 have hb:Below w.heap.size w W:=by rw [hW];exact (Below.refl _ _).alloc (Nat.le_refl _) _
 obtain ⟨m,hm⟩:∃m,m=decide (B'.medium=B.medium):=⟨_,rfl⟩
 obtain ⟨v0,hv0⟩:∃v,v=B.version:=⟨_,rfl⟩
 obtain ⟨v1,hv1⟩:∃v,v=B'.version:=⟨_,rfl⟩
 rw [←hv0] at y10
 rw [←hv1] at z10
 have hs:dO B B'=(m&&decide (v1=v0)):=by rw [hm,hv0,hv1];rfl
 have HD:Hid (aj W w.heap.size ds 32):=Lib.hid (by rw [hW];exact aj.new w _ _)
 have c2:W.cell? ⟨pb,2,none⟩=some y:=by rw [(hP.below' hb).cell];exact y2
 have d2:W.cell? ⟨w.heap.size,2,none⟩=some z:=by rw [HD.out.cell];exact z2
 have HP:=Lib.hid (hP.below' hb)
 have HB:=Lib.hid hb
 have HS:=Lib.hid hs
 have HM:=Lib.hid hm
 have RY:=Lib.hid (dU.later (η:=E0) (η':=E0) (A':=A) ⟨fun _ _ h=>h,fun x hx ha=>⟨hb.block x hx,ha⟩⟩ ry)
 have RZ:=Lib.hid (dU.later (η:=E0) (η':=E0) (A':=A') ⟨fun _ _ h=>h,fun x hx ha=>⟨hb.block x hx,ha⟩⟩ rz)
 have HY:=Lib.hid y10
 have HZ:=Lib.hid z10
 clear hP hB hB' y2 ry y10 z2 rz z10 hb hm hs hv0 hv1
 obtain ⟨d,hd⟩:∃d,d=w.heap.size:=⟨_,rfl⟩
 rw [←hd] at d2 HD
 go_enter Tryz.func29,Tryz.ntmps29
 go_upto_region 1 with fail
 rw [←hW,←hd]
 clear hW hd
 cases m with
 |false=>
  go_wp2_with (go_at_call 26;go_must (refine (iG RZ.out RY.out).mono ?_;rintro r w1 ⟨rfl,hb1⟩;rw [←HM.out];have HB1:=Lib.hid hb1;clear hb1))
  go_ret
  exact ⟨by rw [HS.out];rfl,Below.call HB.out HB1.out⟩
 |true=>
  by_cases hv:v1=v0
  ·subst hv
   go_wp2_with (go_at_call 26;go_must (refine (iG RZ.out RY.out).mono ?_;rintro r w1 ⟨rfl,hb1⟩;rw [←HM.out];have c10:w1.cell? ⟨pb,10,none⟩=some (.int .i64 v1):=(by rw [(HP.out.below' hb1).cell];exact HY.out);have d10:w1.cell? ⟨d,10,none⟩=some (.int .i64 v1):=(by rw [(HD.out.below' hb1).cell];exact HZ.out);have HB1:=Lib.hid hb1;clear hb1))
   go_ret
   exact ⟨by rw [HS.out];simp,Below.call HB.out HB1.out⟩
  ·have hne:decide (v1=v0)=false:=decide_eq_false hv
   go_wp2_with (go_at_call 26;go_must (refine (iG RZ.out RY.out).mono ?_;rintro r w1 ⟨rfl,hb1⟩;rw [←HM.out];have c10:w1.cell? ⟨pb,10,none⟩=some (.int .i64 v0):=(by rw [(HP.out.below' hb1).cell];exact HY.out);have d10:w1.cell? ⟨d,10,none⟩=some (.int .i64 v1):=(by rw [(HD.out.below' hb1).cell];exact HZ.out);have HB1:=Lib.hid hb1;clear hb1))
   go_ret
   exact ⟨by rw [HS.out,hne];simp [hv],Below.call HB.out HB1.out⟩
theorem KF {A A':Nat→Prop} {w:World} {B:Bn} {cs xs:List Value} {pb q c:Nat} {l:List Bn} (hP:aj w pb cs 32) (hB:cJ A w B (.agg cs.toArray)) (hq:w.rangeAt q 0 xs) (hz:cI A' w xs l) (hu:∀B'∈l,dO B B'=true) (hl:l.length≤1000000):
  Calls Tryz.prog 51 #[.slice (some ⟨q,0,none⟩) l.length c,.func (.func 29) #[] #[.pointer (some ⟨pb,0,none⟩)]] w fun r w'=>r= .returned (.int .i64 (-1))∧Below w.heap.size w w':=by
 have HP:=Lib.hid hP
 have HB:=Lib.hid hB
 have HQ:=Lib.hid hq
 have HZ:=Lib.hid hz
 have HU:=Lib.hid hu
 have hlen:(l.length:Int)≤1000000:=by omega
 clear hP hB hq hz hu hl
 go_enter Tryz.func51,Tryz.ntmps51
 go_wp2
 go_loopw [8] (fun i wr=>∃k:Nat,k≤l.length∧i= .int .i64 k∧Below w.heap.size w wr) (fun i _=>l.length-(intOf i).toNat)
 case atStart=>exact ⟨0,Nat.zero_le _,rfl,Below.refl _ _⟩
 case round=>
  obtain ⟨k,hk,rfl,hbr⟩:=hrel
  by_cases hlt:k<l.length
  ·have hltz:(k:Int)<(l.length:Int):=by omega
   obtain ⟨zi,hzi,hBi⟩:=HZ.out.at hlt
   obtain ⟨Bk,hBk⟩:∃Bk,Bk=l[k]:=⟨_,rfl⟩
   rw [←hBk] at hBi
   have hzl:=aV hBi
   have hrg:wr.rangeAt q (k*11) zi:=by
    have h1:=ii HQ.out (hbr.block q (jv HQ.out (by rw [HZ.out.len];omega)))
    have h2:=gY (k:=k*11) (n:=11) h1
    rw [Nat.zero_add,←hzi] at h2
    exact h2
   have HBI:=Lib.hid (hBi.below hbr)
   have HBR:=Lib.hid hbr
   have HS:=Lib.hid (show dO B Bk=true from hBk▸HU.out _ (List.getElem_mem hlt))
   have HZL:=Lib.hid hzl
   have HK:=Lib.hid hlt
   clear hBi hbr hzi hk hBk hlt hzl
   go_wp2_with (first|(refine wpList_load_mid rfl 32 (.tmp 14) rfl q (k*11) rfl zi _ hrg Tryz.underlying32 rfl (by rw [aN,HZL.out]) ?_)|(go_at_call 29;go_must (refine (vh (HP.out.below' HBR.out) (HB.out.below HBR.out) HBI.out).mono ?_;rintro r w1 ⟨rfl,hb1⟩;rw [HS.out];have HB1:=Lib.hid hb1;clear hb1)))
   have hk1:=HK.out
   refine ⟨?_,?_⟩
   ·exact ⟨k+1,HK.out,by simp,Below.call HBR.out HB1.out⟩
   ·show l.length-(intOf (.int .i64 ((k:Int)+1))).toNat<l.length-(intOf (.int .i64 (k:Int))).toNat
    simp only [intOf]
    omega
  ·obtain rfl:k=l.length:=by omega
   go_wp2
   go_ret
   exact ⟨rfl,hbr⟩
theorem Ng {A A':Nat→Prop} {w:World} {B B1:Bn} {cs xs:List Value} {pb q c:Nat} {l:List Bn} (hP:aj w pb cs 32) (hB:cJ A w B (.agg cs.toArray)) (hq:w.rangeAt q 0 xs) (hz:cI A' w xs (B1::l)) (hu:dO B B1=false):
  Calls Tryz.prog 51 #[.slice (some ⟨q,0,none⟩) (l.length+1) c,.func (.func 29) #[] #[.pointer (some ⟨pb,0,none⟩)]] w fun r w'=>r= .returned (.int .i64 0)∧Below w.heap.size w w':=by
 obtain ⟨zi,hzi,hBi⟩:=hz.at (k:=0) (by simp)
 have hzl:=aV hBi
 have hrg:w.rangeAt q 0 zi:=by
  have h2:=gY (k:=0) (n:=11) hq
  rw [Nat.zero_add] at h2
  rw [hzi,Nat.zero_mul]
  exact h2
 have HP:=Lib.hid hP
 have HB:=Lib.hid hB
 have HBI:=Lib.hid (show cJ A' w B1 (.agg zi.toArray) from hBi)
 have HS:=Lib.hid hu
 have HZL:=Lib.hid hzl
 clear hP hB hq hz hu hBi hzi hzl
 have hpos:(0:Int)<(l.length:Int)+1:=by omega
 go_enter Tryz.func51,Tryz.ntmps51
 go_wp2
 go_loopw [8] (fun i wr=>i= .int .i64 0∧w=wr) (fun _ _=>0)
 case atStart=>exact ⟨rfl,rfl⟩
 case round=>
  obtain ⟨rfl,rfl⟩:=hrel
  go_wp2_with (first|(refine wpList_load_mid rfl 32 (.tmp 14) rfl q 0 rfl zi _ hrg Tryz.underlying32 rfl (by rw [aN,HZL.out]) ?_)|(go_at_call 29;go_must (refine (vh HP.out HB.out HBI.out).mono ?_;rintro r w1 ⟨rfl,hb1⟩;rw [HS.out];have HB1:=Lib.hid hb1;clear hb1)))
  go_ret
  exact ⟨rfl,HB1.out⟩
theorem EZ {A A':Nat→Prop} {w:World} {B:Bn} {cs xs:List Value} {pb q c:Nat} {l:List Bn} (hP:aj w pb cs 32) (hB:cJ A w B (.agg cs.toArray)) (hq:w.rangeAt q 0 xs) (hz:cI A' w xs l) (hu:∀B'∈l,dO B B'=true) (hl:l.length≤1000000):
  Calls Tryz.prog 28 #[.slice (some ⟨q,0,none⟩) l.length c,.func (.func 29) #[] #[.pointer (some ⟨pb,0,none⟩)]] w fun r w'=>r= .returned (.slice (some ⟨q,0,none⟩) l.length c)∧Below w.heap.size w w':=by
 have HI:=Lib.hid (KF (c:=c) hP hB hq hz hu hl)
 clear hP hB hq hz hu hl
 go_enter Tryz.func28,Tryz.ntmps28
 go_wp2_with (go_at_call 51;go_must (refine HI.out.mono ?_;rintro r w1 ⟨rfl,hb1⟩;have HB1:=Lib.hid hb1;clear hb1))
 go_ret
 exact ⟨rfl,HB1.out⟩
theorem Bb {w:World} {q n c:Nat} {xs:List Value} (hB:aj w q xs 32) (hx:(n+1)*11≤xs.length):
  ∃ys:List Value,ys.length=xs.length∧∀ty,(Builtin.clear_ #[49] ty #[.slice (some ⟨q,0,none⟩) (n+1) c]).run Tryz.prog w= .ok (.tuple #[]) (w.setRow q ys.toArray):=by
 obtain ⟨zs,hzs⟩:∃zs,zs=(Builtin.zeroCells (Value.agg bP).cells (n+1)).toList:=⟨_,rfl⟩
 have hl:zs.length=(n+1)*11:=by rw [hzs,Array.length_toList,size_zeroCells];rfl
 have h1:∀v∈zs,v.oneCell'=true:=fun v hv=>by
  rw [hzs,Builtin.zeroCells] at hv
  obtain ⟨i,hi,rfl⟩:=Array.mem_map.1 (Array.mem_toList_iff.1 hv)
  have h9:i%(Value.agg bP).cells.size<bP.size:=Nat.mod_lt _ (by decide)
  show (bP[i%(Value.agg bP).cells.size]!).oneCell'=true
  rw [getElem!_pos bP _ h9]
  exact Array.all_eq_true.1 wg _ h9
 have hst:=run_storeCells_at Tryz.prog q 0 32 zs 0 xs.toArray w hB (by simpa [hl] using hx) h1
 simp only [Nat.add_zero] at hst
 refine ⟨zs++xs.drop ((n+1)*11),by rw [List.length_append,hl,List.length_drop];omega,fun ty=> ?_⟩
 simp [Builtin.clear_,run_underlying Tryz.underlying49,Kp,←hzs,hst,hl]
set_option maxHeartbeats 2000000 in
theorem LA {A A':Nat→Prop} {w:World} {B B1:Bn} {cs cur xs:List Value} {pb q c:Nat} {l:List Bn} (hP:aj w pb cs 32) (hB:cJ A w B (.agg cs.toArray)) (hQ:aj w q cur 32) (hc:cur.length=c*11) (hx:cur.take ((l.length+1)*11)=xs) (hnc:l.length+1≤c) (hcm:c≤maxLen) (hz:cI A' w xs (B1::l)) (hu:∀B'∈B1::l,dO B B'=false) (hl:l.length≤1000000):
  Calls Tryz.prog 28 #[.slice (some ⟨q,0,none⟩) (l.length+1) c,.func (.func 29) #[] #[.pointer (some ⟨pb,0,none⟩)]] w fun r w'=>r= .returned (.slice (some ⟨q,0,none⟩) 0 c)∧w'.ownsRow 0 32 11 (.slice (some ⟨q,0,none⟩) 0 c) 0 []∧Fr (fun x=>x=q) w w':=by
 have hq:w.rangeAt q 0 xs:=fun j v hv=>by
  rw [Nat.zero_add,hQ.cell]
  rw [←hx,List.getElem?_take] at hv
  split at hv
  ·exact hv
  ·cases hv
 have HI:=Lib.hid (Ng (c:=c) hP hB hq hz (hu B1 (by simp)))
 have HP:=Lib.hid hP
 have HB:=Lib.hid hB
 have HQ:=Lib.hid hQ
 have HR:=Lib.hid hq
 have HZ:=Lib.hid hz
 have HU:=Lib.hid hu
 have HC:=Lib.hid hc
 have HNC:=Lib.hid hnc
 have HCM:=Lib.hid hcm
 have hlen:(l.length:Int)≤1000000:=by omega
 have hcz:(l.length:Int)+1≤(c:Int):=by omega
 have hc0:¬c=0:=by omega
 have hl0:(0:Int)≤(l.length:Int)+1:=by omega
 have hc1:(0:Int)≤(c:Int):=by omega
 clear hP hB hQ hc hx hnc hcm hz hu hl hq
 go_enter Tryz.func28,Tryz.ntmps28
 go_wp2_with (go_at_call 51;go_must (refine HI.out.mono ?_;rintro r w1 ⟨rfl,hb1⟩;have HB1:=Lib.hid hb1;clear hb1))
 go_loopw [5,6] (fun n5 i wr=>n5= .int .i64 0∧∃k:Nat,k≤l.length+1∧i= .int .i64 k∧Below w.heap.size w wr) (fun _ i _=>l.length+1-(intOf i).toNat)
 case atStart=>exact ⟨rfl,1,by omega,rfl,HB1.out⟩
 case round=>
  obtain ⟨rfl,k,hk,rfl,hbr⟩:=hrel
  by_cases hlt:k<l.length+1
  ·have hltz:(k:Int)<(l.length:Int)+1:=by omega
   obtain ⟨zi,hzi,hBi⟩:=HZ.out.at (k:=k) (by simpa using hlt)
   obtain ⟨Bk,hBk⟩:∃Bk,Bk=(B1::l)[k]'(by simpa using hlt):=⟨_,rfl⟩
   rw [←hBk] at hBi
   have hzl:=aV hBi
   have hrg:wr.rangeAt q (k*11) zi:=by
    have h1:=ii HR.out (hbr.block q HQ.out.lt)
    have h2:=gY (k:=k*11) (n:=11) h1
    rw [Nat.zero_add,←hzi] at h2
    exact h2
   have hi6:(Tryz.prog.info? 32).map (·.size)=some zi.toArray.size:=by rw [aN];simp [hzl]
   have ho6:bP.size=zi.toArray.size:=by simp [hzl]
   have h61:=eW hBi
   obtain ⟨W,hW⟩:∃W,W=(wr.alloc (.cells bP 32)).setRow wr.heap.size zi.toArray:=⟨_,rfl⟩
   have hbW:Below wr.heap.size wr W:=by rw [hW];exact below_setRow (Below.alloc' (Below.refl _ _) _) (Nat.le_refl _) _
   have hP7:aj W wr.heap.size zi 32:=by rw [hW];exact cw (aj.new wr _ _)
   have hr7:=hP7.rng
   have HW:=Lib.hid (Below.call hbr hbW)
   have HBI:=Lib.hid (hBi.below HW.out)
   have HS:=Lib.hid (show dO B Bk=false from hBk▸HU.out _ (List.getElem_mem _))
   have HZL:=Lib.hid hzl
   have HK:=Lib.hid hlt
   clear hBi hbr hzi hk hBk hlt hzl hbW hP7
   go_upto_region 8 with (first|(refine wpList_load_mid rfl 32 (.tmp 24) rfl q (k*11) rfl zi _ hrg Tryz.underlying32 rfl (by rw [aN,HZL.out]) ?_)|(refine wpList_store_row rfl 32 _ _ rfl wr.heap.size _ rfl rfl 32 bP (aj.new wr _ _) hi6 ho6 h61 ?_))
   rw [←hW]
   clear hW hi6 ho6 h61 hrg
   go_wp2_with (first|(refine wpList_load_mid rfl 32 (.tmp 7) rfl wr.heap.size 0 rfl zi _ hr7 Tryz.underlying32 rfl (by rw [aN,HZL.out]) ?_)|(go_at_call 29;go_must (refine (vh (HP.out.below' HW.out) (HB.out.below HW.out) HBI.out).mono ?_;rintro r w2 ⟨rfl,hb2⟩;rw [HS.out];have HB2:=Lib.hid hb2;clear hb2)))
   have hk1:=HK.out
   refine ⟨?_,?_⟩
   ·exact ⟨rfl,k+1,by have:=HK.out;omega,by simp,Below.call HW.out HB2.out⟩
   ·show l.length+1-(intOf (.int .i64 ((k:Int)+1))).toNat<l.length+1-(intOf (.int .i64 (k:Int))).toNat
    simp only [intOf]
    omega
  ·obtain rfl:k=l.length+1:=by omega
   have hQr:=HQ.out.below' hbr
   obtain ⟨ys,hyl,hcl⟩:=Bb (n:=l.length) (c:=c) hQr (by rw [HC.out];have:=HNC.out;omega)
   have HQR:=Lib.hid hQr
   have HBR:=Lib.hid hbr
   have HYL:=Lib.hid hyl
   clear hbr hQr hyl hk
   go_wp2
   go_ret
   refine ⟨by simp,Iv (cw HQR.out) (HYL.out.trans HC.out) (by simp) (Nat.zero_le _) HCM.out,Fr.setRow (F:=fun x=>x=q) (Fr.of_below HBR.out) (.inl rfl) _⟩
set_option linter.unusedVariables false
theorem O8 {W:World} {q n:Nat} {cur xs:List Value} (hQ:aj W q cur 32) (hx:cur.take n=xs):W.rangeAt q 0 xs:=fun j v hv=>by
 rw [Nat.zero_add,hQ.cell]
 rw [←hx,List.getElem?_take] at hv
 split at hv
 ·exact hv
 ·cases hv
theorem rS (s:ByteArray) (hm:s.size≤1000) (hb:bl s=true) {w:World} {A:Nat→Prop} {g N:Nat} {T:Nat→Nat} {eb B1 B:Bn} {l:List Bn} {on ke:Int→Int} {cs:List Value} (sb:Bool) (h:wu w g s T N ⟨eb,B1::l,on,ke⟩) (hu:∀B'∈B1::l,dO B B'=sb) (hl:l.length<1000000) (hsg:eb.sign=B.sign) (hv:¬B.version<eb.version)
  (hB:cJ A w B (.agg cs.toArray)) (hAm:∀x,A x→¬a_ T 4 x) (h1:B.onceId=0) (h2:B.kemId=0) (h3:aX B 1=0) (hs:B.fine):
  Calls Tryz.prog 10 #[.pointer (some ⟨g,0,none⟩),.string s,.agg cs.toArray] w fun r w'=>r= .returned (.int .i64 0)∧∃T',(∀x,x<w.heap.size→T' x=T x)∧wu w' g s T' N ⟨B,if sb then B1::l else [],on,ke⟩∧Fr (a_ T 4) w w':=by
 obtain ⟨mb,m,D,b,k1,k2,⟨ds,so,xs,mo,mk,Do,Dk,k3⟩,k4,k5,k6⟩:=h
 have hfl:(B1::l).filter (dO B)=if sb then B1::l else []:=by
  cases sb with
  |true=>exact List.filter_eq_self.2 hu
  |false=>exact List.filter_eq_nil_iff.2 fun x hx=>by rw [hu x hx];simp
 refine (O9 s hm hb k1 k2 k3 (by decide) k4 k5 hB hAm h1 h2 h3 hs fun W pb hf _ hP hBW hrow _=> ?_).mono fun r w' ⟨_,_,o0⟩=> ?_
 ·have hrw:cI (fun x=>T x=0∧x<w.heap.size) W xs (B1::l):=k3.rows.later fun x hx h0=>⟨hf.block x hx (fun hm=>by have:=hm.1;omega),h0,hx⟩
  obtain ⟨q,c,cur,rfl,hQ,hc,hx,hnc,hcm⟩:=rX (n:=l.length) hrow
  have hTq:=k3.tq q rfl
  show Calls Tryz.prog 28 _ W fun r w'=>∃so' xs',_∧w'.ownsRow 0 32 11 so' ((B1::l).filter (dO B)).length xs'∧cI _ w' xs' ((B1::l).filter (dO B))∧_
  rw [hfl]
  cases sb with
  |true=>
   refine (EZ (c:=c) (l:=B1::l) hP hBW (O8 hQ hx) hrw hu (by simp;omega)).mono fun r w' ⟨hr,hbl⟩=> ?_
   exact ⟨_,xs,hr,cO hrow fun y hy=>hbl.block y (by cases hy;exact hQ.lt),cI.later (fun x hx ha=>⟨hbl.block x hx,ha⟩) hrw,Fr.of_below hbl,fun x hx=>hx⟩
  |false=>
   refine (LA (c:=c) hP hBW hQ hc hx hnc hcm hrw hu (by omega)).mono fun r w' ⟨hr,ho,hfr⟩=> ?_
   exact ⟨_,[],hr,ho,rfl,hfr.mono fun x hx=> .inl (by cases hx;rfl),fun x hx=>hx⟩
 ·obtain ⟨hr,T',hT,hX,hf,hx⟩:=o0 hsg hv
  rw [hfl] at hX
  refine ⟨hr,T',hT,⟨mb,m,D,b,⟨hf.blk k1.top k4,am k1.map (hf.block mb k1.map.lt k5) (Nat.le_refl _)⟩,k2,hX,fun k=>k4 ?_,fun k=>k5 ?_,hx⟩,hf⟩
  ·unfold a_ at *;rw [hT g k1.top.lt] at k;exact k
  ·unfold a_ at *;rw [hT mb k1.map.lt] at k;exact k
end Go.Proofs.YtknlbpjcjdenbaaGreat
namespace Go.Proofs.YtknlbpjcjdenbaaGreat
open Go Go.RowKit Go.Maps Go.Sort Go.Shelf
def nh:Go.Shelf.Ren:=⟨fun|7=>43|10=>66|n=>n,fun|23=>58|26=>9|3=>64|28=>88|0=>0|27=>87|33=>54|4=>4|n=>n,fun n=>n⟩
theorem IK:SlLaysZ.n7 Tryz.prog nh where
 mixed:=by kernel_rfl
 f7 := ⟨ "maps.Keys[map[string]*missive/server.entry,string,*missive/server.entry]", by decide, Tryz.func43.trans (congrArg some (by kernel_rfl))⟩
 f10 := ⟨ "maps.Keys[map[string]*missive/server.entry,string,*missive/server.entry]$1", by decide, Tryz.func66.trans (congrArg some (by kernel_rfl))⟩
 t0:=Tryz.underlying0
 a0:=Tryz.isAgg0
 z0:=Tryz.sizeOf0
 v0:=Tryz.zeroValue0
 t4:=Tryz.underlying4
 a4:=Tryz.isAgg4
 z4:=Tryz.sizeOf4
 v4:=Tryz.zeroValue4
 t23:=Tryz.underlying58
 a23:=Tryz.isAgg58
 z23:=Tryz.sizeOf58
 v23:=Tryz.zeroValue58
 t26:=Tryz.underlying9
 a26:=Tryz.isAgg9
 z26:=Tryz.sizeOf9
 v26:=Tryz.zeroValue9
 t27:=Tryz.underlying87
 a27:=Tryz.isAgg87
 z27:=Tryz.sizeOf87
 v27:=Tryz.zeroValue87
 t28:=Tryz.underlying88
 a28:=Tryz.isAgg88
 z28:=Tryz.sizeOf88
 v28:=Tryz.zeroValue88
 t33:=Tryz.underlying54
 a33:=Tryz.isAgg54
 z33:=Tryz.sizeOf54
 v33:=Tryz.zeroValue54
def bU:Go.Shelf.Ren:=⟨fun|6=>42|8=>64|9=>65|11=>102|13=>104|12=>103|23=>168|24=>169|14=>159|15=>160|16=>161|17=>162|18=>163|19=>164|20=>165|21=>166|22=>167|25=>200|26=>201|27=>202|28=>203|29=>204|30=>205|31=>217|n=>n,fun|26=>9|28=>88|24=>43|0=>0|3=>3|37=>165|48=>131|50=>111|4=>4|40=>206|39=>205|45=>211|5=>5|9=>9|51=>237|55=>241|57=>254|58=>50|33=>54|n=>n,fun n=>n⟩
theorem Ea:SlLaysZ.n6 Tryz.prog bU where
 mixed:=by kernel_rfl
 f6 := ⟨ "slices.Sorted[string]", by decide, Tryz.func42.trans (congrArg some (by kernel_rfl))⟩
 f8 := ⟨ "slices.Collect[string]", by decide, Tryz.func64.trans (congrArg some (by kernel_rfl))⟩
 f11 := ⟨ "slices.AppendSeq[[]string,string]", by decide, Tryz.func102.trans (congrArg some (by kernel_rfl))⟩
 t0:=Tryz.underlying0
 a0:=Tryz.isAgg0
 z0:=Tryz.sizeOf0
 v0:=Tryz.zeroValue0
 t24:=Tryz.underlying43
 a24:=Tryz.isAgg43
 z24:=Tryz.sizeOf43
 v24:=Tryz.zeroValue43
 t26:=Tryz.underlying9
 a26:=Tryz.isAgg9
 z26:=Tryz.sizeOf9
 v26:=Tryz.zeroValue9
 t28:=Tryz.underlying88
 a28:=Tryz.isAgg88
 z28:=Tryz.sizeOf88
 v28:=Tryz.zeroValue88
 i26:=by kernel_rfl
def Gh:Go.Shelf.Ren:=⟨fun|6=>65|8=>104|9=>103|19=>168|20=>169|21=>159|22=>160|23=>161|24=>162|25=>163|26=>164|27=>165|28=>166|29=>167|36=>200|31=>201|32=>202|37=>203|38=>204|39=>205|41=>217|n=>n,fun|27=>43|29=>9|3=>3|32=>165|26=>43|0=>0|44=>131|46=>111|4=>4|36=>206|35=>205|41=>211|5=>5|9=>9|53=>237|57=>241|63=>254|64=>50|n=>n,fun n=>n⟩
theorem QH:SlLaysM.n6 Tryz.prog Gh where
 mixed:=by kernel_rfl
 f6 := ⟨ "slices.Sort[[]string,string]", by decide, Tryz.func65.trans (congrArg some (by kernel_rfl))⟩
 f8:=Tryz.func104.trans (congrArg some (by kernel_rfl))
 f9 := ⟨ "slices.pdqsortOrdered[string]", by decide, Tryz.func103.trans (congrArg some (by kernel_rfl))⟩
 f19:=Tryz.func168.trans (congrArg some (by kernel_rfl))
 f20:=Tryz.func169.trans (congrArg some (by kernel_rfl))
 f21 := ⟨ "slices.insertionSortOrdered[string]", by decide, Tryz.func159.trans (congrArg some (by kernel_rfl))⟩
 f22 := ⟨ "slices.heapSortOrdered[string]", by decide, Tryz.func160.trans (congrArg some (by kernel_rfl))⟩
 f23 := ⟨ "slices.breakPatternsOrdered[string]", by decide, Tryz.func161.trans (congrArg some (by kernel_rfl))⟩
 f24 := ⟨ "slices.choosePivotOrdered[string]", by decide, Tryz.func162.trans (congrArg some (by kernel_rfl))⟩
 f25 := ⟨ "slices.reverseRangeOrdered[string]", by decide, Tryz.func163.trans (congrArg some (by kernel_rfl))⟩
 f26 := ⟨ "slices.partialInsertionSortOrdered[string]", by decide, Tryz.func164.trans (congrArg some (by kernel_rfl))⟩
 f27 := ⟨ "cmp.Less[string]", by decide, Tryz.func165.trans (congrArg some (by kernel_rfl))⟩
 f28 := ⟨ "slices.partitionEqualOrdered[string]", by decide, Tryz.func166.trans (congrArg some (by kernel_rfl))⟩
 f29 := ⟨ "slices.partitionOrdered[string]", by decide, Tryz.func167.trans (congrArg some (by kernel_rfl))⟩
 f31:=Tryz.func201.trans (congrArg some (by kernel_rfl))
 f32:=Tryz.func202.trans (congrArg some (by kernel_rfl))
 f36 := ⟨ "slices.siftDownOrdered[string]", by decide, Tryz.func200.trans (congrArg some (by kernel_rfl))⟩
 f37 := ⟨ "slices.medianAdjacentOrdered[string]", by decide, Tryz.func203.trans (congrArg some (by kernel_rfl))⟩
 f38 := ⟨ "slices.medianOrdered[string]", by decide, Tryz.func204.trans (congrArg some (by kernel_rfl))⟩
 f39 := ⟨ "cmp.isNaN[string]", by decide, Tryz.func205.trans (congrArg some (by kernel_rfl))⟩
 f41 := ⟨ "slices.order2Ordered[string]", by decide, Tryz.func217.trans (congrArg some (by kernel_rfl))⟩
 t0:=Tryz.underlying0
 a0:=Tryz.isAgg0
 z0:=Tryz.sizeOf0
 v0:=Tryz.zeroValue0
 t3:=Tryz.underlying3
 a3:=Tryz.isAgg3
 z3:=Tryz.sizeOf3
 v3:=Tryz.zeroValue3
 t4:=Tryz.underlying4
 a4:=Tryz.isAgg4
 z4:=Tryz.sizeOf4
 v4:=Tryz.zeroValue4
 t5:=Tryz.underlying5
 a5:=Tryz.isAgg5
 z5:=Tryz.sizeOf5
 v5:=Tryz.zeroValue5
 t9:=Tryz.underlying9
 a9:=Tryz.isAgg9
 z9:=Tryz.sizeOf9
 v9:=Tryz.zeroValue9
 t26:=Tryz.underlying43
 a26:=Tryz.isAgg43
 z26:=Tryz.sizeOf43
 v26:=Tryz.zeroValue43
 t27:=Tryz.underlying43
 a27:=Tryz.isAgg43
 z27:=Tryz.sizeOf43
 v27:=Tryz.zeroValue43
 t29:=Tryz.underlying9
 a29:=Tryz.isAgg9
 z29:=Tryz.sizeOf9
 v29:=Tryz.zeroValue9
 t32:=Tryz.underlying165
 a32:=Tryz.isAgg165
 z32:=Tryz.sizeOf165
 v32:=Tryz.zeroValue165
 t35:=Tryz.underlying205
 a35:=Tryz.isAgg205
 z35:=Tryz.sizeOf205
 v35:=Tryz.zeroValue205
 t36:=Tryz.underlying206
 a36:=Tryz.isAgg206
 z36:=Tryz.sizeOf206
 v36:=Tryz.zeroValue206
 t41:=Tryz.underlying211
 a41:=Tryz.isAgg211
 z41:=Tryz.sizeOf211
 v41:=Tryz.zeroValue211
 t44:=Tryz.underlying131
 a44:=Tryz.isAgg131
 z44:=Tryz.sizeOf131
 v44:=Tryz.zeroValue131
 t46:=Tryz.underlying111
 a46:=Tryz.isAgg111
 z46:=Tryz.sizeOf111
 v46:=Tryz.zeroValue111
 t53:=Tryz.underlying237
 a53:=Tryz.isAgg237
 z53:=Tryz.sizeOf237
 v53:=Tryz.zeroValue237
 t57:=Tryz.underlying241
 a57:=Tryz.isAgg241
 z57:=Tryz.sizeOf241
 v57:=Tryz.zeroValue241
 t63:=Tryz.underlying254
 a63:=Tryz.isAgg254
 z63:=Tryz.sizeOf254
 v63:=Tryz.zeroValue254
 t64:=Tryz.underlying50
 a64:=Tryz.isAgg50
 z64:=Tryz.sizeOf50
 v64:=Tryz.zeroValue50
theorem r9 (mb:Option Nat) (W:World):Calls Tryz.prog 43 #[.map mb] W fun e w'=>e= .returned (.func (.func 66) #[] #[.pointer (some ⟨W.heap.size,0,none⟩)])∧w'=W.alloc (.cells #[.map mb] 58):=
 (callsIn_wide (n:=5)).1 (AnyZ.keys_in IK Fence.wide 5 trivial rfl mb W)
set_option maxHeartbeats 1000000 in
theorem yE (hso:∀m,AnyZ.SortsIn Tryz.prog bU Fence.wide m) {H:Type} (b nn:Nat) (D0:DataW H) (R:Value→Option (DataW H×List MemPlace)) (w:World) (hown:w.ownsMap Tryz.prog 9 R b nn D0) (hmax:Maps.size D0≤maxLen) (hbytes:Maps.size D0*16≤140737488355328):
  Calls Tryz.prog 42 #[.func (.func 66) #[] #[.pointer (some ⟨w.heap.size,0,none⟩)]] (w.alloc (.cells #[.map (some b)] 58)) fun e w'=>∃(v:Value) (ss:List (List UInt8)),e= .returned v∧ss.Perm (strKeys D0)∧
   w'.ownsRow (w.alloc (.cells #[.map (some b)] 58)).heap.size 9 1 v ss.length ((ss.mergeSort (fun x y=>decide (x≤y))).map encStr)∧(v= .slice none 0 0↔ss= [])∧Below (w.alloc (.cells #[.map (some b)] 58)).heap.size (w.alloc (.cells #[.map (some b)] 58)) w':=by
 refine (callsIn_wide (n:=5)).1 ?_
 have hbl:=hown.lt
 have hseq:SeqGives Fence.wide 2 Tryz.prog 66 #[.pointer (some ⟨w.heap.size,0,none⟩)] encStr (fun ss=>ss.Perm (strKeys D0)) (Maps.size D0) (w.alloc (.cells #[.map (some b)] 58)):=
  AnyZ.keys_gives (ρ:=nh) {IK with} Fence.wide _ trivial rfl (by omega) w.heap.size b nn D0 _ (by simp) (by simp) (by
   obtain ⟨es,clock,hb,Ft,hs,hD⟩:=hown
   exact ⟨es,clock,(Below.heap_alloc _ _ b hbl).trans hb,Ft,hs,hD⟩)
 exact AnyZ.sorted_in Ea Fence.wide 5 trivial trivial trivial trivial rfl (by omega) (hso _) (enters_of Tryz.func65 (by kernel_rfl) rfl) 66 #[.pointer (some ⟨w.heap.size,0,none⟩)] trivial (enters_of Tryz.func66 (by kernel_rfl) rfl) _ _ hmax hbytes _ hseq
set_option maxHeartbeats 1000000 in
theorem ta (hso:∀m,AnyZ.SortsIn Tryz.prog bU Fence.wide m) {w:World} {g mb m:Nat} {D:DataW Value} (hE:wI w g mb m D) (hmax:Maps.size D≤1000000):Calls Tryz.prog 23 #[.pointer (some ⟨g,0,none⟩)] w fun e w'=>∃(v:Value) (ss:List (List UInt8)),e= .returned v∧ss.Perm (strKeys D)∧w'.ownsRow 0 9 1 v ss.length ((ss.mergeSort (fun x y=>decide (x≤y))).map encStr)∧(v= .slice none 0 0↔ss= [])∧Below w.heap.size w w':=by
 have HS:=Lib.hid (yE hso mb m D hP w hE.map (by unfold maxLen;omega) (by omega))
 have hc:=hE.top.cell 0
 clear hso hE hmax
 go_enter Tryz.func23,Tryz.ntmps23
 go_wp2_with (first|(go_at_call 43;go_must (refine (r9 _ _).mono ?_;rintro r w1 ⟨rfl,rfl⟩))|(go_at_call 42;go_must (refine HS.out.mono ?_;rintro r w2 ⟨v,ss,rfl,hss,hrow,hnil,hb2⟩;have H2:=Lib.hid hss;have H3:=Lib.hid hrow;have H4:=Lib.hid hnil;have H5:=Lib.hid hb2;clear hss hrow hnil hb2)))
 go_ret
 exact ⟨v,ss,rfl,H2.out,ownsRow_base_a H3.out (by simp),H4.out,((Below.refl _ w).alloc (Nat.le_refl _) _).trans (H5.out.mono (by simp))⟩
theorem sF (w:World):Calls Tryz.prog 23 #[.pointer none] w fun e w'=>e= .returned (.slice none 0 0)∧w=w':=by
 go_enter Tryz.func23,Tryz.ntmps23
 go_wp2
 go_ret
 exact ⟨rfl,rfl⟩
end Go.Proofs.YtknlbpjcjdenbaaGreat
namespace Go.Proofs.YtknlbpjcjdenbaaGreat
open Go Go.RowKit Go.Maps Go.Sort
set_option linter.unusedVariables false
theorem Ew {w W:World} {g k:Nat} (h:W.heap[g]?=w.heap[g]?):W.cell? ⟨g,k,none⟩=w.cell? ⟨g,k,none⟩:=by unfold World.cell?;rw [h]
theorem sB {w:World} {b:Nat} {v:Value} {ss:List (List UInt8)} (h:w.ownsRow b 9 1 v ss.length (ss.map encStr)):∃a c,v= .slice a ss.length c∧(ss≠ []→∃q,a=some ⟨q,0,none⟩∧q<w.heap.size∧∀k (hk:k<ss.length),w.cell? ⟨q,k,none⟩=some (.string (bs ss[k]))):=by
 rcases h.2 with ⟨h1,h2⟩|⟨q,c,cur,h1,h3,hg,h4,h5,h6,h7⟩
 ·exact ⟨none,0,by rw [h1,h2],fun hn=>absurd (List.length_eq_zero_iff.1 h2) hn⟩
 ·refine ⟨_,c,h1,fun _=>⟨q,rfl,(Array.getElem?_eq_some_iff.1 hg).1,fun k hk=> ?_⟩⟩
  have hB:aj w q cur.toList 9:=hg
  rw [hB.cell]
  have h8:(cur.toList.take (ss.length*1))[k]?=(ss.map encStr)[k]?:=by rw [h7]
  rw [List.getElem?_take,if_pos (by omega)] at h8
  rw [h8,List.getElem?_map,List.getElem?_eq_getElem hk]
  rfl
set_option maxHeartbeats 2000000 in
theorem pW {w:World} {b1 b2:Nat} {v1 v2:Value} {ss:List (List UInt8)} (h1:w.ownsRow b1 9 1 v1 ss.length (ss.map encStr)) (h2:w.ownsRow b2 9 1 v2 ss.length (ss.map encStr)) (hl:ss.length≤1000000):Calls Tryz.prog 22 #[v1,v2] w fun e w'=>e= .returned (.bool true)∧Below w.heap.size w w':=by
 obtain ⟨a1,c1,rfl,k1⟩:=sB h1
 obtain ⟨a2,c2,rfl,k2⟩:=sB h2
 have K1:=Lib.hid k1
 have K2:=Lib.hid k2
 have hlen:(ss.length:Int)≤1000000:=by omega
 clear h1 h2 k1 k2 hl
 go_enter Tryz.func22,Tryz.ntmps22
 go_wp2
 go_loopw [5] (fun i wr=>∃k:Nat,k≤ss.length∧i= .int .i64 k∧Below w.heap.size w wr) (fun i _=>ss.length-(intOf i).toNat)
 case atStart=>exact ⟨0,Nat.zero_le _,rfl,Below.refl _ _⟩
 case round=>
  obtain ⟨k,hk,rfl,hbr⟩:=hrel
  by_cases hlt:k<ss.length
  ·have hltz:(k:Int)<(ss.length:Int):=by omega
   have hne:ss≠ []:=fun e=>by rw [e] at hlt;cases hlt
   obtain ⟨q1,rfl,hq1,f1⟩:=K1.out hne
   obtain ⟨q2,rfl,hq2,f2⟩:=K2.out hne
   obtain ⟨s,hs⟩:∃s,s=ss[k]:=⟨_,rfl⟩
   have HC1:Hid (∀W,Below wr.heap.size wr W→W.cell? ⟨q1,k,none⟩=some (.string (bs s))):=Lib.hid fun W hb=>(Ew ((Below.call hbr hb).block q1 hq1)).trans (by rw [hs];exact f1 k hlt)
   have HC2:Hid (∀W,Below wr.heap.size wr W→W.cell? ⟨q2,k,none⟩=some (.string (bs s))):=Lib.hid fun W hb=>(Ew ((Below.call hbr hb).block q2 hq2)).trans (by rw [hs];exact f2 k hlt)
   have HBR:=Lib.hid hbr
   have HK:=Lib.hid hlt
   clear hs f1 f2 hbr hk hlt hne
   go_upto_region 6 with fail
   refine XM 9 [(17,0),(0,1),(0,2),(0,3),(0,4),(0,5),(0,6),(0,7),(0,8)] [gn (.slice (some ⟨q1,0,none⟩) ss.length c1),gn (.int .i64 k),gn (.pointer (some ⟨q1,k,none⟩)),gn (.string (bs s)),gn (.slice (some ⟨q2,0,none⟩) ss.length c2),gn (.int .i64 k),gn (.pointer (some ⟨q2,k,none⟩)),gn (.string (bs s)),gn (.bool false)] ?_ (fun u6 W6 hb6 hv=> ?_)
   ·refine ⟨?_,?_,?_,?_,?_,?_,?_,?_,?_,trivial⟩
    ·refine mP (by rfl) (fun u W hb hu=> ?_)
     go_simp
    ·refine mP (by rfl) (fun u W hb hu=> ?_)
     go_simp
    ·refine mP (by rfl) (fun u W hb hu=> ?_)
     have e0:u 0= .slice (some ⟨q1,0,none⟩) ss.length c1:=hu 0 (by kernel_rfl)
     have e1:u 1= .int .i64 k:=hu 1 (by kernel_rfl)
     go_simp
    ·refine mP (by rfl) (fun u W hb hu=> ?_)
     have e2:u 2= .pointer (some ⟨q1,k,none⟩):=hu 2 (by kernel_rfl)
     have c3:=HC1.out W hb
     go_simp
    ·refine mP (by rfl) (fun u W hb hu=> ?_)
     go_simp
    ·refine mP (by rfl) (fun u W hb hu=> ?_)
     go_simp
    ·refine mP (by rfl) (fun u W hb hu=> ?_)
     have e4:u 4= .slice (some ⟨q2,0,none⟩) ss.length c2:=hu 4 (by kernel_rfl)
     have e5:u 5= .int .i64 k:=hu 5 (by kernel_rfl)
     go_simp
    ·refine mP (by rfl) (fun u W hb hu=> ?_)
     have e6:u 6= .pointer (some ⟨q2,k,none⟩):=hu 6 (by kernel_rfl)
     have c7:=HC2.out W hb
     go_simp
    ·refine mP (by rfl) (fun u W hb hu=> ?_)
     have e3:u 3= .string (bs s):=hu 3 (by kernel_rfl)
     have e7:u 7= .string (bs s):=hu 7 (by kernel_rfl)
     go_simp
   have e8:u6 8= .bool false:=hv 8 (by omega)
   have HB6:=Lib.hid hb6
   simp only [e8]
   clear hb6 hv e8
   go_wp2
   have hk1:=HK.out
   refine ⟨?_,?_⟩
   ·exact ⟨k+1,HK.out,by simp,Below.call HBR.out HB6.out⟩
   ·show ss.length-(intOf (.int .i64 ((k:Int)+1))).toNat<ss.length-(intOf (.int .i64 (k:Int))).toNat
    simp only [intOf]
    omega
  ·obtain rfl:k=ss.length:=by omega
   go_wp2
   go_ret
   exact ⟨rfl,hbr⟩
end Go.Proofs.YtknlbpjcjdenbaaGreat
namespace Go.Proofs.YtknlbpjcjdenbaaGreat
open Go Go.RowKit
set_option linter.unusedVariables false
theorem jE (n v i:Int):(aC n v i).onceId=i%4:=rfl
theorem vu (n v i:Int):(aC n v i).kemId=nz (1+v%2) (i%4):=rfl
theorem mn (n v:Int):(aC n v 0).kemId=0:=by
 show nz _ _=0
 unfold nz
 split<;>rfl
theorem Ag (v i:Int):nz v i=i∨nz v i=0:=by
 unfold nz
 split
 ·exact .inl rfl
 ·exact .inr rfl
theorem fU (n v i:Int):(aC n v i).fine:=by
 have h1:(aC n v i).sign.length=32:=wQ _
 have h2:(aC n v i).ident.length=32:=fv _
 have h3:(aC n v i).medium.length=32:=fv _
 have h4:(aC n v i).medsig.length=64:=ig _ _
 have h5:(aC n v i).once.length≤32:=by
  show (yH _ _).length≤32
  unfold yH
  split
  ·rw [fv];exact Nat.le_refl _
  ·exact Nat.zero_le _
 have h6:(aC n v i).kem.length≤1184:=by
  show (qG _ _ _).length≤1184
  unfold qG
  split
  ·rw [iX];exact Nat.le_refl _
  ·exact Nat.zero_le _
 have h7:(aC n v i).kemsig.length≤64:=by
  show (vj _ _ _).length≤64
  unfold vj
  split
  ·rw [ig];exact Nat.le_refl _
  ·exact Nat.zero_le _
 refine ⟨⟨by omega,by omega,by omega,by omega,by omega,by omega,by omega⟩,?_,?_⟩
 ·rw [jE];exact ⟨by omega,by omega⟩
 ·rw [vu]
  rcases Ag (1+v%2) (i%4) with h|h<;>rw [h]<;>exact ⟨by omega,by omega⟩
theorem Gg {e:En} {n v i:Int} (hb:e.base=aC n v 0) (h0:i%4≠0) (hl:e.once.length<10):e.takes (aC n v i)=decide (e.onces (i%4)=0∧(nz (1+v%2) (i%4)=0∨e.kems (nz (1+v%2) (i%4))=0)):=by
 have d0:decide (aX (aC n v i) 1≠0)=false:=by rw [gZ];rfl
 have d1:decide ((aC n v i).onceId=0)=false:=decide_eq_false (by rw [jE];exact h0)
 have d2:decide ((10:Int)≤(e.once.length:Int))=false:=decide_eq_false (by omega)
 have d3:decide ((aC n v i).sign=e.base.sign)=true:=decide_eq_true (by rw [hb];rfl)
 have d4:decide ((aC n v i).ident=e.base.ident)=true:=decide_eq_true (by rw [hb];rfl)
 have d5:decide ((aC n v i).medium=e.base.medium)=true:=decide_eq_true (by rw [hb];rfl)
 have d6:decide ((aC n v i).medsig=e.base.medsig)=true:=decide_eq_true (by rw [hb];rfl)
 have d7:decide ((aC n v i).version=e.base.version)=true:=decide_eq_true (by rw [hb];rfl)
 rw [En.takes,bK,d0,d1,d2,d3,d4,d5,d6,d7,jE,vu]
 by_cases h8:e.onces (i%4)=0
 ·rw [decide_eq_true h8]
  by_cases h9:nz (1+v%2) (i%4)=0
  ·rw [decide_eq_true h9];simp [h8,h9]
  ·rw [decide_eq_false h9];simp [h8,h9]
 ·rw [decide_eq_false h8];simp [h8]
def e0 (n v:Int):En:=⟨aC n v 0,[],fun _=>0,fun _=>0⟩
theorem sH (f:Int→Int) {j k:Int} (h:j≠k):NO f k j=f j:=if_neg h
theorem AL {e:En} {n v i:Int} (hb:e.base=aC n v 0) (h0:i%4≠0) (hl:e.once.length<10) (h1:e.onces (i%4)=0) (h2:e.kems (i%4)=0):e.takes (aC n v i)=true:=by
 rw [Gg hb h0 hl]
 refine decide_eq_true ⟨h1,?_⟩
 rcases Ag (1+v%2) (i%4) with h|h
 ·rw [h];exact .inr h2
 ·exact .inl h
theorem GE {f:Int→Int} {n v i:Int} {j:Int} (hj:j≠0) (hji:j≠i%4):NO f (aC n v i).kemId j=f j:=by
 refine sH _ ?_
 rw [vu]
 rcases Ag (1+v%2) (i%4) with h|h<;>rw [h]
 ·exact hji
 ·exact hj
theorem IX {f:Int→Int} {n v i j:Int} (h:j≠i%4):NO f (aC n v i).onceId j=f j:=sH _ (by rw [jE];exact h)
theorem vW {e:En} {c:Nat} {B:Bn} (h:e.takes B=true):stp (e,c) B=(e.add B,c+1):=if_pos h
end Go.Proofs.YtknlbpjcjdenbaaGreat
namespace Go.Proofs.YtknlbpjcjdenbaaGreat
open Go Go.RowKit Go.Maps
set_option linter.unusedVariables false
theorem iL {ops:Array Oper} {rest:List Oper} {o:Oper} {a:Act} {w w':World} {v:Value} {Q:Exit→Act→World→Prop} (hg:o.guard=none) (hex:(execOp a.eval o).run Tryz.prog w= .ok (.value v) w') (h:wpList Tryz.prog ops Q rest (a.put o.dst v) w'):wpList Tryz.prog ops Q (o::rest) a w:=
 wpList_plain hg fun K hK=>by
  unfold Oper.wp
  rw [hex]
  exact hK _ _ h
theorem qj:(Tryz.prog.info? 27).map (·.size)=some 6:=by kernel_rfl
abbrev dq (nm:ByteArray) (n v:Int):List Value:= [.int .i64 0,.string nm,.int .i64 n,.int .i64 v,.slice none 0 0,.int .i64 0]
theorem fq {w:World} (nm:ByteArray) (n v i:Int):Calls Tryz.prog 11 #[.agg (dq nm n v).toArray,.int .i64 i] w fun e w'=>∃cs:List Value,e= .returned (.agg cs.toArray)∧Below w.heap.size w w'∧cJ (fun g=>w.heap.size≤g) w' (aC n v i) (.agg cs.toArray):=
 (It (A:=fun _=>True) 0 n v 0 i nm (zJ .int) rfl (Int.le_refl _)).mono fun e w' ⟨v',he,hb,hv⟩=>by
  obtain ⟨cs,rfl,_⟩:=hv
  exact ⟨cs,he,hb,⟨cs,rfl,by assumption⟩⟩
abbrev Ff:ByteArray:=⟨#[97]⟩
abbrev UC:ByteArray:=⟨#[97,49]⟩
abbrev UN:ByteArray:=⟨#[65]⟩
abbrev bJ:ByteArray:=⟨#[98,111,98]⟩
theorem Al (n v:Int):(En.mk (aC n v 0) [] (fun _=>0) fun _=>0).adds [aC n v 1]=((e0 n v).add (aC n v 1),1):=by
 have h:(e0 n v).takes (aC n v 1)=true:=AL rfl (by decide) (by simp [e0]) rfl rfl
 exact vW h
set_option maxHeartbeats 4000000 in
theorem eU (w:World):Calls Tryz.prog 8 #[] w fun e w'=>e= .returned (.bool true)∧Below w.heap.size w w':=by
 go_enter Tryz.func8,Tryz.ntmps8
 go_upto_region 5 with (go_at_call 9;go_must (refine (yR _).mono ?_;rintro r w1 ⟨rfl,hg1,hb1⟩;have HG1:=Lib.hid hg1;have HB1:=Lib.hid hb1;clear hg1 hb1))
 obtain ⟨g,hg⟩:∃g,g=w.heap.size:=⟨_,rfl⟩
 obtain ⟨p,hp⟩:∃p,p=w1.heap.size:=⟨_,rfl⟩
 have hgp:g<p:=by have:=HG1.out.lt;omega
 refine dt (fun W=>aj W g [.map none] 60∧aj W p (dq Ff 1 0) 27∧Below w.heap.size w W) ⟨?_,?_,?_⟩ (fun W0 ⟨hG,hP,hB⟩=> ?_)
 ·rw [hg];exact HG1.out.alloc _
 ·rw [hp];exact aj.new w1 _ _
 ·exact Below.alloc' HB1.out _
 rw [←hg,←hp]
 have hrp:=hP.rng
 have HG:=Lib.hid hG
 have HP:=Lib.hid hP
 have HB:=Lib.hid hB
 have HGP:=Lib.hid hgp
 have HGE:=Lib.hid hg
 have HNA:Hid (bl Ff=true):=Lib.hid (by decide)
 have HSZ:Hid (Ff.size≤1000):=Lib.hid (by decide)
 clear hG hP hB hgp hg hp HG1 HB1
 go_upto_region 6 with (first|(refine wpList_load_mid rfl 27 (.tmp 2) rfl p 0 rfl (dq Ff 1 0) _ hrp Tryz.underlying27 rfl qj ?_)|(go_at_call 11;go_must (refine (fq Ff 1 0 0).mono ?_;rintro r w2 ⟨cs,rfl,hb2,hv2⟩;have HB2:=Lib.hid hb2;have HV2:=Lib.hid hv2;clear hb2 hv2))|(go_at_call 10;go_must (refine (Md Ff HSZ.out HNA.out (HG.out.below' HB2.out) HV2.out rfl rfl (gZ _ _ _) (fU _ _ _) (Nat.not_le.2 HG.out.lt)).mono ?_;rintro r w3 ⟨rfl,T,hS3,hT3,hf3⟩;have HS3:=Lib.hid hS3;have HT3:=Lib.hid hT3;have HF3:=Lib.hid hf3;clear hS3 hT3 hf3)))
 have hP3:aj w3 p (dq Ff 1 0) 27:=HF3.out.blk (HP.out.below' HB2.out) (fun h=>by have:=HGP.out;omega)
 have hb3:Below w.heap.size w w3:=(Below.call HB.out HB2.out).trans (HF3.out.below (Nat.le_trans HB.out.size HB2.out.size) (fun x hx=>by have h1:x=g:=hx;have:=HGE.out;omega))
 have hnp3:¬a_ T 4 p:=HT3.out p (Nat.lt_of_lt_of_le HP.out.lt HB2.out.size)
 have hrp3:=hP3.rng
 have HP3:=Lib.hid hP3
 have HB3:=Lib.hid hb3
 have HNP3:=Lib.hid hnp3
 clear hP3 hb3 hnp3 hrp
 go_upto_region 7 with (first|(refine wpList_load_mid rfl 27 (.tmp 2) rfl p 0 rfl (dq Ff 1 0) _ hrp3 Tryz.underlying27 rfl qj ?_)|(go_at_call 11;go_must (refine (fq Ff 1 0 1).mono ?_;rintro r w4 ⟨cs4,rfl,hb4,hv4⟩;have hl4:=aV hv4;have HB4:=Lib.hid hb4;have HV4:=Lib.hid hv4;clear hb4 hv4))|(refine iL rfl (sM rfl rfl hl4) ?_)|(go_at_call 12;go_must (refine (wN Ff HSZ.out HNA.out (A:=fun x=>w3.heap.size≤x) (l:= [aC 1 0 1]) (zs:=cs4) ((HS3.out.below HB4.out).below ((Below.refl _ _).alloc (Nat.le_refl _) _)) HS3.out.new ((aj.new w4 _ _).rng) ⟨cs4,[],by simp,HV4.out.below ((Below.refl _ _).alloc (Nat.le_refl _) _),rfl⟩ HB4.out.size (fun B hB=>by rw [List.mem_singleton.1 hB];exact fU _ _ _) (by decide)).mono ?_;rintro r w5 ⟨rfl,T5,hT5,hS5,hf5⟩;rw [Al] at hS5 ⊢;have HS5:=Lib.hid hS5;have HT5:=Lib.hid hT5;have HF5:=Lib.hid hf5;clear hS5 hT5 hf5)))
 have hP5:aj w5 p (dq Ff 1 0) 27:=HF5.out.blk ((HP3.out.below' HB4.out).alloc _) HNP3.out
 have hb5:Below w.heap.size w w5:=((Below.call HB3.out HB4.out).alloc (Nat.le_trans HB3.out.size HB4.out.size) _).trans (HF5.out.below (B:=w.heap.size) (Nat.le_trans (Nat.le_trans HB3.out.size HB4.out.size) (by simp)) (fun x hx=>by
  rcases Nat.lt_or_ge x w.heap.size with h|h
  ·exact absurd hx (HT3.out x (by have:=HB2.out.size;have:=HB.out.size;omega))
  ·exact h))
 have HB5:=Lib.hid hb5
 clear hP5 hb5 hrp3
 go_upto_region 8 with (first|(go_at_call 14;go_must (refine (GB Ff HSZ.out HNA.out HS5.out rfl).mono ?_;rintro r w6 ⟨z6,T6,A6,rfl,hz6,hT6,hS6,hf6⟩;obtain ⟨y6,rfl⟩:∃y6:List Value,z6= .agg y6.toArray:=(by obtain ⟨y,e,_⟩:=hz6;exact ⟨y,e⟩);have hl6:=aV hz6;have hi6:(Tryz.prog.info? 32).map (·.size)=some y6.toArray.size:=(by rw [aN];simp [hl6]);have ho6:bP.size=y6.toArray.size:=(by simp [hl6]);have h61:=eW hz6;have HZ6:=Lib.hid hz6;have HT6:=Lib.hid hT6;have HS6:=Lib.hid hS6;have HF6:=Lib.hid hf6;clear hz6 hT6 hS6 hf6))|(refine wpList_store_row rfl 32 _ _ rfl w6.heap.size _ rfl rfl 32 bP (aj.new w6 _ _) hi6 ho6 h61 ?_))
 have hb6:Below w.heap.size w w6:=HB5.out.trans (HF6.out.below (B:=w.heap.size) HB5.out.size (fun x hx=>by
  rcases Nat.lt_or_ge x w.heap.size with h|h
  ·have h1:=HT3.out x (by have:=HB2.out.size;have:=HB.out.size;omega)
   unfold a_ at hx h1
   rw [HT5.out x (by have:=HB3.out.size;have:=HB4.out.size;simp;omega)] at hx
   exact absurd hx h1
  ·exact h))
 obtain ⟨U6,hU6⟩:∃U6,U6=(w6.alloc (.cells bP 32)).setRow w6.heap.size y6.toArray:=⟨_,rfl⟩
 have hu6:Below w6.heap.size w6 U6:=by rw [hU6];exact below_setRow (Below.alloc' (Below.refl _ _) _) (Nat.le_refl _) _
 have hP6:aj U6 w6.heap.size y6 32:=by rw [hU6];exact cw (aj.new w6 _ _)
 have HU6:=Lib.hid hu6
 have HP6:=Lib.hid hP6
 have HB6:=Lib.hid hb6
 have HSU:=Lib.hid (HS6.out.below hu6)
 rw [←hU6]
 obtain ⟨p6,hp6⟩:∃p6,p6=w6.heap.size:=⟨_,rfl⟩
 rw [←hp6]
 have HPE:=Lib.hid hp6
 clear hU6 hu6 hP6 hb6 hp6
 go_upto_region 9 with (first|(go_at_call 14;go_must (refine (Kx Ff HSZ.out HNA.out HSU.out rfl).mono ?_;rintro r w8 ⟨z8,A8,rfl,hz8,hb8⟩;obtain ⟨y8,rfl⟩:∃y8:List Value,z8= .agg y8.toArray:=(by obtain ⟨y,e,_⟩:=hz8;exact ⟨y,e⟩);have hl8:=aV hz8;have hi8:(Tryz.prog.info? 32).map (·.size)=some y8.toArray.size:=(by rw [aN];simp [hl8]);have ho8:bP.size=y8.toArray.size:=(by simp [hl8]);have h81:=eW hz8;have HZ8:=Lib.hid hz8;have HB8:=Lib.hid hb8;clear hz8 hb8))|(refine wpList_store_row rfl 32 _ _ rfl w8.heap.size _ rfl rfl 32 bP (aj.new w8 _ _) hi8 ho8 h81 ?_))
 obtain ⟨U8,hU8⟩:∃U8,U8=(w8.alloc (.cells bP 32)).setRow w8.heap.size y8.toArray:=⟨_,rfl⟩
 have hu8:Below w8.heap.size w8 U8:=by rw [hU8];exact below_setRow (Below.alloc' (Below.refl _ _) _) (Nat.le_refl _) _
 have hP8:aj U8 w8.heap.size y8 32:=by rw [hU8];exact cw (aj.new w8 _ _)
 have hP68:aj U8 p6 y6 32:=by rw [HPE.out];exact (HP6.out.below' HB8.out).below' hu8
 have hc8:=(jG HZ8.out hP8).1
 have hc6:=(jG HZ6.out hP68).1
 rw [show (aC 1 0 1).onceId=1 from rfl] at hc6
 rw [show (En.mk ((e0 1 0).add (aC 1 0 1)).base [] ((e0 1 0).add (aC 1 0 1)).onces ((e0 1 0).add (aC 1 0 1)).kems).base.onceId=0 from rfl] at hc8
 have HW8:Hid (Below w.heap.size w U8):=Lib.hid (Below.call (Below.call (Below.call HB6.out HU6.out) HB8.out) hu8)
 rw [←hU8]
 clear hU8 hu8 hP8 hP68 hi8 ho8 h81 hi6 ho6 h61
 have hn1:bl UC=true:=by decide
 have hn2:bl UN=false:=by decide
 have HN1:=Lib.hid hn1
 have HN2:=Lib.hid hn2
 clear hn1 hn2
 go_wp2_with (go_at_call 20;go_must (first|(with_reducible refine (cV UC (by decide) _).mono ?_;rintro r w9 ⟨rfl,rfl⟩;rw [HN1.out])|(with_reducible refine (cV UN (by decide) _).mono ?_;rintro r w9 ⟨rfl,rfl⟩;rw [HN2.out])))
 go_ret
 exact ⟨rfl,HW8.out⟩
end Go.Proofs.YtknlbpjcjdenbaaGreat
