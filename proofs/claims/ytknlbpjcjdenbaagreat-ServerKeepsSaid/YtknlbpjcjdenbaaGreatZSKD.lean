/- What SK rests on, part 4 of 6: my own texts, put together (merge.py). -/
import Derived.Test.YtknlbpjcjdenbaaGreatRows
import Derived.WalkKit
import Derived.ProofKit
import Derived.Lib.Hide
import Derived.OpenShut
import Derived.WalkSpells
import Derived.StillTactics
import Derived.Laws.Pointers
import Derived.Laws.CopyOwn
import Derived.Laws.AppendOwnNone
import Derived.Deep.RegionHeld3
import Derived.RowKit3
import Derived.BigQuiet
import Derived.Deep.QuietTactic
import Derived.Deep.LoopGhost
import Derived.Deep.DeepFit
import Derived.WalkLawsBesides
import Derived.Shelf.Spec.BitsCarry
import Derived.Maps.RangeWalk
import Derived.Deep.MidRow
import Derived.Laws.IdiomStrings
import Derived.Great.BuildSlice
import Derived.Lib.AppendZerosOnto
import Derived.Deep.DeepCutAuto
import Derived.Lib.SliceRun
import Derived.Laws.ResultCell
import Derived.Laws.CopyRow
import Derived.Deep.Cut
import Derived.Deep.RegionLaw
import Derived.Laws.Tables
import Derived.StillTailTactics
import Derived.ShutString
import Derived.ChangeOld
import Derived.Test.YtknlbpjcjdenbaaGreatZSKC
set_option maxRecDepth 100000
namespace Go.Proofs.YtknlbpjcjdenbaaGreat
open Go Go.RowKit
set_option maxRecDepth 10000
def il (n:Nat) (c:Nat→Nat):List Int:=(List.range n).map fun i=>(c i:Int)
theorem il_len (n:Nat) (c:Nat→Nat):(il n c).length=n:=by simp [il]
theorem il_get {n i:Nat} (c:Nat→Nat) (h:i<n):(il n c).getD i 0=(c i:Int):=by simp [il,List.getD_eq_getElem?_getD,h]
theorem il_set {n m v:Nat} {c:Nat→Nat} {x:Int} (hx:x=v):(il n c).set m x=il n (updN c m v):=by
 subst hx
 apply List.ext_getElem (by simp [il])
 intro j h1 h2
 rw [List.getElem_set]
 by_cases e:m=j
 ·subst e;simp [il,updN]
 ·rw [if_neg e];simp [il,updN,Ne.symm e]
def bou (n m i:Nat):Nat:=if 63-i<m then dB n (63-i) else 0
theorem bou_0 (n:Nat):bb 64 (bou n 0)=List.replicate 64 0:=(bb_congr (g:=fun _=>0) fun i hi=>by unfold bou;rw [if_neg (by omega)]).trans (by decide +kernel)
theorem bou_set {n m:Nat} (h:m<64) {x:UInt8} (hx:x=UInt8.ofNat (dB n m)):(bb 64 (bou n m)).set (63-m) x=bb 64 (bou n (m+1)):=
 bb_set (by rw [hx];unfold bou;rw [show 63-(63-m)=m by omega,if_pos (by omega)]) fun j hj hne=>by
  unfold bou
  by_cases e:63-j<m
  ·rw [if_pos e,if_pos (by omega)]
  ·rw [if_neg e,if_neg (by omega)]
theorem bou_64 (n:Nat):bb 64 (bou n 64)=bb 64 (bR 64 n):=bb_congr fun i hi=>by unfold bou bR;rw [if_pos (by omega)]
theorem vcScMul (x y:Nat) (hx:x<256^32) (hy:y<256^32):vc TYD (ctOf LS4) Tryz.f92.ntmps (bodyOf Tryz.f92) ⟨mkSl 0 [.agg [.vec .u8 32 (scL x)],.agg [.vec .u8 32 (scL y)]],[],2000⟩ (retR TYD Tryz.f92.ntmps [.cell 4 140] [.agg [.vec .u8 32 (scL (x*y%Lq))]] []):=by
 refine sd<|Or.inr ⟨{s:Nat×(Nat→Nat) // s.1≤32∧MbOut (bR 32 x) (bR 32 y) s.2 s.1},fun s=>⟨[(6,.one (.ob .int (s.val.1:Int)))],[(2048,.row 3 .int (il 64 s.val.2))]⟩,fun s=>32-s.val.1,⟨(0,fun _=>0),by omega,MbOut.start _ _⟩,?_⟩
 refine ⟨rfl,(by show il 64 (fun _=>0)=List.replicate 64 0;decide +kernel),fun s=>⟨fun h1=> ?_,fun h1=> ?_⟩⟩
 ·have h1:=of_decide_eq_true h1
  obtain ⟨⟨i,c⟩,hi,hM⟩:=s
  dsimp only at hi h1 hM ⊢
  have hi32:i<32:=by omega
  refine Or.inr ⟨{s:Nat×(Nat→Nat) // s.1≤32∧MbIn (bR 32 x) (bR 32 y) s.2 i s.1},fun s=>⟨[(7,.one (.ob .int (s.val.1:Int)))],[(2048,.row 3 .int (il 64 s.val.2))]⟩,fun s=>32-s.val.1,⟨(0,c),by omega,hM.into⟩,?_⟩
  refine ⟨rfl,rfl,fun s=>⟨fun h2=> ?_,fun h2=> ?_⟩⟩
  ·have h2:=of_decide_eq_true h2
   obtain ⟨⟨k,c⟩,hk,hM⟩:=s
   dsimp only at hk h2 hM ⊢
   have hk32:k<32:=by omega
   have hlen:=il_len 64 c
   have hp:=prodB_le x y i k
   have hst:=hM.step hk32 hi32 hp
   have hlo:=hM.lo (i+k+1)
   have hga:(((scL x).getD (i:Int).toNat (Kd.df .u8)).toNat:Int)=(bR 32 x i:Nat):=by rw [Int.toNat_natCast,show (scL x).getD i (Kd.df .u8)=UInt8.ofNat (bR 32 x i) from bb_get _ hi32,b_nat (bR_lt _ _ _)]
   have hgb:(((scL y).getD (k:Int).toNat (Kd.df .u8)).toNat:Int)=(bR 32 y k:Nat):=by rw [Int.toNat_natCast,show (scL y).getD k (Kd.df .u8)=UInt8.ofNat (bR 32 y k) from bb_get _ hk32,b_nat (bR_lt _ _ _)]
   have hgc:(il 64 c).getD ((i:Int)+(k:Int)+1).toNat (Kd.df .int)=(c (i+k+1):Int):=by rw [show ((i:Int)+(k:Int)+1).toNat=i+k+1 by omega];exact il_get _ (by omega)
   obtain ⟨P,hP⟩:∃P,bR 32 x i*bR 32 y k=P:=⟨_,rfl⟩
   have hz:(((scL x).getD (i:Int).toNat (Kd.df .u8)).toNat:Int)*(((scL y).getD (k:Int).toNat (Kd.df .u8)).toNat:Int)=(P:Int):=by rw [hga,hgb,←hP];exact (Int.natCast_mul _ _).symm
   rw [hP] at hp hst
   unfold MB at hp hlo
   repeat refine sd ?_
   refine ⟨⟨(k+1,updN c (i+k+1) (c (i+k+1)+P)),by omega,hst⟩,(by show 32-(k+1)<32-k;omega),rfl,?_,trivial⟩
   show il 64 (updN c (i+k+1) (c (i+k+1)+P))=(il 64 c).set ((i:Int)+(k:Int)+1).toNat _
   rw [show ((i:Int)+(k:Int)+1).toNat=i+k+1 by omega]
   exact (il_set (by rw [show i+k+1=((i:Int)+(k:Int)+1).toNat by omega,hgc,hz];rfl)).symm
  ·have h2:=of_decide_eq_false h2
   obtain ⟨⟨k,c⟩,hk,hM⟩:=s
   dsimp only at hk h2 hM ⊢
   obtain rfl:k=32:=by omega
   refine sd ?_
   exact ⟨⟨(i+1,c),by omega,hM.out hi32⟩,(by show 32-(i+1)<32-i;omega),rfl,rfl,trivial⟩
 ·have h1:=of_decide_eq_false h1
  obtain ⟨⟨i,c⟩,hi,hM⟩:=s
  dsimp only at hi h1 hM ⊢
  obtain rfl:i=32:=by omega
  have hv:=hM.fin hx hy
  have hle:=crN_le hM.lo
  have hdg:=crN_digit c
  rw [hv] at hdg
  refine sd<|Or.inr ⟨{m:Nat // m≤64},fun m=>⟨[(10,.one (.ob .int (63-(m.val:Int)))),(9,.one (.ob .int (crN c m.val:Int)))],[(3128,.row 5 .u8 (bb 64 (bou (x*y) m.val)))]⟩,fun m=>64-m.val,⟨0,by omega⟩,?_⟩
  refine ⟨rfl,rfl,bou_0 _,fun m=>⟨fun h2=> ?_,fun h2=> ?_⟩⟩
  ·have h2:=of_decide_eq_true h2
   have hm:=m.2
   have hm64:m.val<64:=by omega
   have e3:Int.toNat (63-(m.val:Int))=63-m.val:=by omega
   have hlen:=il_len 64 c
   have hlen2:=bb_len 64 (bou (x*y) m.val)
   have hgc:(il 64 c).getD (63-(m.val:Int)).toNat (Kd.df .int)=(c (63-m.val):Int):=by rw [e3];exact il_get _ (by omega)
   have hc1:=hle m.val
   have hc2:=hM.lo (63-m.val)
   unfold MB at hc2
   have hdm:=hdg m.val hm64
   have hz:(il 64 c).getD (63-(m.val:Int)).toNat (Kd.df .int)+(crN c m.val:Int)=((c (63-m.val)+crN c m.val:Nat):Int):=by rw [hgc];rfl
   repeat refine sd ?_
   refine ⟨⟨m.val+1,by omega⟩,(by show 64-(m.val+1)<64-m.val;omega),?_,?_,?_,trivial⟩
   ·show [63-((m.val+1:Nat):Int)]= [63-(m.val:Int)-1]
    exact congrArg (fun z=> [z]) (by omega)
   ·show [((crN c (m.val+1):Nat):Int)]= [((il 64 c).getD (63-(m.val:Int)).toNat (Kd.df .int)+(crN c m.val:Int))/2^8]
    rw [hz,crN]
    exact congrArg (fun z=> [z]) (by omega)
   ·show bb 64 (bou (x*y) (m.val+1))=(bb 64 (bou (x*y) m.val)).set (63-(m.val:Int)).toNat (UInt8.ofNat ((il 64 c).getD (63-(m.val:Int)).toNat (Kd.df .int)+(crN c m.val:Int)).toNat)
    rw [hz,e3,Int.toNat_natCast]
    exact (bou_set hm64 (by rw [hdm];exact UInt8.toNat_inj.1 (by simp))).symm
  ·have h2:=of_decide_eq_false h2
   have hm:=m.2
   rw [show m.val=64 by omega,bou_64]
   refine sd (hp:=by show (bb 64 (bR 64 (x*y))).length≤1000;rw [bb_len];omega) ?_
   refine ⟨rfl,?_,trivial⟩
   show scL (x*y%Lq)=scL (beN (bb 64 (bR 64 (x*y)))%Lq)
   have h:=Nat.mul_lt_mul'' hx hy
   rw [←Nat.pow_add] at h
   rw [bb_beN _ _ h]
set_option maxRecDepth 10000
theorem scL_cells (x:Nat):(scL x).map bV=(List.range 32).map fun i=> .int .u8 ((x/256^(31-i)%256:Nat):Int):=by
 rw [scL,bb,List.map_map]
 refine List.map_congr_left fun i _=> ?_
 show Value.int .u8 ((UInt8.ofNat (bR 32 x i)).toNat:Int)=_
 rw [b_nat (bR_lt _ _ _)]
 rfl
def Cl.ls (c:Cl):Cl:=match c with
 | .ob (.x 3) x=> .vec .u8 32 (scL x)
 |c=>c
def AV.ls:AV→AV
 | .one x=> .one x
 | .agg l=> .agg (l.map Cl.ls)
def Cl.lsOk (c:Cl):Prop:=match c with
 | .ob (.x 3) x=>(show Nat from x)<Lq
 |_=>True
def clsOk:List Cl→Prop
 | []=>True
 |c::r=>c.lsOk∧clsOk r
def AV.lsOk:AV→Prop
 | .one _=>True
 | .agg l=>clsOk l
section
variable {η:Env} {A:Nat→Prop} {w:World}
theorem Cl.ls_to {c:Cl} {cs:List Value} (h:c.H η A w cs):(c.ls).H η A w cs∧c.lsOk:=by
 unfold Cl.ls Cl.lsOk
 split
 ·rename_i x
  obtain ⟨h1,h2⟩:=h
  exact ⟨⟨scL_len _,lims_u8.2 (h2.trans (scL_cells x).symm)⟩,h1⟩
 ·refine ⟨h,?_⟩
  trivial
theorem Cl.ls_of {c:Cl} {cs:List Value} (ho:c.lsOk) (h:(c.ls).H η A w cs):c.H η A w cs:=by
 unfold Cl.ls at h
 split at h
 ·rename_i x
  obtain ⟨_,h⟩:=h
  exact ⟨ho,(lims_u8.1 h).trans (scL_cells x)⟩
 ·exact h
theorem ClsH_lsTo:∀ {l:List Cl} {cs:List Value},ClsH η A w l cs→ClsH η A w (l.map Cl.ls) cs∧clsOk l
 | [],_,h=>⟨h,trivial⟩
 |x::r,cs,⟨h,t,e,h1,h2⟩=>by
  obtain ⟨a1,a2⟩:=Cl.ls_to h1
  obtain ⟨b1,b2⟩:=ClsH_lsTo h2
  exact ⟨⟨h,t,e,a1,b1⟩,a2,b2⟩
theorem ClsH_lsOf:∀ {l:List Cl} {cs:List Value},clsOk l→ClsH η A w (l.map Cl.ls) cs→ClsH η A w l cs
 | [],_,_,h=>h
 |x::r,cs,ho,⟨h,t,e,h1,h2⟩=>⟨h,t,e,Cl.ls_of ho.1 h1,ClsH_lsOf ho.2 h2⟩
theorem AV.ls_to {x:AV} {v:Value} (h:x.H η A w v):(x.ls).H η A w v∧x.lsOk:=by
 cases x with
 |one x=>exact ⟨h,trivial⟩
 |agg l=>
  obtain ⟨cs,e,h1,h2⟩:=h
  obtain ⟨a1,a2⟩:=ClsH_lsTo h1
  exact ⟨⟨cs,e,a1,h2⟩,a2⟩
theorem AV.ls_of {x:AV} {v:Value} (ho:x.lsOk) (h:(x.ls).H η A w v):x.H η A w v:=by
 cases x with
 |one x=>exact h
 |agg l=>
  obtain ⟨cs,e,h1,h2⟩:=h
  exact ⟨cs,e,ClsH_lsOf ho h1,h2⟩
def avsOk:List AV→Prop
 | []=>True
 |x::r=>x.lsOk∧avsOk r
theorem AvsH_lsTo:∀ {l:List AV} {vs:List Value},AvsH η A w l vs→AvsH η A w (l.map AV.ls) vs∧avsOk l
 | [],_,h=>⟨h,trivial⟩
 |x::r,vs,⟨v,t,e,h1,h2⟩=>by
  obtain ⟨a1,a2⟩:=AV.ls_to h1
  obtain ⟨b1,b2⟩:=AvsH_lsTo h2
  exact ⟨⟨v,t,e,a1,b1⟩,a2,b2⟩
theorem AvsH_lsOf:∀ {l:List AV} {vs:List Value},avsOk l→AvsH η A w (l.map AV.ls) vs→AvsH η A w l vs
 | [],_,_,h=>h
 |x::r,vs,ho,⟨v,t,e,h1,h2⟩=>⟨v,t,e,AV.ls_of ho.1 h1,AvsH_lsOf ho.2 h2⟩
theorem OutH_lsOf {l:List AV} {v:Value} (ho:avsOk l) (h:OutH η A w (l.map AV.ls) v):OutH η A w l v:=by
 rcases l with _|⟨x,_|⟨y,l⟩⟩
 ·trivial
 ·exact AV.ls_of ho.1 h
 ·obtain ⟨vs,e,h⟩:=h
  have h2:AvsH η A w ((x::y::l).map AV.ls) vs:=h
  exact ⟨vs,e,AvsH_lsOf ho h2⟩
theorem Cl.ls_rn (n:Nat) (c:Cl):(c.ls).rn n=(c.rn n).ls∧((c.rn n).lsOk↔c.lsOk):=by
 rcases c with _|_|_|⟨k,x⟩|_|_|_|_|_|_|_|_|_|_<;>try exact ⟨rfl,Iff.rfl⟩
 rcases k with _|_|_|_|_|_|_|i<;>try exact ⟨rfl,Iff.rfl⟩
 rcases i with _|_|_|_|i<;>exact ⟨rfl,Iff.rfl⟩
theorem clsOk_rn (n:Nat):∀l:List Cl,clsOk (l.map (Cl.rn n))↔clsOk l
 | []=>Iff.rfl
 |c::r=>and_congr (Cl.ls_rn n c).2 (clsOk_rn n r)
theorem AV.ls_rn (n:Nat) (x:AV):(x.ls).rn n=(x.rn n).ls∧((x.rn n).lsOk↔x.lsOk):=by
 cases x with
 |one x=>exact ⟨rfl,Iff.rfl⟩
 |agg l=>
  refine ⟨congrArg AV.agg ?_,clsOk_rn n l⟩
  rw [List.map_map,List.map_map]
  exact List.map_congr_left fun c _=>(Cl.ls_rn n c).1
theorem avsOk_rn (n:Nat):∀l:List AV,avsOk (l.map (AV.rn n))↔avsOk l
 | []=>Iff.rfl
 |x::r=>and_congr (AV.ls_rn n x).2 (avsOk_rn n r)
end
theorem cfS_sound {ty : Nat → TE} {ct : Nat → Option CF} (hT : TysOk ty) (hO : OpsOk ty ct) {f : Nat} {fn : Func} {c : Code} {rs : List ResultVar} (hf : Tryz.prog.funcs[f]? = some fn) (hn : (fn.name == "runtime.NumGoroutine") = false) (hb : fn.body = some c) (hr : fn.results = rs.toArray) {G : GF}
  (hG:∀l g,G l=some g→preOk g.pre→avsOk l→l.length≤fn.ntmps∧g.outs.length=rs.length∧avsOk g.outs∧avs16 (g.outs.map AV.ls)=true∧hps16 g.us=true∧avsLt 0 (l.map AV.ls)=true∧vc ty ct fn.ntmps c ⟨mkSl 0 (l.map AV.ls),[],2000⟩ (retR ty fn.ntmps rs (g.outs.map AV.ls) g.us)):CSound f (cfA G):=by
 refine ⟨⟨fn,c,hf,hn,hb⟩,fun nx args sl H ds res rd qs h hq hp η w vs hH hv hfree=> ?_⟩
 obtain ⟨l,rd1,h1,hl⟩:=viewsB_ok hH h hv
 split at h1
 ·rename_i e1 e2
  split at h1
  ·rename_i outs us p e3
   have:=cfA_run h1
   subst this
   obtain ⟨a1,a2⟩:=AvsH_lsTo (normAs_ok hl)
   obtain ⟨g1,g2,g0,g3,g4,g6,g5⟩:=hG _ _ e3 hp a2
   rw [updRn_of g4]
   refine (calls_R (pre:=p) followsMixed hT hO hf hb hr g6 (by rw [List.length_map];exact g1) (by rw [List.length_map];exact g2) g3 g4 g5 (ble_le e2) hH hfree a1).mono fun e w' hR=> ?_
   obtain ⟨v,η',he,o1,o2,o3,o4,o5⟩:=hR
   refine ⟨v,η',he,⟨OutH_lsOf ((avsOk_rn nx outs).2 g0) ?_,o2,o3,o4,o5⟩⟩
   have e5:(outs.map AV.ls).map (AV.rn nx)=(outs.map (AV.rn nx)).map AV.ls:=by
    rw [List.map_map,List.map_map]
    exact List.map_congr_left fun x _=>(AV.ls_rn nx x).1
   rw [←e5]
   exact o1
  ·cases h1
 ·cases h1
theorem Lq_pos0:0<Lq:=by unfold Lq;omega
def sAdd (a b:Nat):Nat:=(a+b)%Lq
def sMul (a b:Nat):Nat:=a*b%Lq
def gScAdd:GF:=fun l=>match l with
 | [.agg [.ob (.x 3) a],.agg [.ob (.x 3) b]]=>some ⟨[.agg [.ob (.x 3) (sAdd a b)]],[],none⟩
 |_=>none
theorem scadd_sound:CSound 91 (cfA gScAdd):=cfS_sound TYDok OPZ4 Tryz.func91 (by kernel_rfl) rfl (rs:= [.cell 4 140]) Tryz.results91 fun l g h hp ho=>by
 unfold gScAdd at h
 split at h
 ·rename_i a b
  cases h
  exact ⟨Nat.le_of_ble_eq_true rfl,rfl,⟨⟨Nat.mod_lt _ Lq_pos0,trivial⟩,trivial⟩,rfl,rfl,rfl,vcScAdd a b (Nat.lt_trans ho.1.1 Lq_lt32) (Nat.lt_trans ho.2.1.1 Lq_lt32)⟩
 ·cases h
def gScMul:GF:=fun l=>match l with
 | [.agg [.ob (.x 3) a],.agg [.ob (.x 3) b]]=>some ⟨[.agg [.ob (.x 3) (sMul a b)]],[],none⟩
 |_=>none
theorem scmul_sound:CSound 92 (cfA gScMul):=cfS_sound TYDok OPZ4 Tryz.func92 (by kernel_rfl) rfl (rs:= [.cell 4 140]) Tryz.results92 fun l g h hp ho=>by
 unfold gScMul at h
 split at h
 ·rename_i a b
  cases h
  exact ⟨Nat.le_of_ble_eq_true rfl,rfl,⟨⟨Nat.mod_lt _ Lq_pos0,trivial⟩,trivial⟩,rfl,rfl,rfl,vcScMul a b (Nat.lt_trans ho.1.1 Lq_lt32) (Nat.lt_trans ho.2.1.1 Lq_lt32)⟩
 ·cases h
def sWide (l:List UInt8):Nat:=leN (fillL l 64)%Lq
def gScWide:GF:=fun l=>match l with
 | [.one (.ro .u8 l)]=>some ⟨[.agg [.ob (.x 3) (sWide l)]],[],none⟩
 |_=>none
theorem scwide_sound:CSound 85 (cfA gScWide):=cfS_sound TYDok OPZ4 Tryz.func85 (by kernel_rfl) rfl (rs:= [.cell 2 140]) Tryz.results85 fun l g h hp ho=>by
 unfold gScWide at h
 split at h
 ·cases h
  exact ⟨Nat.le_of_ble_eq_true rfl,rfl,⟨⟨Nat.mod_lt _ Lq_pos0,trivial⟩,trivial⟩,rfl,rfl,rfl,vcWide _⟩
 ·cases h
theorem vcScBytesR (x:Nat):vc TYD (ctOf LS4) Tryz.f93.ntmps (bodyOf Tryz.f93) ⟨mkSl 0 [.agg [.vec .u8 32 (scL x)]],[],2000⟩ (retR TYD Tryz.f93.ntmps [.tmp 2] [.one (.rw 0)] [(0,.row 5 .u8 (leB 32 x))]):=by
 refine sd (hp:=by show (scL x).length≤1000;rw [scL_len];omega) ?_
 refine ⟨?_,trivial⟩
 show leB 32 x=(scL x).reverse
 rw [scL_rev]
def gScBytes:GF:=fun l=>match l with
 | [.agg [.ob (.x 3) x]]=>some ⟨[.one (.rw 0)],[(0,.row 5 .u8 (leB 32 x))],none⟩
 |_=>none
theorem scbytes_sound:CSound 93 (cfA gScBytes):=cfS_sound TYDok OPZ4 Tryz.func93 (by kernel_rfl) rfl (rs:= [.tmp 2]) Tryz.results93 fun l g h hp ho=>by
 unfold gScBytes at h
 split at h
 ·cases h
  exact ⟨Nat.le_of_ble_eq_true rfl,rfl,⟨trivial,trivial⟩,rfl,rfl,rfl,vcScBytesR _⟩
 ·cases h
def sBit (x:Nat) (k:Int):Int:=if 0≤k∧k≤255 then ((x/2^k.toNat%2:Nat):Int) else 0
theorem vcScBitR (x:Nat) (k:Int):vc TYD (ctOf LS4) Tryz.f147.ntmps (bodyOf Tryz.f147) ⟨mkSl 0 [.agg [.vec .u8 32 (scL x)],.one (.ob .int k)],[],2000⟩ (retR TYD Tryz.f147.ntmps [.tmp 4] [.one (.ob .int (sBit x k))] []):=by
 refine ⟨fun h0=> ?_,fun h0=> ?_⟩
 ·have h1:=of_decide_eq_true h0
  refine ⟨h0,?_,trivial⟩
  show [if 0≤k∧k≤255 then ((x/2^k.toNat%2:Nat):Int) else 0]= [0]
  rw [if_neg (by omega)]
 ·have h1:=of_decide_eq_false h0
  refine ⟨h0,fun h2=> ?_,fun h2=> ?_⟩
  ·have h2:=of_decide_eq_true h2
   refine ⟨?_,trivial⟩
   show [if 0≤k∧k≤255 then ((x/2^k.toNat%2:Nat):Int) else 0]= [0]
   rw [if_neg (by omega)]
  ·have h2:=of_decide_eq_false h2
   repeat refine sd ?_
   refine ⟨?_,trivial⟩
   obtain ⟨n,rfl⟩:∃n:Nat,k=n:=⟨k.toNat,by omega⟩
   show [if 0≤(n:Int)∧(n:Int)≤255 then ((x/2^(n:Int).toNat%2:Nat):Int) else 0]= [((r8 ((scL x).getD (31-(n:Int)/8).toNat (Kd.df .u8)) ((n:Int)%8).toNat&&&UInt8.ofNat 1).toNat:Int)]
   have hd:=dB_lt x (n/8)
   have hm:dB x (n/8)/2^(n%8)%2<2:=Nat.mod_lt _ (by omega)
   rw [if_pos (by omega),show (31-(n:Int)/8).toNat=31-n/8 by omega,show ((n:Int)%8).toNat=n%8 by omega,show (scL x).getD (31-n/8) (Kd.df .u8)=UInt8.ofNat (dB x (n/8)) from (bb_get _ (by omega)).trans (by rw [bR,show 32-1-(31-n/8)=n/8 by omega]),b_bit hd,b_nat (by omega),b_digit x n (by omega)]
   rfl
def gScBit:GF:=fun l=>match l with
 | [.agg [.ob (.x 3) x],.one (.ob .int k)]=>some ⟨[.one (.ob .int (sBit x k))],[],none⟩
 |_=>none
theorem scbit_sound:CSound 147 (cfA gScBit):=cfS_sound TYDok OPZ4 Tryz.func147 (by kernel_rfl) rfl (rs:= [.tmp 4]) Tryz.results147 fun l g h hp ho=>by
 unfold gScBit at h
 split at h
 ·cases h
  exact ⟨Nat.le_of_ble_eq_true rfl,rfl,⟨trivial,trivial⟩,rfl,rfl,rfl,vcScBitR _ _⟩
 ·cases h
instance decEP:DecidableEq EP:=fun P Q=>decidable_of_iff (P.x=Q.x∧P.y=Q.y) ⟨fun h=>Cp.ext' h.1 h.2,fun h=>by subst h;exact ⟨rfl,rfl⟩⟩
theorem mulb_mod (n:Nat):Cp.mul (n%Lq) base=Cp.mul n base:=(Cp.mul_mod base_L n).symm
theorem mulb_inj {m n:Nat} (h:Cp.mul m base=Cp.mul n base):m%Lq=n%Lq:=by
 have h1:Cp.mul (m+(Lq-n%Lq)) base=Cp.mul (n+(Lq-n%Lq)) base:=by rw [Cp.mul_add,h,←Cp.mul_add]
 have h2:Cp.mul (n+(Lq-n%Lq)) base=Cp.zero:=by
  rw [←mulb_mod]
  have:(n+(Lq-n%Lq))%Lq=0:=by unfold Lq;omega
  rw [this];rfl
 rw [h2] at h1
 have h3:=base_nil h1
 have h4:=Nat.mod_eq_zero_of_dvd h3
 unfold Lq at*
 omega
theorem mulb_sum (a b:Nat):(Cp.mul a base).add (Cp.mul b base)=Cp.mul (sAdd a b) base:=by
 rw [←Cp.mul_add,sAdd,mulb_mod]
theorem mulb_prod (a b:Nat):Cp.mul b (Cp.mul a base)=Cp.mul (sMul b a) base:=by
 rw [Cp.mul_mul,sMul,mulb_mod]
theorem mulb_zero {s:Nat} (hs:s<Lq):Cp.mul s base=Cp.zero↔s=0:=by
 constructor
 ·intro h
  have h1:=mulb_inj (m:=s) (n:=0) h
  rw [Nat.mod_eq_of_lt hs,Nat.zero_mod] at h1
  exact h1
 ·rintro rfl;rfl
theorem nd_8:¬Lq∣8:=fun h=>by have:=Nat.le_of_dvd (by omega) h;unfold Lq at this;omega
theorem mulb_small {s:Nat} {P:EP} (hP:Cp.mul s base=P):Cp.mul 8 P=Cp.zero↔P=Cp.zero:=by
 subst hP
 constructor
 ·intro h
  rw [Cp.mul_mul] at h
  have h1:=base_nil h
  rcases prL.mul h1 with h2|h2
  ·exact absurd h2 nd_8
  ·obtain ⟨k,rfl⟩:=h2
   rw [Nat.mul_comm,←Cp.mul_mul,base_L,Cp.mul_zero]
 ·intro h;rw [h,Cp.mul_zero]
theorem base_enc:encP base=88::List.replicate 31 102:=by decide +kernel
theorem mul_digit (P:EP) (n k:Nat):Cp.mul (n/2^k) P=if n/2^k%2=1 then ((Cp.mul (n/2^(k+1)) P).add (Cp.mul (n/2^(k+1)) P)).add P else (Cp.mul (n/2^(k+1)) P).add (Cp.mul (n/2^(k+1)) P):=by
 rw [←Cp.mul_add]
 have h:n/2^(k+1)=n/2^k/2:=by rw [Nat.pow_succ,←Nat.div_div_eq_div_mul]
 rw [h]
 generalize n/2^k=m
 split
 ·rename_i h1
  have e:m=m/2+m/2+1:=by omega
  conv=>lhs;rw [e]
  rfl
 ·rename_i h1
  have e:m=m/2+m/2:=by omega
  conv=>lhs;rw [e]
theorem hi_bit {x:Nat} (hx:x<Pq):(leB 32 x).set 31 ((leB 32 x).getD 31 0|||128)=leB 32 (x+57896044618658097711785492504343953926634992332820282019728792003956564819968):=by
 have h31:(leB 32 x).getD 31 0=UInt8.ofNat (x/2^248):=by
  simp [leB]
 have hd:x/2^248<128:=by unfold Pq at hx;simp only [Nat.reducePow];omega
 apply List.ext_getElem
 ·simp [leB_len]
 ·intro i h1 h2
  have hi:i<32:=by simpa [leB_len] using h2
  rw [leB_get,List.getElem_set]
  by_cases h:31=i
  ·subst h
   rw [if_pos rfl,h31]
   apply UInt8.toNat_inj.1
   have e1:(x+57896044618658097711785492504343953926634992332820282019728792003956564819968)/2^(8*31)=x/2^248+128:=by simp only [Nat.reduceMul,Nat.reducePow];omega
   rw [e1]
   generalize x/2^248=y at*
   have h4:=Nat.shiftLeft_add_eq_or_of_lt (show y<2^7 by omega) 1
   rw [show (1:Nat)<<<7=128 from rfl] at h4
   simp
   rw [Nat.mod_eq_of_lt (show y<256 by omega),Nat.mod_eq_of_lt (show y+128<256 by omega),Nat.or_comm]
   omega
  ·rw [if_neg h,leB_get,←ofNat_mod,←ofNat_mod (_/_)]
   congr 1
   have hi':i<31:=by omega
   have:i=0∨i=1∨i=2∨i=3∨i=4∨i=5∨i=6∨i=7∨i=8∨i=9∨i=10∨i=11∨i=12∨i=13∨i=14∨i=15∨i=16∨i=17∨i=18∨i=19∨i=20∨i=21∨i=22∨i=23∨i=24∨i=25∨i=26∨i=27∨i=28∨i=29∨i=30:=by omega
   rcases this with rfl|rfl|rfl|rfl|rfl|rfl|rfl|rfl|rfl|rfl|rfl|rfl|rfl|rfl|rfl|rfl|rfl|rfl|rfl|rfl|rfl|rfl|rfl|rfl|rfl|rfl|rfl|rfl|rfl|rfl|rfl<;>simp only [Nat.reduceMul,Nat.reducePow]<;>omega
theorem T255:2^255=57896044618658097711785492504343953926634992332820282019728792003956564819968:=by decide +kernel
theorem enc_odd {P:EP} (h:P.x.val%2=1):(leB 32 P.y.val).set 31 ((leB 32 P.y.val).getD 31 0|||128)=encP P:=by
 rw [hi_bit P.y.isLt]
 unfold encP
 rw [h,Nat.mul_one,T255]
theorem enc_even {P:EP} (h:¬P.x.val%2=1):leB 32 P.y.val=encP P:=by
 unfold encP
 rw [show P.x.val%2=0 by omega,Nat.mul_zero,Nat.add_zero]
theorem clr_byte:∀c:Nat,c<256→(UInt8.ofNat c&&&127).toNat=c%128:=by decide +kernel
def clr (b:List UInt8):List UInt8:=b.set 31 (b.getD 31 0&&&127)
theorem clr_len (b:List UInt8):(clr b).length=b.length:=by simp [clr]
theorem leN_last {b:List UInt8} (h:b.length=32):leN b=leN (b.take 31)+256^31*(b.getD 31 0).toNat:=by
 have e:=leN_take b 31 (by omega)
 rw [List.take_of_length_le (by omega)] at e
 rw [e,Nat.mul_comm]
 congr 3
 rw [List.getD_eq_getElem?_getD,List.getElem?_eq_getElem (by omega)]
 rfl
theorem p31:(256:Nat)^31*128=2^255:=by decide +kernel
theorem leN_clr {b:List UInt8} (h:b.length=32):leN (clr b)=lowN b:=by
 have e:=leN_last h
 have e2:=leN_last (b:=clr b) (by rw [clr_len,h])
 have e3:(clr b).take 31=b.take 31:=by unfold clr;rw [List.take_set_of_le (by omega)]
 have e4:(clr b).getD 31 0=b.getD 31 0&&&127:=by unfold clr;rw [List.getD_eq_getElem?_getD,List.getElem?_set_self (by omega)];rfl
 rw [e3,e4] at e2
 have h5:=clr_byte (b.getD 31 0).toNat (b.getD 31 0).toNat_lt
 rw [UInt8.ofNat_toNat] at h5
 rw [h5] at e2
 have h6:=leN_take_lt b 31
 unfold lowN
 rw [e2,e,←p31]
 generalize (b.getD 31 0).toNat=c at*
 generalize leN (b.take 31)=r at*
 generalize 256^31=T at*
 clear e e2 e3 e4 h5
 have hc:=Nat.div_add_mod c 128
 have hm:c%128<128:=Nat.mod_lt _ (by omega)
 generalize c/128=q at*
 generalize c%128=m at*
 subst hc
 have:r+T*(128*q+m)=(r+T*m)+T*128*q:=by rw [Nat.mul_add,Nat.mul_assoc];omega
 rw [this,Nat.add_mul_mod_self_left,Nat.mod_eq_of_lt]
 have:T*m≤T*127:=Nat.mul_le_mul_left _ (by omega)
 omega
theorem sgn_byte {b:List UInt8} (h:b.length=32):sgn b=((b.getD 31 0).toNat/128%2 ==1):=by
 have e:=leN_last h
 have h6:=leN_take_lt b 31
 unfold sgn
 rw [e,←p31,←Nat.div_div_eq_div_mul]
 generalize leN (b.take 31)=r at*
 generalize (b.getD 31 0).toNat=c at*
 have:(r+256^31*c)/256^31=c:=by rw [Nat.add_mul_div_left _ _ (Nat.pos_of_ne_zero (by decide +kernel)),Nat.div_eq_of_lt h6,Nat.zero_add]
 rw [this]
def decV (l:List UInt8):EP:=(decP l).getD Cp.zero
def decC (l:List UInt8):Int:=if (decP l).isSome then 0 else 12
theorem dec_len {b:List UInt8} (h:b.length≠32):decV b=Cp.zero∧decC b=12:=by
 have:decP b=none:=by unfold decP;rw [if_neg (fun k=>h k.1)]
 unfold decV decC;rw [this];exact ⟨rfl,rfl⟩
theorem dec_big {b:List UInt8} (h:¬lowN b<Pq):decV b=Cp.zero∧decC b=12:=by
 have:decP b=none:=by unfold decP;rw [if_neg (fun k=>h k.2)]
 unfold decV decC;rw [this];exact ⟨rfl,rfl⟩
theorem dec_root {b:List UInt8} {y:F} (h1:b.length=32) (h2:lowN b<Pq) (hy:fn (lowN b)=y) (hr:¬rootC (xx y)=0):decV b=Cp.zero∧decC b=12:=by
 subst hy
 have:decP b=none:=by unfold decP;rw [if_pos ⟨h1,h2⟩,dif_neg hr]
 unfold decV decC;rw [this];exact ⟨rfl,rfl⟩
theorem dec_sgn {b:List UInt8} {y:F} (h1:b.length=32) (h2:lowN b<Pq) (hy:fn (lowN b)=y) (hr:rootC (xx y)=0) (hs:sgn b=true) (hx:rootV (xx y)=0):decV b=Cp.zero∧decC b=12:=by
 subst hy
 have:decP b=none:=by unfold decP;rw [if_pos ⟨h1,h2⟩,dif_pos hr,if_pos ⟨hs,hx⟩]
 unfold decV decC;rw [this];exact ⟨rfl,rfl⟩
theorem dec_yes {b:List UInt8} {y:F} {o:Bool} (h1:b.length=32) (h2:lowN b<Pq) (hy:fn (lowN b)=y) (hr:rootC (xx y)=0) (hs:sgn b=o) (hx:¬(o=true∧rootV (xx y)=0)):
  decC b=0∧(decV b).x=(if o then -rootV (xx y) else rootV (xx y))∧(decV b).y=y:=by
 have:=decP_some h1 h2 hy hs hr hx
 unfold decV decC
 rw [this]
 exact ⟨rfl,rfl,rfl⟩
theorem dec_enc (P:EP):decV (encP P)=P∧decC (encP P)=0:=by
 unfold decV decC
 rw [decP_enc]
 exact ⟨rfl,rfl⟩
def qA (seed:List UInt8):Nat:=sWide (clampL ((sha512 seed).take 32))
def qP (seed:List UInt8):List UInt8:=(sha512 seed).drop 32
def qPub (seed:List UInt8):List UInt8:=encP (Cp.mul (qA seed) base)
def qR (p l:List UInt8):List UInt8:=encP (Cp.mul (sWide (sha512 (p++l))) base)
def qS (s:Nat) (p q l:List UInt8):Nat:=sAdd (sWide (sha512 (p++l))) (sMul (sWide (sha512 (qR p l++(q++l)))) s)
def qSign (seed l:List UInt8):List UInt8:=qR (qP seed) l++leB 32 (qS (qA seed) (qP seed) (qPub seed) l)
theorem qPub_len (seed:List UInt8):(qPub seed).length=32:=encP_len _
theorem qR_len (p l:List UInt8):(qR p l).length=32:=encP_len _
theorem qSign_len (seed l:List UInt8):(qSign seed l).length=64:=by unfold qSign;rw [List.length_append,qR_len,leB_len]
theorem sWide_lt (l:List UInt8):sWide l<Lq:=Nat.mod_lt _ Lq_pos0
theorem qS_lt (s:Nat) (p q l:List UInt8):qS s p q l<Lq:=Nat.mod_lt _ Lq_pos0
def verC (pub sig l:List UInt8):Int:=
 if decC pub=0 then
  if Cp.mul 8 (decV pub)=Cp.zero then 12
  else if sig.length=64 then
   if decC (sig.take 32)=0 then
    if leN (sig.drop 32)<Lq then
     if Cp.mul (leN (sig.drop 32)) base=Cp.add (decV (sig.take 32)) (Cp.mul (sWide (sha512 (sig.take 32++(pub++l)))) (decV pub)) then 0 else 3
    else 3
   else 3
  else 3
 else 12
theorem clamp8:∀c:Nat,c<256→(UInt8.ofNat c&&&248).toNat%8=0:=by decide +kernel
theorem clamp64:∀c:Nat,c<256→64≤(UInt8.ofNat c&&&127|||64).toNat∧(UInt8.ofNat c&&&127|||64).toNat<128:=by decide +kernel
theorem clamp_lo (l:List UInt8):leN (clampL l)%8=0∧0<leN (clampL l)∧leN (clampL l)<2^255:=by
 have hlen:=clampL_len l
 have h8:leN (clampL l)%8=0:=by
  obtain ⟨c,r,hcr⟩:∃c r,fillL l 32=c::r:=by
   cases h:fillL l 32 with
   |nil=>have:=fillL_len l 32;rw [h] at this;simp at this
   |cons c r=>exact ⟨c,r,rfl⟩
  unfold clampL
  rw [hcr]
  simp only [List.set_cons_zero,List.set_cons_succ,List.getD_cons_zero,leN]
  have:=clamp8 c.toNat c.toNat_lt
  rw [UInt8.ofNat_toNat] at this
  omega
 have e:=leN_take (clampL l) 31 (by omega)
 rw [List.take_of_length_le (by omega)] at e
 have hlt:=leN_take_lt (clampL l) 31
 have h31:64≤((clampL l)[31]'(by omega)).toNat∧((clampL l)[31]'(by omega)).toNat<128:=by
  have h:=clamp64 ((fillL l 32).getD 31 0).toNat (UInt8.toNat_lt _)
  rw [UInt8.ofNat_toNat] at h
  have e31:(clampL l)[31]'(by omega)=((fillL l 32).getD 31 0&&&127)|||64:=by
   unfold clampL
   rw [List.getElem_set_self,show ((fillL l 32).set 0 ((fillL l 32).getD 0 0&&&248)).getD 31 0=(fillL l 32).getD 31 0 by simp [List.getD_eq_getElem?_getD,List.getElem?_set]]
  rw [e31];exact h
 generalize leN (clampL l)=k at*
 generalize ((clampL l)[31]'(by omega)).toNat=c at*
 generalize leN ((clampL l).take 31)=r at*
 have p:(256:Nat)^31=452312848583266388373324160190187140051835877600158453279131187530910662656:=by decide +kernel
 rw [p] at e hlt
 have p2:(2:Nat)^255=57896044618658097711785492504343953926634992332820282019728792003956564819968:=by decide +kernel
 rw [p2]
 omega
theorem qA_lt (seed:List UInt8):qA seed<Lq:=sWide_lt _
theorem sWide_32 {l:List UInt8} (h:l.length=32):sWide l=leN l%Lq:=by
 rw [sWide,fillL,List.take_of_length_le (by omega),leN_pad]
theorem qA_ne (seed:List UInt8):qA seed≠0:=by
 intro h0
 unfold qA at h0
 rw [sWide_32 (clampL_len _)] at h0
 obtain ⟨h1,h2,h3⟩:=clamp_lo ((sha512 seed).take 32)
 generalize leN (clampL ((sha512 seed).take 32))=k at*
 obtain ⟨j,rfl⟩:∃j,k=8*j:=⟨k/8,by omega⟩
 rcases prL.mul (Nat.dvd_of_mod_eq_zero h0) with h4|h4
 ·exact absurd h4 nd_8
 ·have h5:=Nat.le_of_dvd (by omega) h4
  have p2:(2:Nat)^255=57896044618658097711785492504343953926634992332820282019728792003956564819968:=by decide +kernel
  rw [p2] at h3
  unfold Lq at h5
  omega
theorem pub_big (seed:List UInt8):¬Cp.mul 8 (Cp.mul (qA seed) base)=Cp.zero:=by
 intro h
 exact qA_ne seed ((mulb_zero (qA_lt seed)).1 ((mulb_small rfl).1 h))
theorem ver_sign (seed l:List UInt8):verC (qPub seed) (qSign seed l) l=0:=by
 unfold verC
 obtain ⟨h1,h2⟩:decV (qPub seed)=Cp.mul (qA seed) base∧decC (qPub seed)=0:=dec_enc _
 obtain ⟨h3,h4⟩:decV (qR (qP seed) l)=Cp.mul (sWide (sha512 (qP seed++l))) base∧decC (qR (qP seed) l)=0:=dec_enc _
 have e1:(qSign seed l).take 32=qR (qP seed) l:=List.take_left' (qR_len _ _)
 have e2:(qSign seed l).drop 32=leB 32 (qS (qA seed) (qP seed) (qPub seed) l):=List.drop_left' (qR_len _ _)
 have hs:=qS_lt (qA seed) (qP seed) (qPub seed) l
 have e3:leN ((qSign seed l).drop 32)=qS (qA seed) (qP seed) (qPub seed) l:=by
  rw [e2,leN_leB]
  exact Nat.mod_eq_of_lt (Nat.lt_trans hs (by decide +kernel))
 rw [if_pos h2,h1,if_neg (pub_big seed),if_pos (qSign_len seed l),e1,if_pos h4,e3,if_pos hs,if_pos]
 rw [h3,mulb_prod,mulb_sum]
 rfl
set_option maxRecDepth 10000
theorem strict_iff (b:List UInt8):leB 32 (ofB b).val=b↔b.length=32∧leN b<Pq:=by
 constructor
 ·intro h
  have h1:=congrArg List.length h
  rw [leB_len] at h1
  refine ⟨h1.symm,?_⟩
  have h2:=congrArg leN h
  rw [leN_leB,Nat.mod_eq_of_lt (Nat.lt_trans (ofB b).isLt (by decide +kernel))] at h2
  rw [←h2]
  exact (ofB b).isLt
 ·rintro ⟨h1,h2⟩
  have e:(ofB b).val=leN b:=by
   show leN (b.take 32)%P2e255%Pq=leN b
   rw [List.take_of_length_le (by omega),Nat.mod_eq_of_lt (Nat.lt_trans h2 (by decide +kernel)),Nat.mod_eq_of_lt h2]
  rw [e,←h1,leB_leN]
theorem ofB_strict {b:List UInt8} (h:b.length=32∧leN b<Pq):ofB b=fn (leN b):=by
 show fn _=_
 rw [List.take_of_length_le (by omega),Nat.mod_eq_of_lt (Nat.lt_trans h.2 (by decide +kernel))]
def okB (b:List UInt8):Bool:=decide (b.length=32∧leN b<Pq)
def LF0:List (Nat×CF):=(52,cfA gBase)::(84,cfA gSum512)::(85,cfA gScWide)::(91,cfA gScAdd)::(92,cfA gScMul)::(93,cfA gScBytes)::(147,cfA gScBit)::L22
theorem LF0ok:∀p∈LF0,CSound p.1 p.2:=ctCons base_sound<|ctCons sum512_sound<|ctCons scwide_sound<|ctCons scadd_sound<|ctCons scmul_sound<|ctCons scbytes_sound<|ctCons scbit_sound L22ok
theorem OPX0:OpsOk TYF (ctOf LF0):=opsOk TYFok (ctOk LF0ok)
theorem odd_u {n:Nat} (h:n<65536):(UInt64.ofNat n&&&UInt64.ofNat 1=UInt64.ofNat 1)↔n%2=1:=by
 have e:(UInt64.ofNat n&&&UInt64.ofNat 1).toNat=n%2:=by
  rw [UInt64.toNat_and,u_nat (by omega),u_nat (by omega),show (1:Nat)=2^1-1 from rfl,Nat.and_two_pow_sub_one_eq_mod]
 constructor
 ·intro h;rw [←e,h];rfl
 ·intro h;exact UInt64.toNat_inj.1 (by rw [e,h];rfl)
theorem d16_odd (x:F):d16 x.val 0%2=x.val%2:=by
 unfold d16
 rw [Nat.pow_zero,Nat.div_one]
 omega
theorem odd_d16 (x:F):(UInt64.ofNat (d16 x.val 0)&&&UInt64.ofNat 1=UInt64.ofNat 1)↔x.val%2=1:=by
 rw [odd_u (d16_lt _ _),d16_odd]
theorem be_31:beL (pwL 31 251)=14474011154664524427946373126085988481658748083205070504932198000989141204987:=by decide +kernel
theorem be_15:beL (pwL 15 254)=exp8:=by decide +kernel
theorem two_turn:fpow (fn 2) (beL (pwL 31 251))=sqm1:=by
 rw [be_31]
 apply F.ext'
 rw [fpow_val,show (fn 2).val=2 from rfl,←powMod_spec Pq 256 2 14474011154664524427946373126085988481658748083205070504932198000989141204987 (by decide +kernel)]
 decide +kernel
def rt0 (x:F):F:=fpow x (beL (pwL (UInt8.ofNat 15) (UInt8.ofNat 254)))
def rt1 (x:F):F:=xMul (rt0 x) (fpow (fn (UInt64.ofNat 2).toNat) (beL (pwL (UInt8.ofNat 31) (UInt8.ofNat 251))))
theorem cand_rt (x:F):cand x=if xMul (rt0 x) (rt0 x)=x then rt0 x else rt1 x:=by
 have e0:rt0 x=fpow x exp8:=congrArg (fpow x) be_15
 have e1:rt1 x=fpow x exp8*sqm1:=by
  show rt0 x*fpow (fn 2) (beL (pwL 31 251))=_
  rw [e0,two_turn]
 rw [e0,e1]
 rfl
theorem neq_of {x y:F} (h:(!decide (x=y))=true):¬x=y:=fun he=>by rw [decide_eq_true he] at h;cases h
theorem eq_of {x y:F} (h:(!decide (x=y))=false):x=y:=by
 by_cases he:x=y
 ·exact he
 ·rw [decide_eq_false he] at h;cases h
theorem root_no {x r:F} (hc:cand x=r) (h:¬xMul r r=x):rootV x=0∧rootC x=7:=by
 unfold rootC rootV
 rw [hc]
 exact ⟨if_neg h,if_neg h⟩
theorem root_odd {x r:F} (hc:cand x=r) (h:xMul r r=x) (h2:UInt64.ofNat (d16 r.val 0)&&&UInt64.ofNat 1=UInt64.ofNat 1):rootV x=xNeg r∧rootC x=0:=by
 unfold rootC rootV
 rw [hc]
 exact ⟨(if_pos h).trans (if_pos ((odd_d16 r).1 h2)),if_pos h⟩
theorem root_even {x r:F} (hc:cand x=r) (h:xMul r r=x) (h2:¬UInt64.ofNat (d16 r.val 0)&&&UInt64.ofNat 1=UInt64.ofNat 1):rootV x=r∧rootC x=0:=by
 unfold rootC rootV
 rw [hc]
 exact ⟨(if_pos h).trans (if_neg fun h3=>h2 ((odd_d16 r).2 h3)),if_pos h⟩
theorem vcFRoot (x:F):vc TYF (ctOf LF0) Tryz.f156.ntmps (bodyOf Tryz.f156) ⟨mkSl 0 [.agg [.ob (.x 1) x]],[],2000⟩ (retR TYF Tryz.f156.ntmps [.cell 2 143,.tmp 3] [.agg [.ob (.x 1) (rootV x)],.one (.ob .int (rootC x))] []):=by
 have hc:=cand_rt x
 refine ⟨fun h=> ?_,fun h=> ?_⟩
 ·have h:¬xMul (rt0 x) (rt0 x)=x:=neq_of h
  rw [if_neg h] at hc
  refine ⟨fun h=> ?_,fun h=> ?_⟩
  ·obtain ⟨a1,a2⟩:=root_no hc (neq_of h)
   rw [a1,a2]
   exact ⟨⟨rfl,rfl⟩,rfl,trivial⟩
  ·have h:xMul (rt1 x) (rt1 x)=x:=eq_of h
   refine ⟨fun h2=> ?_,fun h2=> ?_⟩
   ·obtain ⟨a1,a2⟩:=root_odd hc h (of_decide_eq_true h2)
    rw [a1,a2]
    exact ⟨⟨rfl,rfl⟩,rfl,trivial⟩
   ·obtain ⟨a1,a2⟩:=root_even hc h (of_decide_eq_false h2)
    rw [a1,a2]
    exact ⟨⟨rfl,rfl⟩,rfl,trivial⟩
 ·have h:xMul (rt0 x) (rt0 x)=x:=eq_of h
  rw [if_pos h] at hc
  refine ⟨fun h=> ?_,fun h2=>⟨fun h2=> ?_,fun h2=> ?_⟩⟩
  ·exact absurd ‹xMul (rt0 x) (rt0 x)=x› (neq_of h)
  ·obtain ⟨a1,a2⟩:=root_odd hc h (of_decide_eq_true h2)
   rw [a1,a2]
   exact ⟨⟨rfl,rfl⟩,rfl,trivial⟩
  ·obtain ⟨a1,a2⟩:=root_even hc h (of_decide_eq_false h2)
   rw [a1,a2]
   exact ⟨⟨rfl,rfl⟩,rfl,trivial⟩
def gFRoot:GF:=fun l=>match l with
 | [.agg [.ob (.x 1) x]]=>some ⟨[.agg [.ob (.x 1) (rootV x)],.one (.ob .int (rootC x))],[],none⟩
 |_=>none
theorem froot_sound:CSound 156 (cfA gFRoot):=cfR_sound TYFok OPX0 Tryz.func156 (by kernel_rfl) rfl (rs:= [.cell 2 143,.tmp 3]) Tryz.results156 fun l g h hp=>by
 unfold gFRoot at h
 split at h
 ·cases h;exact ⟨Nat.le_of_ble_eq_true rfl,rfl,rfl,rfl,vcFRoot _⟩
 ·cases h
def feS (b:List UInt8):F:=if okB b then fn (leN b) else 0
def feC (b:List UInt8):Int:=if okB b then 0 else 2
theorem okB_no {b:List UInt8} (h:¬(b.length=32∧leN b<Pq)):feS b=0∧feC b=2:=by
 have e:okB b=false:=decide_eq_false h
 unfold feS feC
 rw [e]
 exact ⟨rfl,rfl⟩
theorem okB_yes {b:List UInt8} (h:b.length=32∧leN b<Pq):feS b=ofB b∧feC b=0:=by
 have e:okB b=true:=decide_eq_true h
 unfold feS feC
 rw [e,ofB_strict h]
 exact ⟨rfl,rfl⟩
theorem hi31 {b:List UInt8} (h:b.length=32) (h2:UInt8.ofNat 127<b.getD 31 0):¬leN b<Pq:=by
 have e:=leN_last h
 have h2:127<(b.getD 31 0).toNat:=UInt8.lt_iff_toNat_lt.1 h2
 have p:=p31
 have q:=P255
 rw [←p] at q
 intro hlt
 rw [e] at hlt
 generalize (b.getD 31 0).toNat=c at h2 hlt
 generalize leN (b.take 31)=r at hlt
 have:256^31*128≤256^31*c:=Nat.mul_le_mul_left _ h2
 omega
theorem vcFStrict (b:List UInt8):vc TYF (ctOf LF0) Tryz.f155.ntmps (bodyOf Tryz.f155) ⟨mkSl 0 [.one (.ro .u8 b)],[],2000⟩ (retR TYF Tryz.f155.ntmps [.cell 2 143,.tmp 3] [.agg [.ob (.x 1) (feS b)],.one (.ob .int (feC b))] []):=by
 refine ⟨fun h=> ?_,fun h=> ?_⟩
 ·have h1:=of_decide_eq_true h
  obtain ⟨a1,a2⟩:=okB_no (b:=b) fun k=>by omega
  rw [a1,a2]
  exact ⟨h,fun _=>⟨⟨rfl,rfl⟩,rfl,trivial⟩⟩
 ·have h1:b.length=32:=by have:=of_decide_eq_false h;omega
  refine ⟨fun h2=> ?_,fun h2=> ?_⟩
  ·obtain ⟨a1,a2⟩:=okB_no (b:=b) fun k=>hi31 h1 (of_decide_eq_true h2) k.2
   rw [a1,a2]
   refine ⟨h,h2,by show (31:Nat)<b.length;omega,fun _=>⟨⟨rfl,rfl⟩,rfl,trivial⟩⟩
  ·refine ⟨h,h2,by show (31:Nat)<b.length;omega,fun _=>⟨fun h3=> ?_,fun h3=> ?_⟩⟩
   ·obtain ⟨a1,a2⟩:=okB_no (b:=b) fun k=>by
     rw [bs_eqT,decide_eq_true ((strict_iff b).2 k)] at h3
     cases h3
    rw [a1,a2]
    exact ⟨⟨rfl,rfl⟩,rfl,trivial⟩
   ·have h3:leB 32 (ofB b).val=b:=by
     rw [bs_eqT] at h3
     exact of_decide_eq_true (by simpa using h3)
    obtain ⟨a1,a2⟩:=okB_yes ((strict_iff b).1 h3)
    rw [a1,a2]
    exact ⟨⟨rfl,rfl⟩,rfl,trivial⟩
def gFStrict:GF:=fun l=>match l with
 | [.one (.ro .u8 b)]=>some ⟨[.agg [.ob (.x 1) (feS b)],.one (.ob .int (feC b))],[],none⟩
 |_=>none
theorem fstrict_sound:CSound 155 (cfA gFStrict):=cfR_sound TYFok OPX0 Tryz.func155 (by kernel_rfl) rfl (rs:= [.cell 2 143,.tmp 3]) Tryz.results155 fun l g h hp=>by
 unfold gFStrict at h
 split at h
 ·cases h;exact ⟨Nat.le_of_ble_eq_true rfl,rfl,rfl,rfl,vcFStrict _⟩
 ·cases h
set_option maxRecDepth 10000
structure Q3 where
 x:F
 y:F
 z:F
def zero3:Q3:=⟨0,fn 1,fn 1⟩
def add3 (d:F) (a b:Q3):Q3:=
 let z:=xMul a.z b.z
 let zz:=xMul z z
 let x:=xMul a.x b.x
 let y:=xMul a.y b.y
 let e:=xMul d (xMul x y)
 let f:=xSub zz e
 let g:=xAdd zz e
 let h:=xAdd (xMul a.x b.y) (xMul b.x a.y)
 ⟨xMul (xMul z f) h,xMul (xMul z g) (xAdd y x),xMul f g⟩
def mul3 (d:F) (a:Q3) (n:Nat):Nat→Q3
 |0=>zero3
 |j+1=>if sBit n (255-(j:Int))=1 then add3 d (add3 d (mul3 d a n j) (mul3 d a n j)) a else add3 d (mul3 d a n j) (mul3 d a n j)
@[reducible] def Q3.av (q:Q3):AV:= .agg [.ob (.x 1) q.x,.ob (.x 1) q.y,.ob (.x 1) q.z]
theorem vcCurve:vc TYF (ctOf LF0) Tryz.f144.ntmps (bodyOf Tryz.f144) ⟨mkSl 0 [],[],2000⟩ (retR TYF Tryz.f144.ntmps [.cell 0 143] [.agg [.ob (.x 1) dE]] []):=by
 refine ⟨⟨rfl,?_⟩,trivial⟩
 show [dE]= [xMul (xNeg (fn 121665)) (finv (fn 121666))]
 have h1:=dE_eq
 have h2:fn 121666*finv (fn 121666)=1:=finv_mul (by decide +kernel)
 have h3:(fn 121665+1:F)=fn 121666:=by decide +kernel
 rw [h3] at h1
 unfold xMul xNeg
 rw [←h1]
 generalize finv (fn 121666)=i at h2 ⊢
 generalize (fn 121666:F)=w at h2 ⊢
 generalize dE=d
 refine congrArg (fun z=> [z]) ?_
 grind
theorem vcZero3:vc TYF (ctOf LF0) Tryz.f145.ntmps (bodyOf Tryz.f145) ⟨mkSl 0 [],[],2000⟩ (retR TYF Tryz.f145.ntmps [.cell 0 145] [zero3.av] []):=⟨⟨rfl,rfl⟩,⟨rfl,rfl⟩,⟨rfl,rfl⟩,trivial⟩
theorem vcAdd3 (a b:Q3) (d:F):vc TYF (ctOf LF0) Tryz.f146.ntmps (bodyOf Tryz.f146) ⟨mkSl 0 [a.av,b.av,.agg [.ob (.x 1) d]],[],2000⟩ (retR TYF Tryz.f146.ntmps [.cell 6 145] [(add3 d a b).av] []):=⟨⟨rfl,rfl⟩,⟨rfl,rfl⟩,⟨rfl,rfl⟩,trivial⟩
def gCurve:GF:=fun l=>match l with
 | []=>some ⟨[.agg [.ob (.x 1) dE]],[],none⟩
 |_=>none
theorem curve_sound:CSound 144 (cfA gCurve):=cfR_sound TYFok OPX0 Tryz.func144 (by kernel_rfl) rfl (rs:= [.cell 0 143]) Tryz.results144 fun l g h hp=>by
 unfold gCurve at h
 split at h
 ·cases h;exact ⟨Nat.le_of_ble_eq_true rfl,rfl,rfl,rfl,vcCurve⟩
 ·cases h
def gZero3:GF:=fun l=>match l with
 | []=>some ⟨[zero3.av],[],none⟩
 |_=>none
theorem zero3_sound:CSound 145 (cfA gZero3):=cfR_sound TYFok OPX0 Tryz.func145 (by kernel_rfl) rfl (rs:= [.cell 0 145]) Tryz.results145 fun l g h hp=>by
 unfold gZero3 at h
 split at h
 ·cases h;exact ⟨Nat.le_of_ble_eq_true rfl,rfl,rfl,rfl,vcZero3⟩
 ·cases h
def gAdd3:GF:=fun l=>match l with
 | [.agg [.ob (.x 1) x,.ob (.x 1) y,.ob (.x 1) z],.agg [.ob (.x 1) u,.ob (.x 1) v,.ob (.x 1) w],.agg [.ob (.x 1) d]]=>some ⟨[(add3 d ⟨x,y,z⟩ ⟨u,v,w⟩).av],[],none⟩
 |_=>none
theorem add3_sound:CSound 146 (cfA gAdd3):=cfR_sound TYFok OPX0 Tryz.func146 (by kernel_rfl) rfl (rs:= [.cell 6 145]) Tryz.results146 fun l g h hp=>by
 unfold gAdd3 at h
 split at h
 ·cases h;exact ⟨Nat.le_of_ble_eq_true rfl,rfl,rfl,rfl,vcAdd3 ⟨_,_,_⟩ ⟨_,_,_⟩ _⟩
 ·cases h
def LF1:List (Nat×CF):=(144,cfA gCurve)::(145,cfA gZero3)::(146,cfA gAdd3)::LF0
theorem LF1ok:∀p∈LF1,CSound p.1 p.2:=ctCons curve_sound<|ctCons zero3_sound<|ctCons add3_sound LF0ok
theorem OPX1:OpsOk TYF (ctOf LF1):=opsOk TYFok (ctOk LF1ok)
theorem vcMul3 (a:Q3) (n:Nat):vc TYF (ctOf LF1) Tryz.f88.ntmps (bodyOf Tryz.f88) ⟨mkSl 0 [a.av,.agg [.ob (.x 3) n]],[],2000⟩ (retR TYF Tryz.f88.ntmps [.cell 4 145] [(mul3 dE a n 256).av] []):=by
 refine Or.inr ⟨{j:Nat // j≤256},fun j=>⟨[(7,.one (.ob .int (255-(j.val:Int))))],[(2112,.blk 145 [.ob (.x 1) (mul3 dE a n j.val).x,.ob (.x 1) (mul3 dE a n j.val).y,.ob (.x 1) (mul3 dE a n j.val).z])]⟩,fun j=>256-j.val,⟨0,by omega⟩,?_⟩
 refine ⟨rfl,⟨rfl,rfl⟩,⟨rfl,rfl⟩,⟨rfl,rfl⟩,fun j=>⟨fun h2=> ?_,fun h2=> ?_⟩⟩
 ·have h2:=of_decide_eq_true h2
  have hj:=j.2
  refine ⟨fun h3=> ?_,fun h3=> ?_⟩
  ·have h3:=of_decide_eq_true h3
   refine sd<|sj ⟨j.val+1,by omega⟩ ?_
   have e:mul3 dE a n (j.val+1)=add3 dE (add3 dE (mul3 dE a n j.val) (mul3 dE a n j.val)) a:=by rw [mul3,if_pos h3]
   exact sr (hp:=congrArg (fun z:Int=> [z]) (show (255:Int)-((j.val+1:Nat):Int)=255-(j.val:Int)-1 by omega)) ⟨⟨rfl,congrArg (fun q:Q3=> [q.x]) e⟩,⟨rfl,congrArg (fun q:Q3=> [q.y]) e⟩,⟨rfl,congrArg (fun q:Q3=> [q.z]) e⟩,trivial⟩
  ·have h3:=of_decide_eq_false h3
   refine sd<|sj ⟨j.val+1,by omega⟩ ?_
   have e:mul3 dE a n (j.val+1)=add3 dE (mul3 dE a n j.val) (mul3 dE a n j.val):=by rw [mul3,if_neg h3]
   exact sr (hp:=congrArg (fun z:Int=> [z]) (show (255:Int)-((j.val+1:Nat):Int)=255-(j.val:Int)-1 by omega)) ⟨⟨rfl,congrArg (fun q:Q3=> [q.x]) e⟩,⟨rfl,congrArg (fun q:Q3=> [q.y]) e⟩,⟨rfl,congrArg (fun q:Q3=> [q.z]) e⟩,trivial⟩
 ·have h2:=of_decide_eq_false h2
  have hj:=j.2
  rw [show j.val=256 by omega]
  exact ⟨⟨rfl,rfl⟩,⟨rfl,rfl⟩,⟨rfl,rfl⟩,trivial⟩
def gMul3:GF:=fun l=>match l with
 | [.agg [.ob (.x 1) x,.ob (.x 1) y,.ob (.x 1) z],.agg [.ob (.x 3) n]]=>some ⟨[(mul3 dE ⟨x,y,z⟩ n 256).av],[],none⟩
 |_=>none
theorem mul3_sound:CSound 88 (cfA gMul3):=cfR_sound TYFok OPX1 Tryz.func88 (by kernel_rfl) rfl (rs:= [.cell 4 145]) Tryz.results88 fun l g h hp=>by
 unfold gMul3 at h
 split at h
 ·cases h;exact ⟨Nat.le_of_ble_eq_true rfl,rfl,rfl,rfl,vcMul3 ⟨_,_,_⟩ _⟩
 ·cases h
def enc2 (x y:F):List UInt8:=if x.val%2=1 then (leB 32 y.val).set 31 ((leB 32 y.val).getD 31 0|||128) else leB 32 y.val
theorem enc_or (x y:F):enc2 x y=(leB 32 y.val).set 31 ((leB 32 y.val).getD 31 0|||s8 (UInt64.ofNat (d16 x.val 0)&&&UInt64.ofNat 1).toUInt8 7):=by
 have h:=d16_lt x.val 0
 have e:(UInt64.ofNat (d16 x.val 0)&&&UInt64.ofNat 1).toUInt8=UInt8.ofNat (x.val%2):=by
  refine UInt8.toNat_inj.1 ?_
  rw [UInt64.toNat_toUInt8,UInt64.toNat_and,u_nat (by omega),u_nat (by omega),show (1:Nat)=2^1-1 from rfl,Nat.and_two_pow_sub_one_eq_mod,UInt8.toNat_ofNat']
  have:=d16_odd x
  omega
 rw [e]
 unfold enc2
 split
 ·rename_i h1
  rw [h1]
  rfl
 ·rename_i h1
  rw [show x.val%2=0 by omega,show s8 (UInt8.ofNat 0) 7=0 from rfl,UInt8.or_zero]
  apply List.ext_getElem (by simp)
  intro i h2 h3
  rw [List.getElem_set]
  split
  ·rename_i h4
   subst h4
   rw [List.getD_eq_getElem?_getD,List.getElem?_eq_getElem h2]
   rfl
  ·rfl
theorem vcEnc3 (a:Q3):vc TYF (ctOf LF1) Tryz.f89.ntmps (bodyOf Tryz.f89) ⟨mkSl 0 [a.av],[],2000⟩ (retR TYF Tryz.f89.ntmps [.tmp 2] [.one (.rw 0)] [(0,.row 5 .u8 (enc2 (xMul a.x (finv a.z)) (xMul a.y (finv a.z))))]):=by
 have hl:31<(leB 32 (xMul a.y (finv a.z)).val).length:=by rw [leB_len];omega
 exact ⟨hl,hl,hl,hl,enc_or _ _,trivial⟩
def gEnc3:GF:=fun l=>match l with
 | [.agg [.ob (.x 1) x,.ob (.x 1) y,.ob (.x 1) z]]=>some ⟨[.one (.rw 0)],[(0,.row 5 .u8 (enc2 (xMul x (finv z)) (xMul y (finv z))))],none⟩
 |_=>none
theorem enc3_sound:CSound 89 (cfA gEnc3):=cfR_sound TYFok OPX1 Tryz.func89 (by kernel_rfl) rfl (rs:= [.tmp 2]) Tryz.results89 fun l g h hp=>by
 unfold gEnc3 at h
 split at h
 ·cases h;exact ⟨Nat.le_of_ble_eq_true rfl,rfl,rfl,rfl,vcEnc3 ⟨_,_,_⟩⟩
 ·cases h
def LF2:List (Nat×CF):=(155,cfA gFStrict)::(156,cfA gFRoot)::LF1
theorem LF2ok:∀p∈LF2,CSound p.1 p.2:=ctCons fstrict_sound<|ctCons froot_sound LF1ok
theorem OPX2:OpsOk TYF (ctOf LF2):=opsOk TYFok (ctOk LF2ok)
def dec3 (b:List UInt8):Q3:=⟨(decV b).x,(decV b).y,fn 1⟩
def TYQ0:Nat→TE:=tyOf [(3,⟨.k .int,1,[.ob .int (Kd.df .int)]⟩),(4,⟨.k .bool,1,[.ob .bool (Kd.df .bool)]⟩),(5,⟨.k .u8,1,[.ob .u8 (Kd.df .u8)]⟩),(9,⟨.k .str,1,[.ob .str (Kd.df .str)]⟩),(23,⟨.ptr,1,[.cv (.pointer none)]⟩),(25,⟨.sl 3,1,[.cv (.slice none 0 0)]⟩),(27,⟨.st [(0,3),(1,9),(2,3),(3,3),(4,25),(5,3)],6,[.ob .int (Kd.df .int),.ob .str (Kd.df .str),.ob .int (Kd.df .int),.ob .int (Kd.df .int),.cv (.slice none 0 0),.ob .int (Kd.df .int)]⟩),(28,⟨.k .int,1,[.ob .int (Kd.df .int)]⟩),(30,⟨.sl 5,1,[.cv (.slice none 0 0)]⟩),(32,⟨.st [(0,30),(1,30),(2,30),(3,30),(4,3),(5,30),(6,3),(7,30),(8,30),(9,4),(10,3)],11,[.cv (.slice none 0 0),.cv (.slice none 0 0),.cv (.slice none 0 0),.cv (.slice none 0 0),.ob .int (Kd.df .int),.cv (.slice none 0 0),.ob .int (Kd.df .int),.cv (.slice none 0 0),.cv (.slice none 0 0),.ob .bool (Kd.df .bool),.ob .int (Kd.df .int)]⟩),(44,⟨.ptr,1,[.cv (.pointer none)]⟩),(45,⟨.sl 84,1,[.cv (.slice none 0 0)]⟩),(47,⟨.st [(0,45)],1,[.cv (.slice none 0 0)]⟩),(49,⟨.sl 32,1,[.cv (.slice none 0 0)]⟩),(64,⟨.ptr,1,[.cv (.pointer none)]⟩),(72,⟨.ptr,1,[.cv (.pointer none)]⟩),(84,⟨.st [(0,9),(1,32),(12,49),(13,25),(14,25)],15,[.ob .str (Kd.df .str),.cv (.slice none 0 0),.cv (.slice none 0 0),.cv (.slice none 0 0),.cv (.slice none 0 0),.ob .int (Kd.df .int),.cv (.slice none 0 0),.ob .int (Kd.df .int),.cv (.slice none 0 0),.cv (.slice none 0 0),.ob .bool (Kd.df .bool),.ob .int (Kd.df .int),.cv (.slice none 0 0),.cv (.slice none 0 0),.cv (.slice none 0 0)]⟩),(91,⟨.sl 30,1,[.cv (.slice none 0 0)]⟩),(94,⟨.ptr,1,[.cv (.pointer none)]⟩),(95,⟨.sl 94,1,[.cv (.slice none 0 0)]⟩),(99,⟨.st [(0,30),(1,3),(2,25),(3,25)],4,[.cv (.slice none 0 0),.ob .int (Kd.df .int),.cv (.slice none 0 0),.cv (.slice none 0 0)]⟩),(111,⟨.k .u64,1,[.ob .u64 (Kd.df .u64)]⟩),(112,⟨.arr 5 111,5,[.vec .u64 5 (List.replicate 5 (Kd.df .u64))]⟩),(114,⟨.st [(0,112)],5,[.vec .u64 5 (List.replicate 5 (Kd.df .u64))]⟩),(116,⟨.st [(0,114),(5,114),(10,114),(15,114)],20,[.vec .u64 5 (List.replicate 5 (Kd.df .u64)),.vec .u64 5 (List.replicate 5 (Kd.df .u64)),.vec .u64 5 (List.replicate 5 (Kd.df .u64)),.vec .u64 5 (List.replicate 5 (Kd.df .u64))]⟩),(119,⟨.arr 4 111,4,[.vec .u64 4 (List.replicate 4 (Kd.df .u64))]⟩),(121,⟨.st [(0,119)],4,[.vec .u64 4 (List.replicate 4 (Kd.df .u64))]⟩),(131,⟨.k .u32,1,[.ob .u32 (Kd.df .u32)]⟩),(133,⟨.k .u16,1,[.ob .u16 (Kd.df .u16)]⟩),(134,⟨.arr 256 133,256,[.vec .u16 256 (List.replicate 256 (Kd.df .u16))]⟩),(135,⟨.arr 256 133,256,[.vec .u16 256 (List.replicate 256 (Kd.df .u16))]⟩),(136,⟨.arr 3 135,768,[.vec .u16 768 (List.replicate 768 (Kd.df .u16))]⟩),(137,⟨.arr 3 135,768,[.vec .u16 768 (List.replicate 768 (Kd.df .u16))]⟩),(139,⟨.arr 32 5,32,[.vec .u8 32 (List.replicate 32 (Kd.df .u8))]⟩),(165,⟨.k .u64,1,[.ob .u64 (Kd.df .u64)]⟩),(186,⟨.arr 80 111,80,[.vec .u64 80 (List.replicate 80 (Kd.df .u64))]⟩),(188,⟨.arr 8 111,8,[.vec .u64 8 (List.replicate 8 (Kd.df .u64))]⟩)]
theorem TYQ0ok:TysOk TYQ0:=tysOk fun p hp=>by
 rcases List.mem_cons.1 hp with rfl|hp
 ·exact ty_k (k:= .int) rfl rfl rfl (by kernel_rfl) Tryz.underlying3 (bytes:=8) (by decide)
 rcases List.mem_cons.1 hp with rfl|hp
 ·exact ty_k (k:= .bool) rfl rfl rfl (by kernel_rfl) Tryz.underlying4 (bytes:=1) (by decide)
 rcases List.mem_cons.1 hp with rfl|hp
 ·exact ty_k (k:= .u8) rfl rfl rfl (by kernel_rfl) Tryz.underlying5 (bytes:=1) (by decide)
 rcases List.mem_cons.1 hp with rfl|hp
 ·exact ty_k (k:= .str) rfl rfl rfl (by kernel_rfl) Tryz.underlying9 (bytes:=16) (by decide)
 rcases List.mem_cons.1 hp with rfl|hp
 ·exact ty_ptr (by kernel_rfl) Tryz.underlying23 (bytes:=8) (by decide)
 rcases List.mem_cons.1 hp with rfl|hp
 ·exact ty_sl (by kernel_rfl) Tryz.underlying25 (bytes:=24) (by decide)
 rcases List.mem_cons.1 hp with rfl|hp
 ·exact tyZ (cells:= [.int .i64 0]++([.string ByteArray.empty]++([.int .i64 0]++([.int .i64 0]++([.slice none 0 0]++([.int .i64 0]++([]:List Value))))))) (bytes:=72) (by kernel_rfl) Tryz.underlying27 ⟨_,rfl,rfl⟩ (fun η A w=>⟨[.int .i64 0],_,rfl,rfl,⟨[.string ByteArray.empty],_,rfl,rfl,⟨[.int .i64 0],_,rfl,rfl,⟨[.int .i64 0],_,rfl,rfl,⟨[.slice none 0 0],_,rfl,⟨rfl,rfl⟩,⟨[.int .i64 0],_,rfl,rfl,rfl⟩⟩⟩⟩⟩⟩) rfl (fun k h=>by cases h) rfl (by decide)
 rcases List.mem_cons.1 hp with rfl|hp
 ·exact ty_k (k:= .int) rfl rfl rfl (by kernel_rfl) Tryz.underlying28 (bytes:=8) (by decide)
 rcases List.mem_cons.1 hp with rfl|hp
 ·exact ty_sl (by kernel_rfl) Tryz.underlying30 (bytes:=24) (by decide)
 rcases List.mem_cons.1 hp with rfl|hp
 ·exact tyZ (cells:= [.slice none 0 0]++([.slice none 0 0]++([.slice none 0 0]++([.slice none 0 0]++([.int .i64 0]++([.slice none 0 0]++([.int .i64 0]++([.slice none 0 0]++([.slice none 0 0]++([.bool false]++([.int .i64 0]++([]:List Value)))))))))))) (bytes:=200) (by kernel_rfl) Tryz.underlying32 ⟨_,rfl,rfl⟩ (fun η A w=>⟨[.slice none 0 0],_,rfl,⟨rfl,rfl⟩,⟨[.slice none 0 0],_,rfl,⟨rfl,rfl⟩,⟨[.slice none 0 0],_,rfl,⟨rfl,rfl⟩,⟨[.slice none 0 0],_,rfl,⟨rfl,rfl⟩,⟨[.int .i64 0],_,rfl,rfl,⟨[.slice none 0 0],_,rfl,⟨rfl,rfl⟩,⟨[.int .i64 0],_,rfl,rfl,⟨[.slice none 0 0],_,rfl,⟨rfl,rfl⟩,⟨[.slice none 0 0],_,rfl,⟨rfl,rfl⟩,⟨[.bool false],_,rfl,rfl,⟨[.int .i64 0],_,rfl,rfl,rfl⟩⟩⟩⟩⟩⟩⟩⟩⟩⟩⟩) rfl (fun k h=>by cases h) rfl (by decide)
 rcases List.mem_cons.1 hp with rfl|hp
 ·exact ty_ptr (by kernel_rfl) Tryz.underlying44 (bytes:=8) (by decide)
 rcases List.mem_cons.1 hp with rfl|hp
 ·exact ty_sl (by kernel_rfl) Tryz.underlying45 (bytes:=24) (by decide)
 rcases List.mem_cons.1 hp with rfl|hp
 ·exact tyZ (cells:= [.slice none 0 0]++([]:List Value)) (bytes:=24) (by kernel_rfl) Tryz.underlying47 ⟨_,rfl,rfl⟩ (fun η A w=>⟨[.slice none 0 0],_,rfl,⟨rfl,rfl⟩,rfl⟩) rfl (fun k h=>by cases h) rfl (by decide)
 rcases List.mem_cons.1 hp with rfl|hp
 ·exact ty_sl (by kernel_rfl) Tryz.underlying49 (bytes:=24) (by decide)
 rcases List.mem_cons.1 hp with rfl|hp
 ·exact ty_ptr (by kernel_rfl) Tryz.underlying64 (bytes:=8) (by decide)
 rcases List.mem_cons.1 hp with rfl|hp
 ·exact ty_ptr (by kernel_rfl) Tryz.underlying72 (bytes:=8) (by decide)
 rcases List.mem_cons.1 hp with rfl|hp
 ·exact tyZ (cells:= [.string ByteArray.empty]++([.slice none 0 0]++([.slice none 0 0]++([.slice none 0 0]++([.slice none 0 0]++([.int .i64 0]++([.slice none 0 0]++([.int .i64 0]++([.slice none 0 0]++([.slice none 0 0]++([.bool false]++([.int .i64 0]++([.slice none 0 0]++([.slice none 0 0]++([.slice none 0 0]++([]:List Value)))))))))))))))) (bytes:=288) (by kernel_rfl) Tryz.underlying84 ⟨_,rfl,rfl⟩ (fun η A w=>⟨[.string ByteArray.empty],_,rfl,rfl,⟨[.slice none 0 0],_,rfl,⟨rfl,rfl⟩,⟨[.slice none 0 0],_,rfl,⟨rfl,rfl⟩,⟨[.slice none 0 0],_,rfl,⟨rfl,rfl⟩,⟨[.slice none 0 0],_,rfl,⟨rfl,rfl⟩,⟨[.int .i64 0],_,rfl,rfl,⟨[.slice none 0 0],_,rfl,⟨rfl,rfl⟩,⟨[.int .i64 0],_,rfl,rfl,⟨[.slice none 0 0],_,rfl,⟨rfl,rfl⟩,⟨[.slice none 0 0],_,rfl,⟨rfl,rfl⟩,⟨[.bool false],_,rfl,rfl,⟨[.int .i64 0],_,rfl,rfl,⟨[.slice none 0 0],_,rfl,⟨rfl,rfl⟩,⟨[.slice none 0 0],_,rfl,⟨rfl,rfl⟩,⟨[.slice none 0 0],_,rfl,⟨rfl,rfl⟩,rfl⟩⟩⟩⟩⟩⟩⟩⟩⟩⟩⟩⟩⟩⟩⟩) rfl (fun k h=>by cases h) rfl (by decide)
 rcases List.mem_cons.1 hp with rfl|hp
 ·exact ty_sl (by kernel_rfl) Tryz.underlying91 (bytes:=24) (by decide)
 rcases List.mem_cons.1 hp with rfl|hp
 ·exact ty_ptr (by kernel_rfl) Tryz.underlying94 (bytes:=8) (by decide)
 rcases List.mem_cons.1 hp with rfl|hp
 ·exact ty_sl (by kernel_rfl) Tryz.underlying95 (bytes:=24) (by decide)
 rcases List.mem_cons.1 hp with rfl|hp
 ·exact tyZ (cells:= [.slice none 0 0]++([.int .i64 0]++([.slice none 0 0]++([.slice none 0 0]++([]:List Value))))) (bytes:=80) (by kernel_rfl) Tryz.underlying99 ⟨_,rfl,rfl⟩ (fun η A w=>⟨[.slice none 0 0],_,rfl,⟨rfl,rfl⟩,⟨[.int .i64 0],_,rfl,rfl,⟨[.slice none 0 0],_,rfl,⟨rfl,rfl⟩,⟨[.slice none 0 0],_,rfl,⟨rfl,rfl⟩,rfl⟩⟩⟩⟩) rfl (fun k h=>by cases h) rfl (by decide)
 rcases List.mem_cons.1 hp with rfl|hp
 ·exact ty_k (k:= .u64) rfl rfl rfl (by kernel_rfl) Tryz.underlying111 (bytes:=8) (by decide)
 rcases List.mem_cons.1 hp with rfl|hp
 ·exact tyZ (cells:=List.replicate 5 (.int .u64 0)++([]:List Value)) (bytes:=40) (by kernel_rfl) Tryz.underlying112 rfl (fun η A w=>⟨List.replicate 5 (.int .u64 0),_,rfl,⟨List.length_replicate,lims_repl (k:= .u64) rfl 5⟩,rfl⟩) rfl (fun k h=>by cases h) rfl (by decide)
 rcases List.mem_cons.1 hp with rfl|hp
 ·exact tyZ (cells:=List.replicate 5 (.int .u64 0)++([]:List Value)) (bytes:=40) (by kernel_rfl) Tryz.underlying114 ⟨_,rfl,rfl⟩ (fun η A w=>⟨List.replicate 5 (.int .u64 0),_,rfl,⟨List.length_replicate,lims_repl (k:= .u64) rfl 5⟩,rfl⟩) rfl (fun k h=>by cases h) rfl (by decide)
 rcases List.mem_cons.1 hp with rfl|hp
 ·exact tyZ (cells:=List.replicate 5 (.int .u64 0)++(List.replicate 5 (.int .u64 0)++(List.replicate 5 (.int .u64 0)++(List.replicate 5 (.int .u64 0)++([]:List Value))))) (bytes:=160) (by kernel_rfl) Tryz.underlying116 ⟨_,rfl,rfl⟩ (fun η A w=>⟨List.replicate 5 (.int .u64 0),_,rfl,⟨List.length_replicate,lims_repl (k:= .u64) rfl 5⟩,⟨List.replicate 5 (.int .u64 0),_,rfl,⟨List.length_replicate,lims_repl (k:= .u64) rfl 5⟩,⟨List.replicate 5 (.int .u64 0),_,rfl,⟨List.length_replicate,lims_repl (k:= .u64) rfl 5⟩,⟨List.replicate 5 (.int .u64 0),_,rfl,⟨List.length_replicate,lims_repl (k:= .u64) rfl 5⟩,rfl⟩⟩⟩⟩) rfl (fun k h=>by cases h) rfl (by decide)
 rcases List.mem_cons.1 hp with rfl|hp
 ·exact tyZ (cells:=List.replicate 4 (.int .u64 0)++([]:List Value)) (bytes:=32) (by kernel_rfl) Tryz.underlying119 rfl (fun η A w=>⟨List.replicate 4 (.int .u64 0),_,rfl,⟨List.length_replicate,lims_repl (k:= .u64) rfl 4⟩,rfl⟩) rfl (fun k h=>by cases h) rfl (by decide)
 rcases List.mem_cons.1 hp with rfl|hp
 ·exact tyZ (cells:=List.replicate 4 (.int .u64 0)++([]:List Value)) (bytes:=32) (by kernel_rfl) Tryz.underlying121 ⟨_,rfl,rfl⟩ (fun η A w=>⟨List.replicate 4 (.int .u64 0),_,rfl,⟨List.length_replicate,lims_repl (k:= .u64) rfl 4⟩,rfl⟩) rfl (fun k h=>by cases h) rfl (by decide)
 rcases List.mem_cons.1 hp with rfl|hp
 ·exact ty_k (k:= .u32) rfl rfl rfl (by kernel_rfl) Tryz.underlying131 (bytes:=4) (by decide)
 rcases List.mem_cons.1 hp with rfl|hp
 ·exact ty_k (k:= .u16) rfl rfl rfl (by kernel_rfl) Tryz.underlying133 (bytes:=2) (by decide)
 rcases List.mem_cons.1 hp with rfl|hp
 ·exact tyZ (cells:=List.replicate 256 (.int .u16 0)++([]:List Value)) (bytes:=512) (by kernel_rfl) Tryz.underlying134 rfl (fun η A w=>⟨List.replicate 256 (.int .u16 0),_,rfl,⟨List.length_replicate,lims_repl (k:= .u16) rfl 256⟩,rfl⟩) rfl (fun k h=>by cases h) rfl (by decide)
 rcases List.mem_cons.1 hp with rfl|hp
 ·exact tyZ (cells:=List.replicate 256 (.int .u16 0)++([]:List Value)) (bytes:=512) (by kernel_rfl) Tryz.underlying135 rfl (fun η A w=>⟨List.replicate 256 (.int .u16 0),_,rfl,⟨List.length_replicate,lims_repl (k:= .u16) rfl 256⟩,rfl⟩) rfl (fun k h=>by cases h) rfl (by decide)
 rcases List.mem_cons.1 hp with rfl|hp
 ·exact tyZ (cells:=List.replicate 768 (.int .u16 0)++([]:List Value)) (bytes:=1536) (by kernel_rfl) Tryz.underlying136 rfl (fun η A w=>⟨List.replicate 768 (.int .u16 0),_,rfl,⟨List.length_replicate,lims_repl (k:= .u16) rfl 768⟩,rfl⟩) rfl (fun k h=>by cases h) rfl (by decide)
 rcases List.mem_cons.1 hp with rfl|hp
 ·exact tyZ (cells:=List.replicate 768 (.int .u16 0)++([]:List Value)) (bytes:=1536) (by kernel_rfl) Tryz.underlying137 rfl (fun η A w=>⟨List.replicate 768 (.int .u16 0),_,rfl,⟨List.length_replicate,lims_repl (k:= .u16) rfl 768⟩,rfl⟩) rfl (fun k h=>by cases h) rfl (by decide)
 rcases List.mem_cons.1 hp with rfl|hp
 ·exact tyZ (cells:=List.replicate 32 (.int .u8 0)++([]:List Value)) (bytes:=32) (by kernel_rfl) Tryz.underlying139 rfl (fun η A w=>⟨List.replicate 32 (.int .u8 0),_,rfl,⟨List.length_replicate,lims_repl (k:= .u8) rfl 32⟩,rfl⟩) rfl (fun k h=>by cases h) rfl (by decide)
 rcases List.mem_cons.1 hp with rfl|hp
 ·exact ty_k (k:= .u64) rfl rfl rfl (by kernel_rfl) Tryz.underlying165 (bytes:=8) (by decide)
 rcases List.mem_cons.1 hp with rfl|hp
 ·exact tyZ (cells:=List.replicate 80 (.int .u64 0)++([]:List Value)) (bytes:=640) (by kernel_rfl) Tryz.underlying186 rfl (fun η A w=>⟨List.replicate 80 (.int .u64 0),_,rfl,⟨List.length_replicate,lims_repl (k:= .u64) rfl 80⟩,rfl⟩) rfl (fun k h=>by cases h) rfl (by decide)
 rcases List.mem_cons.1 hp with rfl|hp
 ·exact tyZ (cells:=List.replicate 8 (.int .u64 0)++([]:List Value)) (bytes:=64) (by kernel_rfl) Tryz.underlying188 rfl (fun η A w=>⟨List.replicate 8 (.int .u64 0),_,rfl,⟨List.length_replicate,lims_repl (k:= .u64) rfl 8⟩,rfl⟩) rfl (fun k h=>by cases h) rfl (by decide)
 cases hp
def e4:Cl:= .ob (.x 4) (0:F)
def TYQ (t:Nat):TE:=match Nat.beq t 114 with
 |true=>⟨.st [(0,112)],5,[e4]⟩
 |false=>match Nat.beq t 116 with
  |true=>⟨.st [(0,114),(5,114),(10,114),(15,114)],20,[e4,e4,e4,e4]⟩
  |false=>match Nat.beq t 121 with
   |true=>⟨.st [(0,119)],4,[.ob (.x 2) (0:Nat)]⟩
   |false=>TYQ0 t
theorem cells_one {η:Env} {A:Nat→Prop} {w:World} {cs z:List Value} {x:Cl} (h:x.H η A w cs) (e:z=cs):ClsH η A w [x] z:=by
 subst e
 exact ⟨z,[],(List.append_nil _).symm,h,rfl⟩
theorem e4_H {η:Env} {A:Nat→Prop} {w:World}:e4.H η A w (List.replicate 5 (.int .u64 0)):=⟨fun _=>0,⟨by decide,by decide,by decide,by decide,by decide⟩,rfl,rfl⟩
theorem Lq_pos':(0:Nat)<Lq:=by unfold Lq;omega
theorem TYQok:TysOk TYQ:=fun t=>by
 have lim:∀ {n:Nat} {cs:List Value},Lims Kd.u64.rp (List.replicate n (0:UInt64)) cs→cs=List.replicate n (.int .u64 0):=fun {n cs} h=>by
  rw [lims_u64.1 h,List.map_replicate];rfl
 by_cases e1:t=114
 ·subst e1
  rcases TYQ0ok 114 with h|⟨i,d,z,h⟩
  ·cases h
  ·refine .inr ⟨i,d,z,tok_zero h rfl rfl fun η A w=> ?_⟩
   obtain ⟨h1,r,e,⟨_,h2⟩,rfl⟩:=h.cells η A w
   exact cells_one e4_H (by rw [e,List.append_nil];exact lim h2)
 ·by_cases e2:t=116
  ·subst e2
   rcases TYQ0ok 116 with h|⟨i,d,z,h⟩
   ·cases h
   ·refine .inr ⟨i,d,z,tok_zero h rfl rfl fun η A w=> ?_⟩
    obtain ⟨h1,r1,e1,⟨_,k1⟩,h2,r2,e2,⟨_,k2⟩,h3,r3,e3,⟨_,k3⟩,h4,r4,e4,⟨_,k4⟩,rfl⟩:=h.cells η A w
    have k1:=lim k1;have k2:=lim k2;have k3:=lim k3;have k4:=lim k4
    subst k1 k2 k3 k4 e4 e3 e2
    exact ⟨_,_,e1,e4_H,_,_,rfl,e4_H,_,_,rfl,e4_H,_,_,rfl,e4_H,rfl⟩
  ·by_cases e3:t=121
   ·subst e3
    rcases TYQ0ok 121 with h|⟨i,d,z,h⟩
    ·cases h
    ·refine .inr ⟨i,d,z,tok_zero h rfl rfl fun η A w=> ?_⟩
     obtain ⟨h1,r,e,⟨_,h2⟩,rfl⟩:=h.cells η A w
     refine cells_one (cs:=List.replicate 4 (.int .u64 0)) ⟨Lq_pos',rfl⟩ (by rw [e,List.append_nil];exact lim h2)
   ·have e:TYQ t=TYQ0 t:=by
     unfold TYQ
     rw [show Nat.beq t 114=false from by rw [←Bool.not_eq_true,Nat.beq_eq];exact e1,show Nat.beq t 116=false from by rw [←Bool.not_eq_true,Nat.beq_eq];exact e2,show Nat.beq t 121=false from by rw [←Bool.not_eq_true,Nat.beq_eq];exact e3]
    rcases TYQ0ok t with h|⟨i,d,z,h⟩
    ·exact .inl (by rw [e];exact h)
    ·exact .inr ⟨i,d,z,tok_zero h (by rw [e]) (by rw [e]) (by rw [e];exact h.cells)⟩
end Go.Proofs.YtknlbpjcjdenbaaGreat
namespace Go.Proofs.YtknlbpjcjdenbaaGreat
open Go.RowKit
def fV (f:Nat→Nat) (i:Nat):Value:= .int .u64 (f i:Nat)
theorem row5 (f:Nat→Value):row 5 f= [f 0,f 1,f 2,f 3,f 4]:=rfl
def pasV (f:Nat→Nat) (c0 k i:Nat):Value:=if i<k then fV (pas f c0) i else fV f i
theorem pasV_at (f:Nat→Nat) (c0 k:Nat):pasV f c0 k k= .int .u64 (f k:Nat):=by unfold pasV;rw [if_neg (by omega)];rfl
theorem pasV_set (f:Nat→Nat) (c0 k:Nat):(row 5 (pasV f c0 k)).set k (.int .u64 (pas f c0 k:Nat))=row 5 (pasV f c0 (k+1)):=
 row_set k _ (by unfold pasV;rw [if_pos (by omega)];rfl) (fun i _ h=>by unfold pasV;by_cases h1:i<k;rw [if_pos h1,if_pos (by omega)];rw [if_neg h1,if_neg (by omega)])
theorem pasV_zero (f:Nat→Nat) (c0:Nat):row 5 (pasV f c0 0)=row 5 (fV f):=row_ext fun i _=>by unfold pasV;rw [if_neg (by omega)]
theorem pasV_five (f:Nat→Nat) (c0:Nat):row 5 (pasV f c0 5)=row 5 (fV (pas f c0)):=row_ext fun i h=>by unfold pasV;rw [if_pos h]
theorem and51 (x:Nat) (h:x<18446744073709551616):bits BinOp.and IntKind.u64 (x:Int) 2251799813685247=((x%2251799813685248:Nat):Int):=by
 rw [show (2251799813685247:Int)=((2251799813685247:Nat):Int) from rfl,u64_and_nat x 2251799813685247 h (by omega)]
 rw [show x&&&2251799813685247=x%2251799813685248 from Nat.and_two_pow_sub_one_eq_mod x 51]
theorem pass_step (f:Nat→Nat) (c0 k:Nat) (h:f k+cr f c0 k<18446744073709551616):
  ∃s:Int,IntKind.u64.wrap ((f k:Nat)+(cr f c0 k:Nat):Int)=s∧0≤s∧s<18446744073709551616∧bits BinOp.and IntKind.u64 s 2251799813685247=(pas f c0 k:Nat)∧s/2251799813685248=(cr f c0 (k+1):Nat):=by
 refine ⟨((f k+cr f c0 k:Nat):Int),by rw [wrapU];omega,by omega,by omega,and51 _ h,?_⟩
 show _=(((f k+cr f c0 k)/2251799813685248:Nat):Int)
 omega
set_option maxHeartbeats 1000000 in
theorem carried_any (f:Nat→Nat) (hf:∀i,i<5→f i≤9223372036854775808) (w:World):
  Calls Tryz.prog 173 #[.agg #[.int .u64 (f 0:Nat),.int .u64 (f 1:Nat),.int .u64 (f 2:Nat),.int .u64 (f 3:Nat),.int .u64 (f 4:Nat)]] w fun e w'=>e= .returned (.agg #[.int .u64 (cF f 0:Nat),.int .u64 (cF f 1:Nat),.int .u64 (cF f 2:Nat),.int .u64 (cF f 3:Nat),.int .u64 (cF f 4:Nat)])∧Below w.heap.size w w':=by
 have HF:=Lib.hid hf
 clear hf
 go_enter Tryz.func173,Tryz.ntmps173
 go_wp2
 refine wp_gen (fun W=>Blk W w.heap.size (row 5 (fV f)) 112∧Blk W (w.heap.size+1) (row 5 (fV fun _=>0)) 114∧Below w.heap.size w W) ?_ (fun W hW=> ?_)
 ·exact ⟨(Blk.new w _ _).alloc _,Blk.new' (by simp),(by repeat (first|(with_reducible refine Below.alloc' ?_ _)|(with_reducible refine Below.drew ?_)|(with_reducible refine below_drewN ?_ _)|((with_reducible refine Below.setCell ?_ ?_ _);rotate_left;(focus (first|exact Nat.le_refl _|(simp;done)|(simp;omega))))|(with_reducible assumption)|(with_reducible exact Below.refl _ _)))⟩
 obtain ⟨hA,hO,hbel⟩:=hW
 refine wp_loop_rounds 3 ?_
 rw [rounds_succ]
 go_wp2
 go_loopw [3,7] (fun c i wr=>∃k:Nat,k≤5∧i= .int .i64 k∧c= .int .u64 (cr f 0 k:Nat)∧Blk wr w.heap.size (row 5 (pasV f 0 k)) 112∧Blk wr (w.heap.size+1) (row 5 (fV fun _=>0)) 114∧Below w.heap.size w wr) (fun _ i _=>5-(intOf i).toNat)
 case atStart=>exact ⟨0,by omega,rfl,rfl,by rw [pasV_zero];exact hA,hO,hbel⟩
 clear hA hO hbel
 have hb1:∀k,k<5→f k+cr f 0 k<18446744073709551616:=fun k hk=>by
  have:=HF.out k hk;have:=cr_lt f 0 HF.out (by omega) k (by omega);omega
 have HB1:=Lib.hid hb1
 clear hb1
 case round=>
  obtain ⟨k,hk,rfl,rfl,hA,hO,hbel⟩:=hrel
  by_cases hlt:k<5
  ·obtain ⟨s,hs,hs0,hs1,ha,hd⟩:=pass_step f 0 k (HB1.out k hlt)
   have hcell:=hA.at hlt
   rw [pasV_at] at hcell
   have hfr:=hA.frozen k
   have HD:=Lib.hid hd
   have HA:=Lib.hid ((hA.set k (.int .u64 s)).set k (.int .u64 (pas f 0 k:Nat)))
   have HO:=Lib.hid ((hO.other ⟨w.heap.size,k,none⟩ (by simp) (.int .u64 s)).other ⟨w.heap.size,k,none⟩ (by simp) (.int .u64 (pas f 0 k:Nat)))
   clear hA hO hd
   go_wp2
   go_roundw
   case rel=>exact ⟨k+1,by omega,by go_num,by rw [HD.out],by have:=HA.out;rw [List.set_set,pasV_set] at this;exact this,HO.out,(by repeat (first|(with_reducible refine Below.alloc' ?_ _)|(with_reducible refine Below.drew ?_)|(with_reducible refine below_drewN ?_ _)|((with_reducible refine Below.setCell ?_ ?_ _);rotate_left;(focus (first|exact Nat.le_refl _|(simp;done)|(simp;omega))))|(with_reducible assumption)|(with_reducible exact Below.refl _ _)))⟩
   case measure=>simp [intOf];omega
  ·obtain rfl:k=5:=by omega
   rw [pasV_five] at hA
   have hm:IntKind.u64.wrap (((cr f 0 5:Nat):Int)*19)=((cr f 0 5*19:Nat):Int):=by
    have:=cr5 f HF.out;rw [wrapU];omega
   have HC1:Hid (cr f 0 5*19≤77843):=Lib.hid (by have:=cr5 f HF.out;omega)
   clear hlt hk HB1
   generalize hc1:cr f 0 5*19=c1 at*
   have HC:=Lib.hid hc1
   clear hc1
   go_wp2
   rw [rounds_succ]
   go_wp2
   clear hm
   go_loopw [3,7] (fun c i wr=>∃k:Nat,k≤5∧i= .int .i64 k∧c= .int .u64 (cr (pas f 0) c1 k:Nat)∧Blk wr w.heap.size (row 5 (pasV (pas f 0) c1 k)) 112∧Blk wr (w.heap.size+1) (row 5 (fV fun _=>0)) 114∧Below w.heap.size w wr) (fun _ i _=>5-(intOf i).toNat)
   case atStart=>exact ⟨0,by omega,rfl,rfl,by rw [pasV_zero];exact hA,hO,hbel⟩
   clear hA hO hbel
   have hb2:∀k,k<5→pas f 0 k+cr (pas f 0) c1 k<18446744073709551616:=fun k hk=>by
    have:=pas_lt f 0 k;have:=cr_lt (pas f 0) c1 (fun i _=>by have:=pas_lt f 0 i;omega) (by have:=HC1.out;omega) k (by omega);omega
   have HB2:=Lib.hid hb2
   clear hb2
   case round=>
    obtain ⟨k,hk,rfl,rfl,hA,hO,hbel⟩:=hrel
    by_cases hlt:k<5
    ·obtain ⟨s,hs,hs0,hs1,ha,hd⟩:=pass_step (pas f 0) c1 k (HB2.out k hlt)
     have hcell:=hA.at hlt
     rw [pasV_at] at hcell
     have hfr:=hA.frozen k
     have HD:=Lib.hid hd
     have HA:=Lib.hid ((hA.set k (.int .u64 s)).set k (.int .u64 (pas (pas f 0) c1 k:Nat)))
     have HO:=Lib.hid ((hO.other ⟨w.heap.size,k,none⟩ (by simp) (.int .u64 s)).other ⟨w.heap.size,k,none⟩ (by simp) (.int .u64 (pas (pas f 0) c1 k:Nat)))
     clear hA hO hd
     go_wp2
     go_roundw
     case rel=>exact ⟨k+1,by omega,by go_num,by rw [HD.out],by have:=HA.out;rw [List.set_set,pasV_set] at this;exact this,HO.out,(by repeat (first|(with_reducible refine Below.alloc' ?_ _)|(with_reducible refine Below.drew ?_)|(with_reducible refine below_drewN ?_ _)|((with_reducible refine Below.setCell ?_ ?_ _);rotate_left;(focus (first|exact Nat.le_refl _|(simp;done)|(simp;omega))))|(with_reducible assumption)|(with_reducible exact Below.refl _ _)))⟩
     case measure=>simp [intOf];omega
    ·obtain rfl:k=5:=by omega
     rw [pasV_five] at hA
     have h5:=cr_one (pas f 0) c1 (pas_lt f 0) (by have:=HC1.out;omega) 5 (by omega)
     have h0:=pas_lt (pas f 0) c1 0
     have hm:IntKind.u64.wrap (((cr (pas f 0) c1 5:Nat):Int)*19)=((cr (pas f 0) c1 5*19:Nat):Int):=by rw [wrapU];omega
     have hs:IntKind.u64.wrap (((pas (pas f 0) c1 0:Nat):Int)+((cr (pas f 0) c1 5*19:Nat):Int))=((cF f 0:Nat):Int):=by
      rw [wrapU];show _=((pas (pas f 0) (cr f 0 5*19) 0+cr (pas f 0) (cr f 0 5*19) 5*19:Nat):Int)
      rw [HC.out];omega
     rw [row5] at hA hO
     have hAc:=hA.cell;have hAf:=hA.frozen;have hOc:=hO.cell;have hOf:=hO.frozen
     unfold fV at hAc hOc
     rw [show pas (pas f 0) c1 1=cF f 1 from by rw [←HC.out];rfl,show pas (pas f 0) c1 2=cF f 2 from by rw [←HC.out];rfl,show pas (pas f 0) c1 3=cF f 3 from by rw [←HC.out];rfl,show pas (pas f 0) c1 4=cF f 4 from by rw [←HC.out];rfl] at hAc
     generalize cr (pas f 0) c1 5*19=c2 at*
     generalize cr (pas f 0) c1 5=c3 at*
     generalize pas (pas f 0) c1 0=p0 at*
     clear h5 h0 hA hO hlt hk HB2
     go_wp2
     rw [rounds_succ]
     go_wp2
     exact bodyPost_ret (v:= .agg #[.int .u64 (cF f 0:Nat),.int .u64 (cF f 1:Nat),.int .u64 (cF f 2:Nat),.int .u64 (cF f 3:Nat),.int .u64 (cF f 4:Nat)]) (by simp [results,Tryz.results173,go_sem,hOc]) rfl ⟨rfl,(by repeat (first|(with_reducible refine Below.alloc' ?_ _)|(with_reducible refine Below.drew ?_)|(with_reducible refine below_drewN ?_ _)|((with_reducible refine Below.setCell ?_ ?_ _);rotate_left;(focus (first|exact Nat.le_refl _|(simp;done)|(simp;omega))))|(with_reducible assumption)|(with_reducible exact Below.refl _ _)))⟩
structure FE (f:Nat→Nat) (n:Nat):Prop where
 lim:Lim f
 num:val f%Pq=n
theorem FE.lt {f:Nat→Nat} {n:Nat} (h:FE f n):n<Pq:=by rw [←h.num];exact Nat.mod_lt _ Pq_pos
theorem Lim.lt {f:Nat→Nat} (h:Lim f):∀i,i<5→f i<2251799813685268:=by
 intro i hi
 have hh:i=0∨i=1∨i=2∨i=3∨i=4:=by omega
 rcases hh with rfl|rfl|rfl|rfl|rfl
 ·exact h.l0
 ·have:=h.l1;omega
 ·have:=h.l2;omega
 ·have:=h.l3;omega
 ·have:=h.l4;omega
def addF (f g:Nat→Nat) (i:Nat):Nat:=f i+g i
theorem addF_val (f g:Nat→Nat):val (addF f g)=val f+val g:=by simp only [val,addF];omega
theorem addF_at {f g:Nat→Nat} (hf:Lim f) (hg:Lim g) (i:Nat) (hi:i<5):IntKind.u64.wrap ((f i:Nat)+(g i:Nat):Int)=(addF f g i:Nat):=by
 have:=hf.lt i hi;have:=hg.lt i hi
 unfold addF;rw [wrapU];omega
set_option maxHeartbeats 1000000 in
theorem feadd_any {f g:Nat→Nat} {x y:Nat} (hf:FE f x) (hg:FE g y) (w:World):
  Calls Tryz.prog 110 #[.agg #[.int .u64 (f 0:Nat),.int .u64 (f 1:Nat),.int .u64 (f 2:Nat),.int .u64 (f 3:Nat),.int .u64 (f 4:Nat)],.agg #[.int .u64 (g 0:Nat),.int .u64 (g 1:Nat),.int .u64 (g 2:Nat),.int .u64 (g 3:Nat),.int .u64 (g 4:Nat)]] w fun e w'=>∃h,e= .returned (.agg #[.int .u64 (h 0:Nat),.int .u64 (h 1:Nat),.int .u64 (h 2:Nat),.int .u64 (h 3:Nat),.int .u64 (h 4:Nat)])∧FE h ((x+y)%Pq)∧Below w.heap.size w w':=by
 have s0:=addF_at hf.lim hg.lim 0 (by omega)
 have s1:=addF_at hf.lim hg.lim 1 (by omega)
 have s2:=addF_at hf.lim hg.lim 2 (by omega)
 have s3:=addF_at hf.lim hg.lim 3 (by omega)
 have s4:=addF_at hf.lim hg.lim 4 (by omega)
 have hb:∀i,i<5→addF f g i≤9223372036854775808:=fun i hi=>by
  have:=hf.lim.lt i hi;have:=hg.lim.lt i hi;unfold addF;omega
 have HB:=Lib.hid hb
 have HR:Hid (FE (cF (addF f g)) ((x+y)%Pq)):=Lib.hid ⟨cF_lim _ hb,by rw [cF_val,addF_val,Nat.add_mod,hf.num,hg.num]⟩
 clear hb hf hg
 go_enter Tryz.func110,Tryz.ntmps110
 go_wp2
 refine wp_loop_rounds 6 ?_
 iterate 5 (rw [rounds_succ];go_wp2;go_region;go_wp2)
 rw [rounds_succ]
 go_wp2_with (go_at_call 173;go_must (refine (carried_any (addF f g) HB.out _).mono ?_;rintro e w1 ⟨rfl,hb⟩;have hO:=(show Blk _ (w.heap.size+1+1) [.int .u64 0,.int .u64 0,.int .u64 0,.int .u64 0,.int .u64 0] 114 from (by repeat (first|(with_reducible refine Blk.drew ?_)|exact Blk.new' (by simp)|(with_reducible refine Blk.alloc ?_ _)))).below' hb;have hOc:=hO.cell;have hOf:=hO.frozen;have hbel:Below w.heap.size w w1:=Below.call (by repeat (first|(with_reducible refine Below.alloc' ?_ _)|(with_reducible refine Below.drew ?_)|(with_reducible refine below_drewN ?_ _)|((with_reducible refine Below.setCell ?_ ?_ _);rotate_left;(focus (first|exact Nat.le_refl _|(simp;done)|(simp;omega))))|(with_reducible assumption)|(with_reducible exact Below.refl _ _))) hb;clear hb hO))
 exact bodyPost_ret (v:= .agg #[.int .u64 (cF (addF f g) 0:Nat),.int .u64 (cF (addF f g) 1:Nat),.int .u64 (cF (addF f g) 2:Nat),.int .u64 (cF (addF f g) 3:Nat),.int .u64 (cF (addF f g) 4:Nat)]) (by simp [results,Tryz.results110,go_sem,hOc]) rfl ⟨_,rfl,HR.out,(by repeat (first|(with_reducible refine Below.alloc' ?_ _)|(with_reducible refine Below.drew ?_)|(with_reducible refine below_drewN ?_ _)|((with_reducible refine Below.setCell ?_ ?_ _);rotate_left;(focus (first|exact Nat.le_refl _|(simp;done)|(simp;omega))))|(with_reducible assumption)|(with_reducible exact Below.refl _ _)))⟩
def fourP (i:Nat):Nat:=if i=0 then 9007199254740916 else 9007199254740988
def subF (f g:Nat→Nat) (i:Nat):Nat:=f i+(fourP i-g i)
theorem subF_val {f g:Nat→Nat} (hg:Lim g):val (subF f g)+val g=val f+4*Pq:=by
 have h0:=hg.l0;have h1:=hg.l1;have h2:=hg.l2;have h3:=hg.l3;have h4:=hg.l4
 simp only [val,subF,fourP,if_true,if_neg (show ¬(1=0) by omega),if_neg (show ¬(2=0) by omega),if_neg (show ¬(3=0) by omega),if_neg (show ¬(4=0) by omega),Pq]
 omega
theorem subF_at {f g:Nat→Nat} (hf:Lim f) (hg:Lim g) (i:Nat) (hi:i<5):IntKind.u64.wrap ((f i:Nat)+IntKind.u64.wrap ((fourP i:Nat)-(g i:Nat)):Int)=(subF f g i:Nat):=by
 have:=hf.lt i hi;have:=hg.lt i hi
 have hk:9007199254740916≤fourP i∧fourP i≤9007199254740988:=by unfold fourP;split<;>omega
 unfold subF;rw [wrapU,wrapU];omega
theorem mod_sub {a b x y:Nat} (h:a+b=x+4*Pq) (hy:b%Pq=y):a%Pq=(x%Pq+(Pq-y))%Pq:=by
 unfold Pq at *;omega
set_option maxHeartbeats 1000000 in
theorem fesub_any {f g:Nat→Nat} {x y:Nat} (hf:FE f x) (hg:FE g y) (w:World):
  Calls Tryz.prog 108 #[.agg #[.int .u64 (f 0:Nat),.int .u64 (f 1:Nat),.int .u64 (f 2:Nat),.int .u64 (f 3:Nat),.int .u64 (f 4:Nat)],.agg #[.int .u64 (g 0:Nat),.int .u64 (g 1:Nat),.int .u64 (g 2:Nat),.int .u64 (g 3:Nat),.int .u64 (g 4:Nat)]] w fun e w'=>∃h,e= .returned (.agg #[.int .u64 (h 0:Nat),.int .u64 (h 1:Nat),.int .u64 (h 2:Nat),.int .u64 (h 3:Nat),.int .u64 (h 4:Nat)])∧FE h ((x+(Pq-y))%Pq)∧Below w.heap.size w w':=by
 have s0:IntKind.u64.wrap ((f 0:Nat)+IntKind.u64.wrap (9007199254740916-(g 0:Nat)):Int)=(subF f g 0:Nat):=subF_at hf.lim hg.lim 0 (by omega)
 have s1:IntKind.u64.wrap ((f 1:Nat)+IntKind.u64.wrap (9007199254740988-(g 1:Nat)):Int)=(subF f g 1:Nat):=subF_at hf.lim hg.lim 1 (by omega)
 have s2:IntKind.u64.wrap ((f 2:Nat)+IntKind.u64.wrap (9007199254740988-(g 2:Nat)):Int)=(subF f g 2:Nat):=subF_at hf.lim hg.lim 2 (by omega)
 have s3:IntKind.u64.wrap ((f 3:Nat)+IntKind.u64.wrap (9007199254740988-(g 3:Nat)):Int)=(subF f g 3:Nat):=subF_at hf.lim hg.lim 3 (by omega)
 have s4:IntKind.u64.wrap ((f 4:Nat)+IntKind.u64.wrap (9007199254740988-(g 4:Nat)):Int)=(subF f g 4:Nat):=subF_at hf.lim hg.lim 4 (by omega)
 have hb:∀i,i<5→subF f g i≤9223372036854775808:=fun i hi=>by
  have:=hf.lim.lt i hi
  have hk:fourP i≤9007199254740988:=by unfold fourP;split<;>omega
  unfold subF;omega
 have HB:=Lib.hid hb
 have HR:Hid (FE (cF (subF f g)) ((x+(Pq-y))%Pq)):=Lib.hid ⟨cF_lim _ hb,by rw [cF_val,mod_sub (subF_val hg.lim) hg.num,hf.num]⟩
 clear hb hf hg
 go_enter Tryz.func108,Tryz.ntmps108
 go_wp2
 refine wp_loop_rounds 6 ?_
 iterate 5 (rw [rounds_succ];go_wp2;(try go_region);go_wp2)
 rw [rounds_succ]
 go_wp2_with (go_at_call 173;go_must (refine (carried_any (subF f g) HB.out _).mono ?_;rintro e w1 ⟨rfl,hb⟩;have hO:=(show Blk _ (w.heap.size+1+1) [.int .u64 0,.int .u64 0,.int .u64 0,.int .u64 0,.int .u64 0] 114 from (by repeat (first|(with_reducible refine Blk.drew ?_)|exact Blk.new' (by simp)|(with_reducible refine Blk.alloc ?_ _)))).below' hb;have hOc:=hO.cell;have hOf:=hO.frozen;have hbel:Below w.heap.size w w1:=Below.call (by repeat (first|(with_reducible refine Below.alloc' ?_ _)|(with_reducible refine Below.drew ?_)|(with_reducible refine below_drewN ?_ _)|((with_reducible refine Below.setCell ?_ ?_ _);rotate_left;(focus (first|exact Nat.le_refl _|(simp;done)|(simp;omega))))|(with_reducible assumption)|(with_reducible exact Below.refl _ _))) hb;clear hb hO))
 exact bodyPost_ret (v:= .agg #[.int .u64 (cF (subF f g) 0:Nat),.int .u64 (cF (subF f g) 1:Nat),.int .u64 (cF (subF f g) 2:Nat),.int .u64 (cF (subF f g) 3:Nat),.int .u64 (cF (subF f g) 4:Nat)]) (by simp [results,Tryz.results108,go_sem,hOc]) rfl ⟨_,rfl,HR.out,(by repeat (first|(with_reducible refine Below.alloc' ?_ _)|(with_reducible refine Below.drew ?_)|(with_reducible refine below_drewN ?_ _)|((with_reducible refine Below.setCell ?_ ?_ _);rotate_left;(focus (first|exact Nat.le_refl _|(simp;done)|(simp;omega))))|(with_reducible assumption)|(with_reducible exact Below.refl _ _)))⟩
theorem FE.zero:FE (fun _=>0) 0:=⟨⟨by omega,by omega,by omega,by omega,by omega⟩,by decide +kernel⟩
theorem buildE (w:World):(Instr.build 114 #[]).run Tryz.prog w= .ok (.agg #[.int .u64 0,.int .u64 0,.int .u64 0,.int .u64 0,.int .u64 0]) w:=by kernel_rfl
theorem fesub_zero {g:Nat→Nat} {y:Nat} (hg:FE g y) (w:World):
  Calls Tryz.prog 108 #[.agg #[.int .u64 0,.int .u64 0,.int .u64 0,.int .u64 0,.int .u64 0],.agg #[.int .u64 (g 0:Nat),.int .u64 (g 1:Nat),.int .u64 (g 2:Nat),.int .u64 (g 3:Nat),.int .u64 (g 4:Nat)]] w fun e w'=>∃h,e= .returned (.agg #[.int .u64 (h 0:Nat),.int .u64 (h 1:Nat),.int .u64 (h 2:Nat),.int .u64 (h 3:Nat),.int .u64 (h 4:Nat)])∧FE h ((Pq-y)%Pq)∧Below w.heap.size w w':=by
 have:=fesub_any FE.zero hg w
 rw [Nat.zero_add] at this;exact this
set_option maxHeartbeats 1000000 in
theorem feneg_any {f:Nat→Nat} {x:Nat} (hf:FE f x) (w:World):
  Calls Tryz.prog 116 #[.agg #[.int .u64 (f 0:Nat),.int .u64 (f 1:Nat),.int .u64 (f 2:Nat),.int .u64 (f 3:Nat),.int .u64 (f 4:Nat)]] w fun e w'=>∃h,e= .returned (.agg #[.int .u64 (h 0:Nat),.int .u64 (h 1:Nat),.int .u64 (h 2:Nat),.int .u64 (h 3:Nat),.int .u64 (h 4:Nat)])∧FE h ((Pq-x)%Pq)∧Below w.heap.size w w':=by
 have hbE:=buildE
 go_enter Tryz.func116,Tryz.ntmps116
 go_wp2_with (go_at_call 108;go_must (refine (fesub_zero hf _).mono ?_;rintro e w1 ⟨h,rfl,hr,hb⟩;have hO:=(show Blk _ (w.heap.size+1) [.int .u64 0,.int .u64 0,.int .u64 0,.int .u64 0,.int .u64 0] 114 from (by repeat (first|(with_reducible refine Blk.drew ?_)|exact Blk.new' (by simp)|(with_reducible refine Blk.alloc ?_ _)))).below' hb;have hOc:=hO.cell;have hOf:=hO.frozen;have hbel:Below w.heap.size w w1:=Below.call (by repeat (first|(with_reducible refine Below.alloc' ?_ _)|(with_reducible refine Below.drew ?_)|(with_reducible refine below_drewN ?_ _)|((with_reducible refine Below.setCell ?_ ?_ _);rotate_left;(focus (first|exact Nat.le_refl _|(simp;done)|(simp;omega))))|(with_reducible assumption)|(with_reducible exact Below.refl _ _))) hb;clear hb hO))
 exact bodyPost_ret (v:= .agg #[.int .u64 (h 0:Nat),.int .u64 (h 1:Nat),.int .u64 (h 2:Nat),.int .u64 (h 3:Nat),.int .u64 (h 4:Nat)]) (by simp [results,Tryz.results116,go_sem,hOc]) rfl ⟨_,rfl,hr,(by repeat (first|(with_reducible refine Below.alloc' ?_ _)|(with_reducible refine Below.drew ?_)|(with_reducible refine below_drewN ?_ _)|((with_reducible refine Below.setCell ?_ ?_ _);rotate_left;(focus (first|exact Nat.le_refl _|(simp;done)|(simp;omega))))|(with_reducible assumption)|(with_reducible exact Below.refl _ _)))⟩
def smallF (n i:Nat):Nat:=if i=0 then n%2251799813685248 else if i=1 then n/2251799813685248 else 0
theorem smallF_val (n:Nat):val (smallF n)=n:=by
 simp only [val,smallF,if_true,if_neg (show ¬(1=0) by omega),if_neg (show ¬(2=0) by omega),if_neg (show ¬(3=0) by omega),if_neg (show ¬(4=0) by omega),if_neg (show ¬(2=1) by omega),if_neg (show ¬(3=1) by omega),if_neg (show ¬(4=1) by omega)]
 omega
theorem FE.small {n:Nat} (hn:n<18446744073709551616):FE (smallF n) n:=
 ⟨⟨by simp only [smallF,if_true];omega,by simp [smallF];omega,by simp [smallF],by simp [smallF],by simp [smallF]⟩,by rw [smallF_val,Nat.mod_eq_of_lt (by unfold Pq;omega)]⟩
set_option maxHeartbeats 1000000 in
theorem fesmall_any {n:Nat} (hn:n<18446744073709551616) (w:World):
  Calls Tryz.prog 106 #[.int .u64 n] w fun e w'=>e= .returned (.agg #[.int .u64 (smallF n 0:Nat),.int .u64 (smallF n 1:Nat),.int .u64 (smallF n 2:Nat),.int .u64 (smallF n 3:Nat),.int .u64 (smallF n 4:Nat)])∧Below w.heap.size w w':=by
 have ha:=and51 n hn
 have HD:Hid ((n:Int)/2251799813685248=(smallF n 1:Nat)):=Lib.hid (by simp [smallF])
 have HE:Hid (((n%2251799813685248:Nat):Int)=(smallF n 0:Nat)):=Lib.hid (by simp [smallF])
 rw [HE.out] at ha
 clear hn
 go_enter Tryz.func106,Tryz.ntmps106
 go_wp2
 exact bodyPost_ret (v:= .agg #[.int .u64 (smallF n 0:Nat),.int .u64 ((n:Int)/2251799813685248),.int .u64 0,.int .u64 0,.int .u64 0]) (by simp [results,Tryz.results106,go_sem]) rfl ⟨by rw [HD.out];rfl,(by repeat (first|(with_reducible refine Below.alloc' ?_ _)|(with_reducible refine Below.drew ?_)|(with_reducible refine below_drewN ?_ _)|((with_reducible refine Below.setCell ?_ ?_ _);rotate_left;(focus (first|exact Nat.le_refl _|(simp;done)|(simp;omega))))|(with_reducible assumption)|(with_reducible exact Below.refl _ _)))⟩
set_option maxHeartbeats 1000000 in
theorem fepick_any (b:Bool) (f g:Nat→Nat) (w:World):
  Calls Tryz.prog 115 #[.bool b,.agg #[.int .u64 (f 0:Nat),.int .u64 (f 1:Nat),.int .u64 (f 2:Nat),.int .u64 (f 3:Nat),.int .u64 (f 4:Nat)],.agg #[.int .u64 (g 0:Nat),.int .u64 (g 1:Nat),.int .u64 (g 2:Nat),.int .u64 (g 3:Nat),.int .u64 (g 4:Nat)]] w fun e w'=>e= .returned (.agg #[.int .u64 ((if b then f else g) 0:Nat),.int .u64 ((if b then f else g) 1:Nat),.int .u64 ((if b then f else g) 2:Nat),.int .u64 ((if b then f else g) 3:Nat),.int .u64 ((if b then f else g) 4:Nat)])∧Below w.heap.size w w':=by
 cases b
 ·go_enter Tryz.func115,Tryz.ntmps115
  go_wp2
  exact bodyPost_ret (v:= .agg #[.int .u64 (g 0:Nat),.int .u64 (g 1:Nat),.int .u64 (g 2:Nat),.int .u64 (g 3:Nat),.int .u64 (g 4:Nat)]) (by simp [results,Tryz.results115,go_sem]) rfl ⟨rfl,(by repeat (first|(with_reducible refine Below.alloc' ?_ _)|(with_reducible refine Below.drew ?_)|(with_reducible refine below_drewN ?_ _)|((with_reducible refine Below.setCell ?_ ?_ _);rotate_left;(focus (first|exact Nat.le_refl _|(simp;done)|(simp;omega))))|(with_reducible assumption)|(with_reducible exact Below.refl _ _)))⟩
 ·go_enter Tryz.func115,Tryz.ntmps115
  go_wp2
  exact bodyPost_ret (v:= .agg #[.int .u64 (f 0:Nat),.int .u64 (f 1:Nat),.int .u64 (f 2:Nat),.int .u64 (f 3:Nat),.int .u64 (f 4:Nat)]) (by simp [results,Tryz.results115,go_sem]) rfl ⟨rfl,(by repeat (first|(with_reducible refine Below.alloc' ?_ _)|(with_reducible refine Below.drew ?_)|(with_reducible refine below_drewN ?_ _)|((with_reducible refine Below.setCell ?_ ?_ _);rotate_left;(focus (first|exact Nat.le_refl _|(simp;done)|(simp;omega))))|(with_reducible assumption)|(with_reducible exact Below.refl _ _)))⟩
def whi (n:Nat):Nat:=n/18446744073709551616
def wlo (n:Nat):Nat:=n%18446744073709551616
theorem plus_num (n a b:Nat) (_ha:a<18446744073709551616) (_hb:b<18446744073709551616) (h:n+a*b<340282366920938463463374607431768211456):
  adds (mlo a b) (wlo n:Nat) 0=(wlo (n+a*b):Nat)∧adds (mhi a b) (whi n:Nat) (addc (mlo a b) (wlo n:Nat) 0)=(whi (n+a*b):Nat):=by
 unfold adds addc mlo mhi wlo whi
 rw [show (a:Int)*(b:Int)=((a*b:Nat):Int) from by simp]
 generalize a*b=p at*
 constructor
 ·omega
 ·omega
theorem mhi_wd (a b:Nat) (ha:a<18446744073709551616) (hb:b<18446744073709551616):Wd (mhi a b):=by
 have h5:a*b≤18446744073709551615*18446744073709551615:=Nat.mul_le_mul (by omega) (by omega)
 unfold mhi
 rw [show (a:Int)*(b:Int)=((a*b:Nat):Int) from by simp]
 generalize a*b=p at*
 exact ⟨by omega,by omega⟩
theorem wlo_wd (n:Nat):Wd (wlo n:Nat):=by unfold wlo;exact ⟨by omega,by omega⟩
theorem whi_wd {n:Nat} (h:n<340282366920938463463374607431768211456):Wd (whi n:Nat):=by unfold whi;exact ⟨by omega,by omega⟩
set_option maxHeartbeats 1000000 in
theorem feplus_any (n a b:Nat) (ha:a<18446744073709551616) (hb:b<18446744073709551616) (h:n+a*b<340282366920938463463374607431768211456) (w:World):
  Calls Tryz.prog 172 #[.agg #[.int .u64 (whi n:Nat),.int .u64 (wlo n:Nat)],.int .u64 a,.int .u64 b] w fun e w'=>e= .returned (.agg #[.int .u64 (whi (n+a*b):Nat),.int .u64 (wlo (n+a*b):Nat)])∧Below w.heap.size w w':=by
 have hn:=plus_num n a b ha hb h
 have h1:=fun w=>add64 (mlo_wd a b) (wlo_wd n) Cy.zero w
 have h2:=fun w=>add64 (mhi_wd a b ha hb) (whi_wd (n:=n) (by omega)) (addc_cy (mlo_wd a b) (wlo_wd n) Cy.zero) w
 rw [hn.1] at h1
 rw [hn.2] at h2
 have HM:=Lib.hid (fun w=>mul64_o (x:=a) (y:=b) ⟨by omega,by omega⟩ ⟨by omega,by omega⟩ w)
 clear hn h ha hb
 go_enter Tryz.func172,Tryz.ntmps172
 go_wp2_with (go_at_call 206;go_must (refine (HM.out _).mono ?_;rintro e w1 ⟨rfl,rfl⟩))
 exact bodyPost_ret (v:= .agg #[.int .u64 (whi (n+a*b):Nat),.int .u64 (wlo (n+a*b):Nat)]) (by simp [results,Tryz.results172,go_sem]) rfl ⟨rfl,(by repeat (first|(with_reducible refine Below.alloc' ?_ _)|(with_reducible refine Below.drew ?_)|(with_reducible refine below_drewN ?_ _)|((with_reducible refine Below.setCell ?_ ?_ _);rotate_left;(focus (first|exact Nat.le_refl _|(simp;done)|(simp;omega))))|(with_reducible assumption)|(with_reducible exact Below.refl _ _)))⟩
theorem ix5_0 (x0 x1 x2 x3 x4:Value) (w:World):(Instr.index 112 (.agg #[x0,x1,x2,x3,x4]) (.int .i64 0)).run Tryz.prog w= .ok x0 w:=by kernel_rfl
theorem ix5_1 (x0 x1 x2 x3 x4:Value) (w:World):(Instr.index 112 (.agg #[x0,x1,x2,x3,x4]) (.int .i64 1)).run Tryz.prog w= .ok x1 w:=by kernel_rfl
theorem ix5_2 (x0 x1 x2 x3 x4:Value) (w:World):(Instr.index 112 (.agg #[x0,x1,x2,x3,x4]) (.int .i64 2)).run Tryz.prog w= .ok x2 w:=by kernel_rfl
theorem ix5_3 (x0 x1 x2 x3 x4:Value) (w:World):(Instr.index 112 (.agg #[x0,x1,x2,x3,x4]) (.int .i64 3)).run Tryz.prog w= .ok x3 w:=by kernel_rfl
theorem ix5_4 (x0 x1 x2 x3 x4:Value) (w:World):(Instr.index 112 (.agg #[x0,x1,x2,x3,x4]) (.int .i64 4)).run Tryz.prog w= .ok x4 w:=by kernel_rfl
theorem ix5 (f:Nat→Nat) (k:Nat) (hk:k<5) (w:World):(Instr.index 112 (.agg #[.int .u64 (f 0:Nat),.int .u64 (f 1:Nat),.int .u64 (f 2:Nat),.int .u64 (f 3:Nat),.int .u64 (f 4:Nat)]) (.int .i64 (k:Nat))).run Tryz.prog w= .ok (.int .u64 (f k:Nat)) w:=by
 have h:k=0∨k=1∨k=2∨k=3∨k=4:=by omega
 rcases h with rfl|rfl|rfl|rfl|rfl
 ·exact ix5_0 _ _ _ _ _ _
 ·exact ix5_1 _ _ _ _ _ _
 ·exact ix5_2 _ _ _ _ _ _
 ·exact ix5_3 _ _ _ _ _ _
 ·exact ix5_4 _ _ _ _ _ _
def colStep (f g:Nat→Nat) (i j:Nat) (R:Nat→Nat) (k:Nat):Nat:=
 if k=(i+j)%5 then R k+(if 5≤i+j then f i*19 else f i)*g j else R k
def colJ (f g:Nat→Nat) (i:Nat) (R:Nat→Nat):Nat→Nat→Nat
 |0=>R
 |j+1=>colStep f g i j (colJ f g i R j)
def colI (f g:Nat→Nat):Nat→Nat→Nat
 |0=>fun _=>0
 |i+1=>colJ f g i (colI f g i) 5
def col (f g:Nat→Nat) (i j:Nat):Nat→Nat:=colJ f g i (colI f g i) j
def colV (R:Nat→Nat) (q:Nat):Value:=if q%2=0 then .int .u64 (whi (R (q/2)):Nat) else .int .u64 (wlo (R (q/2)):Nat)
theorem col_succ (f g:Nat→Nat) (i j:Nat):col f g i (j+1)=colStep f g i j (col f g i j):=rfl
theorem colStep_le {f g R:Nat→Nat} {i j B:Nat} (hf:Lim f) (hg:Lim g) (hi:i<5) (hj:j<5) (h:∀k,R k≤B) (k:Nat):colStep f g i j R k≤B+96342400000000000000000000000000:=by
 have h1:=hf.lt i hi
 have h2:=hg.lt j hj
 have h3:(if 5≤i+j then f i*19 else f i)≤42784196460020092:=by split<;>omega
 have h4:(if 5≤i+j then f i*19 else f i)*g j≤96342400000000000000000000000000:=Nat.le_trans (Nat.mul_le_mul h3 (show g j≤2251799813685268 by omega)) (by decide)
 have:=h k
 unfold colStep
 generalize (if 5≤i+j then f i*19 else f i)*g j=z at*
 split<;>omega
theorem colJ_le {f g R:Nat→Nat} {i B:Nat} (hf:Lim f) (hg:Lim g) (hi:i<5) (h:∀k,R k≤B):∀j,j≤5→∀k,colJ f g i R j k≤B+j*96342400000000000000000000000000
 |0,_,k=>by have:=h k;simpa [colJ] using this
 |j+1,hj,k=>by
  have:=colStep_le (j:=j) hf hg hi (by omega) (colJ_le hf hg hi h j (by omega)) k
  show colStep f g i j (colJ f g i R j) k≤_
  omega
theorem colI_le {f g:Nat→Nat} (hf:Lim f) (hg:Lim g):∀i,i≤5→∀k,colI f g i k≤5*i*96342400000000000000000000000000
 |0,_,k=>by simp [colI]
 |i+1,hi,k=>by
  have:=colJ_le hf hg (show i<5 by omega) (colI_le hf hg i (by omega)) 5 (by omega) k
  show colJ f g i (colI f g i) 5 k≤_
  omega
theorem col_le {f g:Nat→Nat} (hf:Lim f) (hg:Lim g) (i j:Nat) (hi:i<5) (hj:j≤5) (k:Nat):col f g i j k≤25*96342400000000000000000000000000:=by
 have:=colJ_le hf hg hi (colI_le hf hg i (by omega)) j hj k
 unfold col
 have h2:5*i*96342400000000000000000000000000≤20*96342400000000000000000000000000:=Nat.mul_le_mul_right _ (by omega)
 have h3:j*96342400000000000000000000000000≤5*96342400000000000000000000000000:=Nat.mul_le_mul_right _ (by omega)
 omega
theorem colV_hi (R:Nat→Nat) (m:Nat):colV R (m*2)= .int .u64 (whi (R m):Nat):=by
 unfold colV;rw [if_pos (by omega),show m*2/2=m from by omega]
theorem colV_lo (R:Nat→Nat) (m:Nat):colV R (m*2+1)= .int .u64 (wlo (R m):Nat):=by
 unfold colV;rw [if_neg (by omega),show (m*2+1)/2=m from by omega]
theorem colV_set (R:Nat→Nat) (m v:Nat):((row 10 (colV R)).set (m*2) (.int .u64 (whi v:Nat))).set (m*2+1) (.int .u64 (wlo v:Nat))=row 10 (colV fun k=>if k=m then v else R k):=by
 rw [row_set (g:=fun q=>if q=m*2 then .int .u64 (whi v:Nat) else colV R q) (m*2) _ (by simp) (fun i _ h=>by simp [h])]
 refine row_set _ _ ?_ (fun i _ h=> ?_)
 ·rw [colV_lo,if_pos rfl]
 ·by_cases h1:i=m*2
  ·subst h1;rw [if_pos rfl,colV_hi,if_pos rfl]
  ·rw [if_neg h1]
   unfold colV
   simp only [if_neg (show ¬i/2=m by omega)]
theorem col_big (f g:Nat→Nat) (i j:Nat) (h:5≤i+j) (hi:i<5) (hj:j<5):col f g i (j+1)=fun k=>if k=i+j-5 then col f g i j (i+j-5)+f i*19*g j else col f g i j k:=by
 rw [col_succ];funext k;unfold colStep
 rw [show (i+j)%5=i+j-5 from by omega]
 by_cases hk:k=i+j-5
 ·subst hk;rw [if_pos rfl,if_pos rfl,if_pos h]
 ·rw [if_neg hk,if_neg hk]
theorem col_low (f g:Nat→Nat) (i j:Nat) (h:¬5≤i+j):col f g i (j+1)=fun k=>if k=i+j then col f g i j (i+j)+f i*g j else col f g i j k:=by
 rw [col_succ];funext k;unfold colStep
 rw [show (i+j)%5=i+j from by omega]
 by_cases hk:k=i+j
 ·subst hk;rw [if_pos rfl,if_pos rfl,if_neg h]
 ·rw [if_neg hk,if_neg hk]
theorem row10 (f:Nat→Value):row 10 f= [f 0,f 1,f 2,f 3,f 4,f 5,f 6,f 7,f 8,f 9]:=rfl
theorem colV_0 (R:Nat→Nat):colV R 0= .int .u64 (whi (R 0):Nat):=rfl
theorem colV_1 (R:Nat→Nat):colV R 1= .int .u64 (wlo (R 0):Nat):=rfl
theorem colV_2 (R:Nat→Nat):colV R 2= .int .u64 (whi (R 1):Nat):=rfl
theorem colV_3 (R:Nat→Nat):colV R 3= .int .u64 (wlo (R 1):Nat):=rfl
theorem colV_4 (R:Nat→Nat):colV R 4= .int .u64 (whi (R 2):Nat):=rfl
theorem colV_5 (R:Nat→Nat):colV R 5= .int .u64 (wlo (R 2):Nat):=rfl
theorem colV_6 (R:Nat→Nat):colV R 6= .int .u64 (whi (R 3):Nat):=rfl
theorem colV_7 (R:Nat→Nat):colV R 7= .int .u64 (wlo (R 3):Nat):=rfl
theorem colV_8 (R:Nat→Nat):colV R 8= .int .u64 (whi (R 4):Nat):=rfl
theorem colV_9 (R:Nat→Nat):colV R 9= .int .u64 (wlo (R 4):Nat):=rfl
theorem col_val (f g:Nat→Nat):val (col f g 5 0)%Pq=val f*val g%Pq:=by
 have e:val f*val g=(f 0*g 0+2251799813685248*((f 0*g 1+f 1*g 0)+2251799813685248*((f 0*g 2+f 1*g 1+f 2*g 0)+2251799813685248*((f 0*g 3+f 1*g 2+f 2*g 1+f 3*g 0)+2251799813685248*(f 0*g 4+f 1*g 3+f 2*g 2+f 3*g 1+f 4*g 0)))))+
   57896044618658097711785492504343953926634992332820282019728792003956564819968*((f 1*g 4+f 2*g 3+f 3*g 2+f 4*g 1)+2251799813685248*((f 2*g 4+f 3*g 3+f 4*g 2)+2251799813685248*((f 3*g 4+f 4*g 3)+2251799813685248*(f 4*g 4)))):=by
  unfold val;grind
 rw [e,add_mul_mod19]
 congr 1
 simp [val,col,colJ,colI,colStep]
 grind
theorem ixw_0 (x0 x1 x2 x3 x4 x5 x6 x7 x8 x9:Value) (w:World):(Instr.index 218 (.agg #[x0,x1,x2,x3,x4,x5,x6,x7,x8,x9]) (.int .i64 0)).run Tryz.prog w= .ok (.agg #[x0,x1]) w:=by kernel_rfl
theorem ixw_1 (x0 x1 x2 x3 x4 x5 x6 x7 x8 x9:Value) (w:World):(Instr.index 218 (.agg #[x0,x1,x2,x3,x4,x5,x6,x7,x8,x9]) (.int .i64 1)).run Tryz.prog w= .ok (.agg #[x2,x3]) w:=by kernel_rfl
theorem ixw_2 (x0 x1 x2 x3 x4 x5 x6 x7 x8 x9:Value) (w:World):(Instr.index 218 (.agg #[x0,x1,x2,x3,x4,x5,x6,x7,x8,x9]) (.int .i64 2)).run Tryz.prog w= .ok (.agg #[x4,x5]) w:=by kernel_rfl
theorem ixw_3 (x0 x1 x2 x3 x4 x5 x6 x7 x8 x9:Value) (w:World):(Instr.index 218 (.agg #[x0,x1,x2,x3,x4,x5,x6,x7,x8,x9]) (.int .i64 3)).run Tryz.prog w= .ok (.agg #[x6,x7]) w:=by kernel_rfl
theorem ixw_4 (x0 x1 x2 x3 x4 x5 x6 x7 x8 x9:Value) (w:World):(Instr.index 218 (.agg #[x0,x1,x2,x3,x4,x5,x6,x7,x8,x9]) (.int .i64 4)).run Tryz.prog w= .ok (.agg #[x8,x9]) w:=by kernel_rfl
theorem ixw (R:Nat→Nat) (k:Nat) (hk:k<5) (w:World):(Instr.index 218 (.agg #[.int .u64 (whi (R 0):Nat),.int .u64 (wlo (R 0):Nat),.int .u64 (whi (R 1):Nat),.int .u64 (wlo (R 1):Nat),.int .u64 (whi (R 2):Nat),.int .u64 (wlo (R 2):Nat),.int .u64 (whi (R 3):Nat),.int .u64 (wlo (R 3):Nat),.int .u64 (whi (R 4):Nat),.int .u64 (wlo (R 4):Nat)]) (.int .i64 (k:Nat))).run Tryz.prog w= .ok (.agg #[.int .u64 (whi (R k):Nat),.int .u64 (wlo (R k):Nat)]) w:=by
 have h:k=0∨k=1∨k=2∨k=3∨k=4:=by omega
 rcases h with rfl|rfl|rfl|rfl|rfl
 ·exact ixw_0 _ _ _ _ _ _ _ _ _ _ _
 ·exact ixw_1 _ _ _ _ _ _ _ _ _ _ _
 ·exact ixw_2 _ _ _ _ _ _ _ _ _ _ _
 ·exact ixw_3 _ _ _ _ _ _ _ _ _ _ _
 ·exact ixw_4 _ _ _ _ _ _ _ _ _ _ _
theorem lo51 (n:Nat):bits BinOp.and IntKind.u64 (wlo n:Nat) 2251799813685247=((n%2251799813685248:Nat):Int):=by
 rw [and51 _ (by unfold wlo;omega)];unfold wlo;omega
theorem hi51 (n:Nat) (h:n<41538374868278621028243970633760768):bits BinOp.or IntKind.u64 (IntKind.u64.wrap ((whi n:Nat)*8192:Int)) ((wlo n:Nat)/2251799813685248:Int)=((n/2251799813685248:Nat):Int):=by
 have h1:whi n<2251799813685248:=by unfold whi;omega
 have h2:wlo n/2251799813685248<2^13:=by unfold wlo;omega
 rw [wrapU,show ((whi n:Nat)*8192:Int)%18446744073709551616=((whi n*8192:Nat):Int) from by omega,show ((wlo n:Nat):Int)/2251799813685248=((wlo n/2251799813685248:Nat):Int) from by omega,u64_or_nat _ _ (by omega) (by omega)]
 have h3:=Nat.shiftLeft_add_eq_or_of_lt h2 (whi n)
 rw [Nat.shiftLeft_eq] at h3
 rw [show whi n*8192=whi n*2^13 from rfl,←h3]
 unfold whi wlo;omega
theorem feplus_one (n a:Nat) (ha:a<18446744073709551616) (h:n+a<340282366920938463463374607431768211456) (w:World):
  Calls Tryz.prog 172 #[.agg #[.int .u64 (whi n:Nat),.int .u64 (wlo n:Nat)],.int .u64 a,.int .u64 1] w fun e w'=>e= .returned (.agg #[.int .u64 (whi (n+a):Nat),.int .u64 (wlo (n+a):Nat)])∧Below w.heap.size w w':=by
 have:=feplus_any n a 1 ha (by omega) (by omega) w
 rw [Nat.mul_one] at this;exact this
theorem feplus_low (n a b:Nat) (hn:n<18446744073709551616) (ha:a<18446744073709551616) (hb:b<18446744073709551616) (h:n+a*b<340282366920938463463374607431768211456) (w:World):
  Calls Tryz.prog 172 #[.agg #[.int .u64 0,.int .u64 n],.int .u64 a,.int .u64 b] w fun e w'=>e= .returned (.agg #[.int .u64 (whi (n+a*b):Nat),.int .u64 (wlo (n+a*b):Nat)])∧Below w.heap.size w w':=by
 have:=feplus_any n a b ha hb h w
 rw [show whi n=0 from Nat.div_eq_of_lt hn,show wlo n=n from Nat.mod_eq_of_lt hn] at this;exact this
def mulF (R:Nat→Nat) (i:Nat):Nat:=
 if i=0 then (pas R 0 0+cr R 0 5*19)%2251799813685248 else if i=1 then pas R 0 1+(pas R 0 0+cr R 0 5*19)/2251799813685248 else pas R 0 i
theorem mulF_val (R:Nat→Nat):val (mulF R)%Pq=val R%Pq:=by
 have h:=pas_val R 0
 rw [Nat.add_zero] at h
 rw [←h,add_mul_mod19]
 congr 1
 simp only [val,mulF,if_true,if_neg (show ¬(1=0) by omega),if_neg (show ¬(2=0) by omega),if_neg (show ¬(3=0) by omega),if_neg (show ¬(4=0) by omega),if_neg (show ¬(2=1) by omega),if_neg (show ¬(3=1) by omega),if_neg (show ¬(4=1) by omega)]
 omega
theorem crR (R:Nat→Nat) (h:∀k,R k≤25*96342400000000000000000000000000):∀k,cr R 0 k≤1100000000000000000
 |0=>by simp [cr]
 |k+1=>by have h1:=crR R h k;have h2:=h k;rw [cr];omega
def lowV (R:Nat→Nat) (k i:Nat):Value:=if i<k then .int .u64 (pas R 0 i:Nat) else .int .u64 0
theorem lowV_set (R:Nat→Nat) (k:Nat):(row 5 (lowV R k)).set k (.int .u64 (pas R 0 k:Nat))=row 5 (lowV R (k+1)):=
 row_set k _ (by unfold lowV;rw [if_pos (by omega)]) (fun i _ h=>by unfold lowV;by_cases h1:i<k;rw [if_pos h1,if_pos (by omega)];rw [if_neg h1,if_neg (by omega)])
set_option maxHeartbeats 2000000 in
theorem femul_any {f g:Nat→Nat} {x y:Nat} (hf:FE f x) (hg:FE g y) (w:World):
  Calls Tryz.prog 107 #[.agg #[.int .u64 (f 0:Nat),.int .u64 (f 1:Nat),.int .u64 (f 2:Nat),.int .u64 (f 3:Nat),.int .u64 (f 4:Nat)],.agg #[.int .u64 (g 0:Nat),.int .u64 (g 1:Nat),.int .u64 (g 2:Nat),.int .u64 (g 3:Nat),.int .u64 (g 4:Nat)]] w fun e w'=>∃h,e= .returned (.agg #[.int .u64 (h 0:Nat),.int .u64 (h 1:Nat),.int .u64 (h 2:Nat),.int .u64 (h 3:Nat),.int .u64 (h 4:Nat)])∧FE h (x*y%Pq)∧Below w.heap.size w w':=by
 go_enter Tryz.func107,Tryz.ntmps107
 go_wp2
 refine wp_gen (fun W=>Blk W (w.heap.size+1) (row 5 (fV g)) 114∧Blk W (w.heap.size+1+1+1) (row 10 (colV (col f g 0 0))) 218∧Blk W (w.heap.size+1+1) (row 5 (fV fun _=>0)) 114∧Below w.heap.size w W) ?_ (fun W hW=> ?_)
 ·exact ⟨((Blk.new' (by simp)).alloc _).alloc _,(by rw [show row 10 (colV (col f g 0 0))= [.int .u64 0,.int .u64 0,.int .u64 0,.int .u64 0,.int .u64 0,.int .u64 0,.int .u64 0,.int .u64 0,.int .u64 0,.int .u64 0] from by simp [row,List.range,List.range.loop,colV,col,colJ,colI,whi,wlo]];exact Blk.new' (by simp)),(by rw [show row 5 (fV fun _=>0)= [.int .u64 0,.int .u64 0,.int .u64 0,.int .u64 0,.int .u64 0] from rfl];exact (Blk.new' (by simp)).alloc _),(by repeat (first|(with_reducible refine Below.alloc' ?_ _)|(with_reducible refine Below.drew ?_)|(with_reducible refine below_drewN ?_ _)|((with_reducible refine Below.setCell ?_ ?_ _);rotate_left;(focus (first|exact Nat.le_refl _|(simp;done)|(simp;omega))))|(with_reducible assumption)|(with_reducible exact Below.refl _ _)))⟩
 obtain ⟨hb1,hw1,ho1,hbl1⟩:=hW
 go_loopw [17] (fun i wr=>∃k:Nat,k≤5∧i= .int .i64 k∧Blk wr (w.heap.size+1) (row 5 (fV g)) 114∧Blk wr (w.heap.size+1+1+1) (row 10 (colV (col f g k 0))) 218∧Blk wr (w.heap.size+1+1) (row 5 (fV fun _=>0)) 114∧Below w.heap.size w wr) (fun i _=>5-(intOf i).toNat)
 case atStart=>exact ⟨0,by omega,rfl,hb1,hw1,ho1,hbl1⟩
 case round=>
  clear hb1 hw1 ho1 hbl1 W
  obtain ⟨i,hi,rfl,hbB,hwB,hoB,hbl⟩:=hrel
  obtain ⟨wo,hwo⟩:∃wo:World,wo=wr:=⟨_,rfl⟩
  by_cases hlt:i<5
  ·have hx:=ix5 f i hlt
   have hdd:decide ((i:Int)<5)=true:=by simp;omega
   have hbc:=hbB.cell
   rw [row5] at hbc
   unfold fV at hbc
   go_wp2
   clear hx hbc
   go_loopw [23] (fun j wr=>∃k:Nat,k≤5∧j= .int .i64 k∧Blk wr (w.heap.size+1) (row 5 (fV g)) 114∧Blk wr (w.heap.size+1+1+1) (row 10 (colV (col f g i k))) 218∧Blk wr (w.heap.size+1+1) (row 5 (fV fun _=>0)) 114∧Below w.heap.size w wr) (fun j _=>5-(intOf j).toNat)
   case atStart=>exact ⟨0,by omega,rfl,hbB,hwB,hoB,hbl⟩
   case round=>
    subst hwo
    clear hbB hwB hoB hbl
    obtain ⟨j,hj,rfl,hbB,hwB,hoB,hbl⟩:=hrel
    by_cases hlt':j<5
    ·have hy:=ix5 g j hlt'
     by_cases h5:5≤i+j
     ·have d5:decide ((5:Int)≤(i:Int)+(j:Int))=true:=by simp;omega
      have hm:i+j-5<5:=by omega
      have c1:wr.cell? ⟨w.heap.size+1+1+1,(i+j-5)*2,none⟩=some (.int .u64 (whi (col f g i j (i+j-5)):Nat)):=by rw [hwB.at (by omega),colV_hi]
      have c2:wr.cell? ⟨w.heap.size+1+1+1,(i+j-5)*2+1,none⟩=some (.int .u64 (wlo (col f g i j (i+j-5)):Nat)):=by rw [hwB.at (by omega),colV_lo]
      have h19:IntKind.u64.wrap ((f i:Nat)*19:Int)=((f i*19:Nat):Int):=by have:=hf.lim.lt i hlt;rw [wrapU];omega
      have hP:=fun W=>feplus_any (col f g i j (i+j-5)) (f i*19) (g j) (by have:=hf.lim.lt i hlt;omega) (by have:=hg.lim.lt j hlt';omega) (by
       have h1:=col_le hf.lim hg.lim i (j+1) (by omega) (by omega) (i+j-5)
       rw [col_big f g i j h5 hlt hlt'] at h1
       simp only [if_true] at h1
       omega) W
      have HP:=Lib.hid hP
      have HC:=Lib.hid (col_big f g i j h5 hlt hlt')
      have HB:=Lib.hid hbB;have HW:=Lib.hid hwB;have HO:=Lib.hid hoB
      clear hP hbB hwB hoB
      generalize hn:col f g i j (i+j-5)+f i*19*g j=n at*
      clear hn
      generalize f i*19=a19 at*
      go_wp2_with (go_at_call 172;go_must (refine (HP.out _).mono ?_;rintro e w1 ⟨rfl,hb⟩;have hB1:=HB.out.below' hb;have hW1:=HW.out.below' hb;have hO1:=HO.out.below' hb;have hbl1:=Below.call hbl hb;have e1:=hW1.cell ((i+j-5)*2);have e2:=hW1.cell ((i+j-5)*2+1);rw [row_get (by omega)] at e1 e2;have ef:=hW1.frozen;clear hb hbl c1 c2))
      go_roundw
      case rel=>exact ⟨j+1,by omega,by go_num,(hB1.other _ (by simp;omega) _).other _ (by simp;omega) _,by rw [HC.out,←colV_set];exact (hW1.set _ _).set _ _,(hO1.other _ (by simp) _).other _ (by simp) _,(by repeat (first|(with_reducible refine Below.alloc' ?_ _)|(with_reducible refine Below.drew ?_)|(with_reducible refine below_drewN ?_ _)|((with_reducible refine Below.setCell ?_ ?_ _);rotate_left;(focus (first|exact Nat.le_refl _|(simp;done)|(simp;omega))))|(with_reducible assumption)|(with_reducible exact Below.refl _ _)))⟩
      case measure=>simp [intOf];omega
     ·have d5:decide ((5:Int)≤(i:Int)+(j:Int))=false:=by simp;omega
      have hm:i+j<5:=by omega
      have c1:wr.cell? ⟨w.heap.size+1+1+1,(i+j)*2,none⟩=some (.int .u64 (whi (col f g i j (i+j)):Nat)):=by rw [hwB.at (by omega),colV_hi]
      have c2:wr.cell? ⟨w.heap.size+1+1+1,(i+j)*2+1,none⟩=some (.int .u64 (wlo (col f g i j (i+j)):Nat)):=by rw [hwB.at (by omega),colV_lo]
      have hP:=fun W=>feplus_any (col f g i j (i+j)) (f i) (g j) (by have:=hf.lim.lt i hlt;omega) (by have:=hg.lim.lt j hlt';omega) (by
       have h1:=col_le hf.lim hg.lim i (j+1) (by omega) (by omega) (i+j)
       rw [col_low f g i j h5] at h1
       simp only [if_true] at h1
       omega) W
      have HP:=Lib.hid hP
      have HC:=Lib.hid (col_low f g i j h5)
      have HB:=Lib.hid hbB;have HW:=Lib.hid hwB;have HO:=Lib.hid hoB
      clear hP hbB hwB hoB
      generalize hn:col f g i j (i+j)+f i*g j=n at*
      clear hn
      go_wp2_with (go_at_call 172;go_must (refine (HP.out _).mono ?_;rintro e w1 ⟨rfl,hb⟩;have hB1:=HB.out.below' hb;have hW1:=HW.out.below' hb;have hO1:=HO.out.below' hb;have hbl1:=Below.call hbl hb;have e1:=hW1.cell ((i+j)*2);have e2:=hW1.cell ((i+j)*2+1);rw [row_get (by omega)] at e1 e2;have ef:=hW1.frozen;clear hb hbl c1 c2))
      go_roundw
      case rel=>exact ⟨j+1,by omega,by go_num,(hB1.other _ (by simp;omega) _).other _ (by simp;omega) _,by rw [HC.out,←colV_set];exact (hW1.set _ _).set _ _,(hO1.other _ (by simp) _).other _ (by simp) _,(by repeat (first|(with_reducible refine Below.alloc' ?_ _)|(with_reducible refine Below.drew ?_)|(with_reducible refine below_drewN ?_ _)|((with_reducible refine Below.setCell ?_ ?_ _);rotate_left;(focus (first|exact Nat.le_refl _|(simp;done)|(simp;omega))))|(with_reducible assumption)|(with_reducible exact Below.refl _ _)))⟩
      case measure=>simp [intOf];omega
    ·obtain rfl:j=5:=by omega
     clear hlt' hj
     go_wp2
     go_roundw
     case rel=>exact ⟨i+1,by omega,by go_num,hbB,hwB,hoB,hbl⟩
     case measure=>simp [intOf];omega
  ·obtain rfl:i=5:=by omega
   clear hwo hlt hi hbB
   have hR:∀k,col f g 5 0 k≤25*96342400000000000000000000000000:=col_le hf.lim hg.lim 4 5 (by omega) (by omega)
   have HV:=Lib.hid (col_val f g)
   have HF:=Lib.hid hf;have HG:=Lib.hid hg
   clear hf hg
   generalize col f g 5 0=R at*
   rw [row10] at hwB
   rw [row5] at hoB
   unfold fV at hoB
   simp only [colV_0,colV_1,colV_2,colV_3,colV_4,colV_5,colV_6,colV_7,colV_8,colV_9] at hwB
   have hwc:=hwB.cell
   have hwlt:=hwB.lt
   have HR:=Lib.hid hR
   have HO:=Lib.hid hoB
   clear hR hwB hoB
   go_wp2
   clear hwc
   obtain ⟨wo,rfl⟩:∃wo:World,wo=wr:=⟨_,rfl⟩
   have hB0:Below w.heap.size w (wo.alloc (.cells #[.int .u64 0,.int .u64 0,.int .u64 0,.int .u64 0,.int .u64 0] 112)):=(by repeat (first|(with_reducible refine Below.alloc' ?_ _)|(with_reducible refine Below.drew ?_)|(with_reducible refine below_drewN ?_ _)|((with_reducible refine Below.setCell ?_ ?_ _);rotate_left;(focus (first|exact Nat.le_refl _|(simp;done)|(simp;omega))))|(with_reducible assumption)|(with_reducible exact Below.refl _ _)))
   have hL0:Blk (wo.alloc (.cells #[.int .u64 0,.int .u64 0,.int .u64 0,.int .u64 0,.int .u64 0] 112)) wo.heap.size (row 5 (lowV R 0)) 112:=Blk.new wo _ _
   have hO0:=(HO.out).alloc (.cells #[.int .u64 0,.int .u64 0,.int .u64 0,.int .u64 0,.int .u64 0] 112)
   have HO1:=Lib.hid hO0
   have hwl:w.heap.size+1+1<wo.heap.size:=HO.out.lt
   have hwz:w.heap.size≤wo.heap.size:=by omega
   clear HO hO0 hbl hwlt
   go_loopw [11,61] (fun c i wx=>∃k:Nat,k≤5∧i= .int .i64 k∧c= .int .u64 (cr R 0 k:Nat)∧Blk wx wo.heap.size (row 5 (lowV R k)) 112∧Hid (Blk wx (w.heap.size+1+1) [.int .u64 0,.int .u64 0,.int .u64 0,.int .u64 0,.int .u64 0] 114)∧Below w.heap.size w wx) (fun _ i _=>5-(intOf i).toNat)
   case atStart=>exact ⟨0,by omega,rfl,rfl,hL0,HO1,hB0⟩
   case round=>
    clear hL0 HO1 hB0
    obtain ⟨k,hk,rfl,rfl,hL,HO,hbel⟩:=hrel
    by_cases hlt:k<5
    ·have hx:=ixw R k hlt
     have hcr:=crR R HR.out k
     have hRk:=HR.out k
     have hP:=fun W=>feplus_one (R k) (cr R 0 k) (by omega) (by omega) W
     have hlo:bits BinOp.and IntKind.u64 (wlo (R k+cr R 0 k):Nat) 2251799813685247=((pas R 0 k:Nat):Int):=lo51 _
     have hhi:bits BinOp.or IntKind.u64 (IntKind.u64.wrap ((whi (R k+cr R 0 k):Nat)*8192:Int)) ((wlo (R k+cr R 0 k):Nat)/2251799813685248:Int)=((cr R 0 (k+1):Nat):Int):=hi51 _ (by omega)
     have HP:=Lib.hid hP
     have HL:=Lib.hid hL
     have hLs:=hL.lt
     have hOs:=HO.out.lt
     clear hcr hRk hP hL
     generalize hn:R k+cr R 0 k=n at*
     clear hn
     go_wp2_with (go_at_call 172;go_must (refine (HP.out _).mono ?_;rintro e w1 ⟨rfl,hb⟩;have hV1:=(Blk.new wr #[.int .u64 (whi (R k):Nat),.int .u64 (wlo (R k):Nat)] 217).below' hb;have hL1:=(HL.out.alloc _).below' hb;have hO1:=(HO.out.alloc _).below' hb;have hbl1:=Below.call (show Below w.heap.size w _ from (by repeat (first|(with_reducible refine Below.alloc' ?_ _)|(with_reducible refine Below.drew ?_)|(with_reducible refine below_drewN ?_ _)|((with_reducible refine Below.setCell ?_ ?_ _);rotate_left;(focus (first|exact Nat.le_refl _|(simp;done)|(simp;omega))))|(with_reducible assumption)|(with_reducible exact Below.refl _ _)))) hb;have vc:=hV1.cell;have vf:=hV1.frozen;have lc:=hL1.at hlt;have lf:=hL1.frozen k;rw [show lowV R k k= .int .u64 0 from if_neg (by omega)] at lc;have hne:¬wo.heap.size=wr.heap.size:=(by omega);have hne2:¬wr.heap.size=wo.heap.size:=(by omega);have HL1:=Lib.hid hL1;have HO1:=Lib.hid hO1;clear hb hV1 hL1 hO1 HL HO))
     go_roundw
     case rel=>exact ⟨k+1,by omega,by go_num,rfl,by have:=((HL1.out.other ⟨wr.heap.size,0,none⟩ (by simp;omega) (.int .u64 (whi n:Nat))).other ⟨wr.heap.size,1,none⟩ (by simp;omega) (.int .u64 (wlo n:Nat))).set k (.int .u64 (pas R 0 k:Nat));rw [lowV_set] at this;exact this,((HO1.out.other _ (by simp;omega) _).other _ (by simp;omega) _).other _ (by simp;omega) _,(by repeat (first|(with_reducible refine Below.alloc' ?_ _)|(with_reducible refine Below.drew ?_)|(with_reducible refine below_drewN ?_ _)|((with_reducible refine Below.setCell ?_ ?_ _);rotate_left;(focus (first|exact Nat.le_refl _|(simp;done)|(simp;omega))))|(with_reducible assumption)|(with_reducible exact Below.refl _ _)))⟩
     case measure=>simp [intOf];omega
    ·obtain rfl:k=5:=by omega
     have hcr:=crR R HR.out 5
     have hL5:row 5 (lowV R 5)= [.int .u64 (pas R 0 0:Nat),.int .u64 (pas R 0 1:Nat),.int .u64 (pas R 0 2:Nat),.int .u64 (pas R 0 3:Nat),.int .u64 (pas R 0 4:Nat)]:=rfl
     rw [hL5] at hL
     clear hL5
     have hp:=pas_lt R 0
     have HP0:=Lib.hid (fun W=>feplus_low (pas R 0 0) (cr R 0 5) 19 (by have:=hp 0;omega) (by omega) (by omega) (by have:=hp 0;omega) W)
     have hlo:bits BinOp.and IntKind.u64 (wlo (pas R 0 0+cr R 0 5*19):Nat) 2251799813685247=((mulF R 0:Nat):Int):=lo51 _
     have hhi:IntKind.u64.wrap ((pas R 0 1:Nat)+bits BinOp.or IntKind.u64 (IntKind.u64.wrap ((whi (pas R 0 0+cr R 0 5*19):Nat)*8192:Int)) ((wlo (pas R 0 0+cr R 0 5*19):Nat)/2251799813685248:Int):Int)=((mulF R 1:Nat):Int):=by
      rw [hi51 _ (by have:=hp 0;omega),wrapU]
      have:=hp 0;have:=hp 1
      show _=((pas R 0 1+(pas R 0 0+cr R 0 5*19)/2251799813685248:Nat):Int)
      omega
     have hbd:∀i,i<5→mulF R i≤9223372036854775808:=fun i _=>by
      have:=hp 0;have:=hp 1;have:=hp i
      unfold mulF;split
      ·omega
      ·split<;>omega
     have HQ:Hid (FE (cF (mulF R)) (x*y%Pq)):=Lib.hid ⟨cF_lim _ hbd,by rw [cF_val,mulF_val,HV.out,Nat.mul_mod,HF.out.num,HG.out.num]⟩
     have HBD:=Lib.hid hbd
     rw [show pas R 0 2=mulF R 2 from rfl,show pas R 0 3=mulF R 3 from rfl,show pas R 0 4=mulF R 4 from rfl] at hL
     have HL:=Lib.hid hL
     clear hcr hp hbd hL hk hlt
     have hLc:=HL.out.cell
     have hLf:=HL.out.frozen
     have hLl:=HL.out.lt
     have hOl:=HO.out.lt
     generalize pas R 0 0+cr R 0 5*19=n at*
     go_wp2_with (first             | (go_at_call 172; go_must (refine (HP0.out _).mono ?_; rintro e w1 ⟨rfl, hb⟩; have hL1 := HL.out.below' hb; have lc := hL1.cell; have lf := hL1.frozen; have hO1 := HO.out.below' hb; have hbl1 := Below.call hbel hb; have HL1 := Lib.hid hL1; have HO1 := Lib.hid hO1; have hlt1 := hL1.lt; have hot1 := hO1.lt; have hne : ¬ wo.heap.size = w1.heap.size := (by omega); have hne2 : ¬ w1.heap.size = wo.heap.size := (by omega); clear hb hL1 hO1 HL HO HP0))             | (go_at_call 173; go_must (refine (carried_any (mulF R) HBD.out _).mono ?_; rintro e w2 ⟨rfl, hb⟩; have hO2 := (((HO1.out.other ⟨wo.heap.size, 0, none⟩ (by simp; omega) (.int .u64 (mulF R 0 : Nat))).other ⟨wo.heap.size, 1, none⟩ (by simp; omega) (.int .u64 (mulF R 1 : Nat))).alloc _).below' hb; have oc := hO2.cell; have of := hO2.frozen; have hbl2 := Below.call (show Below w.heap.size w _ from (by repeat (first | (with_reducible refine Below.alloc' ?_ _) | (with_reducible refine Below.drew ?_) | (with_reducible refine below_drewN ?_ _) | ((with_reducible refine Below.setCell ?_ ?_ _); rotate_left; (focus (first | exact Nat.le_refl _ | (simp; done) | (simp; omega)))) | (with_reducible assumption) | (with_reducible exact Below.refl _ _)))) hb; clear hb hO2 lc lf)))
     exact bodyPost_ret (v:= .agg #[.int .u64 (cF (mulF R) 0:Nat),.int .u64 (cF (mulF R) 1:Nat),.int .u64 (cF (mulF R) 2:Nat),.int .u64 (cF (mulF R) 3:Nat),.int .u64 (cF (mulF R) 4:Nat)]) (by simp [results,Tryz.results107,go_sem,oc]) rfl ⟨_,rfl,HQ.out,(by repeat (first|(with_reducible refine Below.alloc' ?_ _)|(with_reducible refine Below.drew ?_)|(with_reducible refine below_drewN ?_ _)|((with_reducible refine Below.setCell ?_ ?_ _);rotate_left;(focus (first|exact Nat.le_refl _|(simp;done)|(simp;omega))))|(with_reducible assumption)|(with_reducible exact Below.refl _ _)))⟩
theorem pow_step (x N j:Nat):(x^(N/2^(j+1))%Pq)*(x^(N/2^(j+1))%Pq)%Pq=x^(2*(N/2^(j+1)))%Pq:=by
 rw [←Nat.mul_mod,←Nat.pow_add];congr 2;omega
theorem half_step (N j:Nat):N/2^j=2*(N/2^(j+1))+N/2^j%2:=by
 rw [Nat.pow_succ,←Nat.div_div_eq_div_mul];omega
theorem dig_test (N j:Nat) (x:Int) (hx:x=(lw N (j/64):Nat)):(bits BinOp.and IntKind.u64 (x/2^(j%64)) 1 ==1)=decide (N/2^j%2=1):=by
 subst hx
 have hq:lw N (j/64)/2^(j%64)<18446744073709551616:=Nat.lt_of_le_of_lt (Nat.div_le_self _ _) (lw_lt _ _)
 rw [show ((lw N (j/64):Nat):Int)/2^(j%64)=((lw N (j/64)/2^(j%64):Nat):Int) from by simp,show (1:Int)=((1:Nat):Int) from rfl,u64_and_nat _ 1 hq (by omega),Nat.and_one_is_mod,lw_bit]
 generalize N/2^j%2=b
 by_cases hb:b=1
 ·subst hb;simp
 ·rw [decide_eq_false hb,beq_eq_false_iff_ne];omega
theorem pow_odd (x N j:Nat) (h:N/2^j%2=1):x^(N/2^j)%Pq=(x^(N/2^(j+1))%Pq)*(x^(N/2^(j+1))%Pq)%Pq*x%Pq:=by
 have e:N/2^j=2*(N/2^(j+1))+1:=by have:=half_step N j;omega
 rw [pow_step,e,Nat.pow_succ]
 generalize x^(2*(N/2^(j+1)))=y
 rw [Nat.mul_mod (y%Pq),Nat.mod_mod,←Nat.mul_mod]
set_option maxHeartbeats 1000000 in
theorem power_any {f:Nat→Nat} {x:Nat} (N T:Nat) (hT1:T≤256) (hT2:256≤T) (hN:N<2^T) (hf:FE f x) (w:World):
  Calls Tryz.prog 174 #[.agg #[.int .u64 (f 0:Nat),.int .u64 (f 1:Nat),.int .u64 (f 2:Nat),.int .u64 (f 3:Nat),.int .u64 (f 4:Nat)],.agg #[.int .u64 (lw N 0:Nat),.int .u64 (lw N 1:Nat),.int .u64 (lw N 2:Nat),.int .u64 (lw N 3:Nat)]] w fun e w'=>∃h,e= .returned (.agg #[.int .u64 (h 0:Nat),.int .u64 (h 1:Nat),.int .u64 (h 2:Nat),.int .u64 (h 3:Nat),.int .u64 (h 4:Nat)])∧FE h (x^N%Pq)∧Below w.heap.size w w':=by
 have HN:=Lib.hid hN;have HF:=Lib.hid hf
 clear hN hf
 go_enter Tryz.func174,Tryz.ntmps174
 go_upto_region 2 with (go_at_call 106;go_must (refine (fesmall_any (n:=1) (by omega) _).mono ?_;rintro e w1 ⟨rfl,hb⟩))
 refine wp_gen (fun W=>Blk W w.heap.size [.int .u64 (f 0:Nat),.int .u64 (f 1:Nat),.int .u64 (f 2:Nat),.int .u64 (f 3:Nat),.int .u64 (f 4:Nat)] 114∧Blk W (w.heap.size+1) (row 4 (wV N)) 119∧Blk W (w.heap.size+1+1) [.int .u64 0,.int .u64 0,.int .u64 0,.int .u64 0,.int .u64 0] 114∧(∃h,FE h (x^(N/2^T)%Pq)∧Blk W w1.heap.size [.int .u64 (h 0:Nat),.int .u64 (h 1:Nat),.int .u64 (h 2:Nat),.int .u64 (h 3:Nat),.int .u64 (h 4:Nat)] 114)∧Below w.heap.size w W) ?_ (fun W hW=> ?_)
 ·refine ⟨(((Blk.new w _ _).alloc _).alloc _ |>.below' hb).alloc _,(((Blk.new' (by simp)).alloc _).below' hb).alloc _,((Blk.new' (by simp)).below' hb).alloc _,⟨smallF 1,?_,Blk.new w1 _ _⟩,Below.alloc' (Below.call (by repeat (first|(with_reducible refine Below.alloc' ?_ _)|(with_reducible refine Below.drew ?_)|(with_reducible refine below_drewN ?_ _)|((with_reducible refine Below.setCell ?_ ?_ _);rotate_left;(focus (first|exact Nat.le_refl _|(simp;done)|(simp;omega))))|(with_reducible assumption)|(with_reducible exact Below.refl _ _))) hb) _⟩
  rw [Nat.div_eq_of_lt HN.out,Nat.pow_zero]
  exact FE.small (by omega)
 have hs1:w.heap.size+1+1<w1.heap.size:=by have:=hb.size;simp at this;omega
 obtain ⟨hA,hK,hO,hH,hbel⟩:=hW
 clear hb
 generalize w1.heap.size=g at*
 clear w1
 go_wp2
 go_loopw [6] (fun i wr=>∃k:Nat,k≤256∧i= .int .i64 ((k:Int)-1)∧Blk wr w.heap.size [.int .u64 (f 0:Nat),.int .u64 (f 1:Nat),.int .u64 (f 2:Nat),.int .u64 (f 3:Nat),.int .u64 (f 4:Nat)] 114∧Blk wr (w.heap.size+1) (row 4 (wV N)) 119∧Blk wr (w.heap.size+1+1) [.int .u64 0,.int .u64 0,.int .u64 0,.int .u64 0,.int .u64 0] 114∧(∃h,FE h (x^(N/2^k)%Pq)∧Blk wr g [.int .u64 (h 0:Nat),.int .u64 (h 1:Nat),.int .u64 (h 2:Nat),.int .u64 (h 3:Nat),.int .u64 (h 4:Nat)] 114)∧Below w.heap.size w wr) (fun i _=>(intOf i+1).toNat)
 case atStart=>exact ⟨T,by omega,by congr 1;omega,hA,hK,hO,hH,hbel⟩
 case round=>
  clear hA hK hO hH hbel W
  obtain ⟨k,hk,rfl,hA,hK,hO,⟨h,hh,hH⟩,hbel⟩:=hrel
  by_cases hk0:k=0
  ·subst hk0
   rw [Nat.pow_zero,Nat.div_one] at hh
   have hHc:=hH.cell;have hOc:=hO.cell;have hOf:=hO.frozen
   rw [show (((0:Nat):Int)-1)= -1 from rfl]
   clear hA hK hO hH hk
   go_wp2
   exact bodyPost_ret (v:= .agg #[.int .u64 (h 0:Nat),.int .u64 (h 1:Nat),.int .u64 (h 2:Nat),.int .u64 (h 3:Nat),.int .u64 (h 4:Nat)]) (by simp [results,Tryz.results174,go_sem,hOc]) rfl ⟨_,rfl,hh,(by repeat (first|(with_reducible refine Below.alloc' ?_ _)|(with_reducible refine Below.drew ?_)|(with_reducible refine below_drewN ?_ _)|((with_reducible refine Below.setCell ?_ ?_ _);rotate_left;(focus (first|exact Nat.le_refl _|(simp;done)|(simp;omega))))|(with_reducible assumption)|(with_reducible exact Below.refl _ _)))⟩
  ·obtain ⟨j,rfl⟩:∃j,k=j+1:=⟨k-1,by omega⟩
   rw [show (((j+1:Nat):Int)-1)=(j:Int) from by omega]
   have hj4:j/64<4:=by omega
   obtain ⟨xi,hxi⟩:∃xi:Int,xi=(lw N (j/64):Nat):=⟨_,rfl⟩
   have HD:=Lib.hid (dig_test N j xi hxi)
   have hx0:0≤xi:=by omega
   have hx1:xi<18446744073709551616:=by have:=lw_lt N (j/64);omega
   have HK:=Lib.hid (show ∀W,Blk W (w.heap.size+1) (row 4 (wV N)) 119→W.cell? ⟨w.heap.size+1,j/64,none⟩=some (.int .u64 xi) from fun W h=>by rw [h.at hj4,hxi];rfl)
   have hHc:=hH.cell
   have HA0:=Lib.hid hA;have HK0:=Lib.hid hK;have HO0:=Lib.hid hO;have HH0:=Lib.hid hH
   clear hxi hA hK hO hH hk0
   by_cases hb:N/2^j%2=1
   ·have hd:(bits BinOp.and IntKind.u64 (xi/2^(j%64)) 1 ==1)=true:=by rw [HD.out,decide_eq_true hb]
    have HB:=Lib.hid hb
    clear hb
    go_wp2_with (go_at_call 107;first |((with_reducible refine (femul_any hh hh _).mono ?_);rintro e w1 ⟨h1,rfl,hh1,hb1⟩;have hH1:=HH0.out.below' hb1;have hHf:=hH1.frozen;have hHc1:=hH1.cell;have kc:=HK.out _ (HK0.out.below' hb1);have ac:=(HA0.out.below' hb1).cell;have hg1:¬g=w.heap.size+1:=(by omega);have hg2:¬g=w.heap.size:=(by omega);have hg3:¬w.heap.size+1=g:=(by omega);have hg4:¬w.heap.size=g:=(by omega);have HA1:=Lib.hid (HA0.out.below' hb1);have HK1:=Lib.hid (HK0.out.below' hb1);have HO1:=Lib.hid (HO0.out.below' hb1);have HH1:=Lib.hid hH1;have hbel1:=Below.call hbel hb1;clear hb1 hH1 hHc HA0 HK0 HO0 HH0 hbel)|((with_reducible refine (femul_any hh1 HF.out _).mono ?_);rintro e w2 ⟨h2,rfl,hh2,hb2⟩;have hH2:=(((((HH1.out.set 0 (.int .u64 (h1 0:Nat))).set 1 (.int .u64 (h1 1:Nat))).set 2 (.int .u64 (h1 2:Nat))).set 3 (.int .u64 (h1 3:Nat))).set 4 (.int .u64 (h1 4:Nat))).below' hb2;have hHf2:=hH2.frozen;have hHc2:=hH2.cell;have HH2:=Lib.hid hH2;have HA2:=Lib.hid ((((((HA1.out.other ⟨g,0,none⟩ (by simp;omega) (.int .u64 (h1 0:Nat))).other ⟨g,1,none⟩ (by simp;omega) (.int .u64 (h1 1:Nat))).other ⟨g,2,none⟩ (by simp;omega) (.int .u64 (h1 2:Nat))).other ⟨g,3,none⟩ (by simp;omega) (.int .u64 (h1 3:Nat))).other ⟨g,4,none⟩ (by simp;omega) (.int .u64 (h1 4:Nat))).below' hb2);have HK2:=Lib.hid ((((((HK1.out.other ⟨g,0,none⟩ (by simp;omega) (.int .u64 (h1 0:Nat))).other ⟨g,1,none⟩ (by simp;omega) (.int .u64 (h1 1:Nat))).other ⟨g,2,none⟩ (by simp;omega) (.int .u64 (h1 2:Nat))).other ⟨g,3,none⟩ (by simp;omega) (.int .u64 (h1 3:Nat))).other ⟨g,4,none⟩ (by simp;omega) (.int .u64 (h1 4:Nat))).below' hb2);have HO2:=Lib.hid ((((((HO1.out.other ⟨g,0,none⟩ (by simp;omega) (.int .u64 (h1 0:Nat))).other ⟨g,1,none⟩ (by simp;omega) (.int .u64 (h1 1:Nat))).other ⟨g,2,none⟩ (by simp;omega) (.int .u64 (h1 2:Nat))).other ⟨g,3,none⟩ (by simp;omega) (.int .u64 (h1 3:Nat))).other ⟨g,4,none⟩ (by simp;omega) (.int .u64 (h1 4:Nat))).below' hb2);have hbel2:=Below.call (show Below w.heap.size w _ from (by repeat (first|(with_reducible refine Below.alloc' ?_ _)|(with_reducible refine Below.drew ?_)|(with_reducible refine below_drewN ?_ _)|((with_reducible refine Below.setCell ?_ ?_ _);rotate_left;(focus (first|exact Nat.le_refl _|(simp;done)|(simp;omega))))|(with_reducible assumption)|(with_reducible exact Below.refl _ _)))) hb2;clear hb2 hH2 hHc1 hHf kc ac HA1 HK1 HO1 HH1 hbel1))
    go_roundw
    case rel=>exact ⟨j,by omega,rfl,(((((HA2.out.other ⟨g,0,none⟩ (by simp;omega) (.int .u64 (h2 0:Nat))).other ⟨g,1,none⟩ (by simp;omega) (.int .u64 (h2 1:Nat))).other ⟨g,2,none⟩ (by simp;omega) (.int .u64 (h2 2:Nat))).other ⟨g,3,none⟩ (by simp;omega) (.int .u64 (h2 3:Nat))).other ⟨g,4,none⟩ (by simp;omega) (.int .u64 (h2 4:Nat))),(((((HK2.out.other ⟨g,0,none⟩ (by simp;omega) (.int .u64 (h2 0:Nat))).other ⟨g,1,none⟩ (by simp;omega) (.int .u64 (h2 1:Nat))).other ⟨g,2,none⟩ (by simp;omega) (.int .u64 (h2 2:Nat))).other ⟨g,3,none⟩ (by simp;omega) (.int .u64 (h2 3:Nat))).other ⟨g,4,none⟩ (by simp;omega) (.int .u64 (h2 4:Nat))),(((((HO2.out.other ⟨g,0,none⟩ (by simp;omega) (.int .u64 (h2 0:Nat))).other ⟨g,1,none⟩ (by simp;omega) (.int .u64 (h2 1:Nat))).other ⟨g,2,none⟩ (by simp;omega) (.int .u64 (h2 2:Nat))).other ⟨g,3,none⟩ (by simp;omega) (.int .u64 (h2 3:Nat))).other ⟨g,4,none⟩ (by simp;omega) (.int .u64 (h2 4:Nat))),⟨h2,by rw [pow_odd x N j HB.out];exact hh2,(((((HH2.out.set 0 (.int .u64 (h2 0:Nat))).set 1 (.int .u64 (h2 1:Nat))).set 2 (.int .u64 (h2 2:Nat))).set 3 (.int .u64 (h2 3:Nat))).set 4 (.int .u64 (h2 4:Nat)))⟩,(by repeat (first|(with_reducible refine Below.alloc' ?_ _)|(with_reducible refine Below.drew ?_)|(with_reducible refine below_drewN ?_ _)|((with_reducible refine Below.setCell ?_ ?_ _);rotate_left;(focus (first|exact Nat.le_refl _|(simp;done)|(simp;omega))))|(with_reducible assumption)|(with_reducible exact Below.refl _ _)))⟩
    case measure=>simp [intOf]<;>omega
   ·have hd:(bits BinOp.and IntKind.u64 (xi/2^(j%64)) 1 ==1)=false:=by rw [HD.out,decide_eq_false hb]
    have HB:Hid (N/2^j%2=0):=Lib.hid (by omega)
    clear hb
    go_wp2_with (go_at_call 107;first |((with_reducible refine (femul_any hh hh _).mono ?_);rintro e w1 ⟨h1,rfl,hh1,hb1⟩;have hH1:=HH0.out.below' hb1;have hHf:=hH1.frozen;have hHc1:=hH1.cell;have kc:=HK.out _ (HK0.out.below' hb1);have ac:=(HA0.out.below' hb1).cell;have hg1:¬g=w.heap.size+1:=(by omega);have hg2:¬g=w.heap.size:=(by omega);have hg3:¬w.heap.size+1=g:=(by omega);have hg4:¬w.heap.size=g:=(by omega);have HA1:=Lib.hid (HA0.out.below' hb1);have HK1:=Lib.hid (HK0.out.below' hb1);have HO1:=Lib.hid (HO0.out.below' hb1);have HH1:=Lib.hid hH1;have hbel1:=Below.call hbel hb1;clear hb1 hH1 hHc HA0 HK0 HO0 HH0 hbel))
    go_roundw
    case rel=>exact ⟨j,by omega,rfl,(((((HA1.out.other ⟨g,0,none⟩ (by simp;omega) (.int .u64 (h1 0:Nat))).other ⟨g,1,none⟩ (by simp;omega) (.int .u64 (h1 1:Nat))).other ⟨g,2,none⟩ (by simp;omega) (.int .u64 (h1 2:Nat))).other ⟨g,3,none⟩ (by simp;omega) (.int .u64 (h1 3:Nat))).other ⟨g,4,none⟩ (by simp;omega) (.int .u64 (h1 4:Nat))),(((((HK1.out.other ⟨g,0,none⟩ (by simp;omega) (.int .u64 (h1 0:Nat))).other ⟨g,1,none⟩ (by simp;omega) (.int .u64 (h1 1:Nat))).other ⟨g,2,none⟩ (by simp;omega) (.int .u64 (h1 2:Nat))).other ⟨g,3,none⟩ (by simp;omega) (.int .u64 (h1 3:Nat))).other ⟨g,4,none⟩ (by simp;omega) (.int .u64 (h1 4:Nat))),(((((HO1.out.other ⟨g,0,none⟩ (by simp;omega) (.int .u64 (h1 0:Nat))).other ⟨g,1,none⟩ (by simp;omega) (.int .u64 (h1 1:Nat))).other ⟨g,2,none⟩ (by simp;omega) (.int .u64 (h1 2:Nat))).other ⟨g,3,none⟩ (by simp;omega) (.int .u64 (h1 3:Nat))).other ⟨g,4,none⟩ (by simp;omega) (.int .u64 (h1 4:Nat))),⟨h1,by rw [half_step,HB.out,Nat.add_zero,←pow_step];exact hh1,(((((HH1.out.set 0 (.int .u64 (h1 0:Nat))).set 1 (.int .u64 (h1 1:Nat))).set 2 (.int .u64 (h1 2:Nat))).set 3 (.int .u64 (h1 3:Nat))).set 4 (.int .u64 (h1 4:Nat)))⟩,(by repeat (first|(with_reducible refine Below.alloc' ?_ _)|(with_reducible refine Below.drew ?_)|(with_reducible refine below_drewN ?_ _)|((with_reducible refine Below.setCell ?_ ?_ _);rotate_left;(focus (first|exact Nat.le_refl _|(simp;done)|(simp;omega))))|(with_reducible assumption)|(with_reducible exact Below.refl _ _)))⟩
    case measure=>simp [intOf]<;>omega
set_option maxHeartbeats 1000000 in
theorem feinv_any {f:Nat→Nat} {x:Nat} (hf:FE f x) (w:World):
  Calls Tryz.prog 111 #[.agg #[.int .u64 (f 0:Nat),.int .u64 (f 1:Nat),.int .u64 (f 2:Nat),.int .u64 (f 3:Nat),.int .u64 (f 4:Nat)]] w fun e w'=>∃h,e= .returned (.agg #[.int .u64 (h 0:Nat),.int .u64 (h 1:Nat),.int .u64 (h 2:Nat),.int .u64 (h 3:Nat),.int .u64 (h 4:Nat)])∧FE h (x^expInv%Pq)∧Below w.heap.size w w':=by
 have hP:=fun W=>power_any expInv (8*32) (by omega) (by omega) (by decide +kernel) hf W
 rw [show lw expInv 0=18446744073709551595 from by decide +kernel,show lw expInv 1=18446744073709551615 from by decide +kernel,show lw expInv 2=18446744073709551615 from by decide +kernel,show lw expInv 3=9223372036854775807 from by decide +kernel] at hP
 have HP:=Lib.hid hP
 clear hP
 go_enter Tryz.func111,Tryz.ntmps111
 go_wp2_with (go_at_call 174;go_must (refine (HP.out _).mono ?_;rintro e w1 ⟨h,rfl,hr,hb⟩;have hO:=(show Blk _ (w.heap.size+1) [.int .u64 0,.int .u64 0,.int .u64 0,.int .u64 0,.int .u64 0] 114 from (by repeat (first|(with_reducible refine Blk.drew ?_)|exact Blk.new' (by simp)|(with_reducible refine Blk.alloc ?_ _)))).below' hb;have hOc:=hO.cell;have hOf:=hO.frozen;have hbel:Below w.heap.size w w1:=Below.call (by repeat (first|(with_reducible refine Below.alloc' ?_ _)|(with_reducible refine Below.drew ?_)|(with_reducible refine below_drewN ?_ _)|((with_reducible refine Below.setCell ?_ ?_ _);rotate_left;(focus (first|exact Nat.le_refl _|(simp;done)|(simp;omega))))|(with_reducible assumption)|(with_reducible exact Below.refl _ _))) hb;clear hb hO))
 exact bodyPost_ret (v:= .agg #[.int .u64 (h 0:Nat),.int .u64 (h 1:Nat),.int .u64 (h 2:Nat),.int .u64 (h 3:Nat),.int .u64 (h 4:Nat)]) (by simp [results,Tryz.results111,go_sem,hOc]) rfl ⟨_,rfl,hr,(by repeat (first|(with_reducible refine Below.alloc' ?_ _)|(with_reducible refine Below.drew ?_)|(with_reducible refine below_drewN ?_ _)|((with_reducible refine Below.setCell ?_ ?_ _);rotate_left;(focus (first|exact Nat.le_refl _|(simp;done)|(simp;omega))))|(with_reducible assumption)|(with_reducible exact Below.refl _ _)))⟩
def dg (n i:Nat):Nat:=n/2^(51*i)%2251799813685248
theorem dg_lt (n i:Nat):dg n i<2251799813685248:=Nat.mod_lt _ (by omega)
theorem dg_of (f:Nat→Nat) (h:∀i,f i<2251799813685248) (i:Nat) (hi:i<5):dg (val f) i=f i:=by
 have h0:=h 0;have h1:=h 1;have h2:=h 2;have h3:=h 3;have h4:=h 4
 have hh:i=0∨i=1∨i=2∨i=3∨i=4:=by omega
 unfold dg val
 rcases hh with rfl|rfl|rfl|rfl|rfl<;>simp only [Nat.reduceMul,Nat.reducePow]<;>omega
theorem pas_small (f:Nat→Nat) (c0:Nat):val (pas f c0)<57896044618658097711785492504343953926634992332820282019728792003956564819968:=by
 have h0:=pas_lt f c0 0;have h1:=pas_lt f c0 1;have h2:=pas_lt f c0 2;have h3:=pas_lt f c0 3;have h4:=pas_lt f c0 4
 unfold val;omega
theorem cr_five (f:Nat→Nat) (c0:Nat):cr f c0 5=(val f+c0)/57896044618658097711785492504343953926634992332820282019728792003956564819968∧val (pas f c0)=(val f+c0)%57896044618658097711785492504343953926634992332820282019728792003956564819968:=by
 have h1:=pas_val f c0
 have h2:=pas_small f c0
 omega
theorem Lim.val {f:Nat→Nat} (h:Lim f):val f<57896044618658097711785492504343953926634992332820282019728792003956564819968+20:=by
 have:=h.l0;have:=h.l1;have:=h.l2;have:=h.l3;have:=h.l4
 unfold Go.Proofs.YtknlbpjcjdenbaaGreat.val;omega
theorem whole_num {f:Nat→Nat} {x:Nat} (h:FE f x):val (pas f (cr f 19 5*19))=x:=by
 have h1:=h.lim.val
 rw [(cr_five f _).2,(cr_five f 19).1,←h.num]
 unfold Pq
 generalize val f=v at*
 by_cases hv:v<57896044618658097711785492504343953926634992332820282019728792003956564819949
 ·rw [Nat.div_eq_of_lt (show v+19<57896044618658097711785492504343953926634992332820282019728792003956564819968 by omega),Nat.mod_eq_of_lt hv,Nat.mod_eq_of_lt (by omega)]
  omega
 ·rw [show (v+19)/57896044618658097711785492504343953926634992332820282019728792003956564819968=1 by omega]
  omega
theorem whole_dg {f:Nat→Nat} {x:Nat} (h:FE f x) (i:Nat) (hi:i<5):pas f (cr f 19 5*19) i=dg x i:=by
 rw [←whole_num h];exact (dg_of _ (pas_lt _ _) i hi).symm
theorem FE.carry {f:Nat→Nat} {x:Nat} (h:FE f x):FE (cF f) x:=⟨cF_lim f (fun i hi=>by have:=h.lim.lt i hi;omega),by rw [cF_val,h.num]⟩
theorem FE.sum_lt {f:Nat→Nat} {x:Nat} (h:FE f x) (c0 k:Nat) (hc:c0≤19) (hk:k<5):f k+cr f c0 k<18446744073709551616:=by
 have h1:=h.lim.lt k hk
 have h2:=cr_lt f c0 (fun i hi=>by have:=h.lim.lt i hi;omega) (by omega) k (by omega)
 omega
set_option maxHeartbeats 1000000 in
theorem whole_any {f:Nat→Nat} {x:Nat} (hf:FE f x) (w:World):
  Calls Tryz.prog 177 #[.agg #[.int .u64 (f 0:Nat),.int .u64 (f 1:Nat),.int .u64 (f 2:Nat),.int .u64 (f 3:Nat),.int .u64 (f 4:Nat)]] w fun e w'=>e= .returned (.agg #[.int .u64 (dg x 0:Nat),.int .u64 (dg x 1:Nat),.int .u64 (dg x 2:Nat),.int .u64 (dg x 3:Nat),.int .u64 (dg x 4:Nat)])∧Below w.heap.size w w':=by
 have hb1:∀i,i<5→f i≤9223372036854775808:=fun i hi=>by have:=hf.lim.lt i hi;omega
 have hb2:∀i,i<5→cF f i≤9223372036854775808:=fun i hi=>by have:=hf.carry.lim.lt i hi;omega
 have HB1:=Lib.hid hb1;have HB2:=Lib.hid hb2
 have HE:=Lib.hid hf.carry.carry
 clear hb1 hb2 hf
 have fld:∀(x0 x1 x2 x3 x4:Value) (w:World),(Instr.field 114 (.agg #[x0,x1,x2,x3,x4]) 0).run Tryz.prog w= .ok (.agg #[x0,x1,x2,x3,x4]) w:=fun _ _ _ _ _ _=>by kernel_rfl
 go_enter Tryz.func177,Tryz.ntmps177
 go_upto_region 3 with (go_at_call 173;first |((with_reducible refine (carried_any f HB1.out _).mono ?_);rintro e w1 ⟨rfl,hb1⟩;have hO1:=(show Blk _ (w.heap.size+1) [.int .u64 0,.int .u64 0,.int .u64 0,.int .u64 0,.int .u64 0] 112 from (by repeat (first|(with_reducible refine Blk.drew ?_)|exact Blk.new' (by simp)|(with_reducible refine Blk.alloc ?_ _)))).below' hb1;have hbel1:Below w.heap.size w w1:=Below.call (by repeat (first|(with_reducible refine Below.alloc' ?_ _)|(with_reducible refine Below.drew ?_)|(with_reducible refine below_drewN ?_ _)|((with_reducible refine Below.setCell ?_ ?_ _);rotate_left;(focus (first|exact Nat.le_refl _|(simp;done)|(simp;omega))))|(with_reducible assumption)|(with_reducible exact Below.refl _ _))) hb1;clear hb1)|((with_reducible refine (carried_any (cF f) HB2.out _).mono ?_);rintro e w2 ⟨rfl,hb2⟩;have hL2:=(Blk.new w1 #[.int .u64 (cF f 0:Nat),.int .u64 (cF f 1:Nat),.int .u64 (cF f 2:Nat),.int .u64 (cF f 3:Nat),.int .u64 (cF f 4:Nat)] 112).below' hb2;have hO2:=(hO1.alloc _).below' hb2;have hbel2:Below w.heap.size w w2:=Below.call (show Below w.heap.size w _ from (by repeat (first|(with_reducible refine Below.alloc' ?_ _)|(with_reducible refine Below.drew ?_)|(with_reducible refine below_drewN ?_ _)|((with_reducible refine Below.setCell ?_ ?_ _);rotate_left;(focus (first|exact Nat.le_refl _|(simp;done)|(simp;omega))))|(with_reducible assumption)|(with_reducible exact Below.refl _ _)))) hb2;have lc:=hL2.cell;have lf:=hL2.frozen;have hg:w.heap.size+1<w1.heap.size:=hO1.lt;clear hb2 hbel1 hO1))
 refine wp_gen (fun W=>Blk W w1.heap.size (row 5 (fV (cF (cF f)))) 112∧Blk W (w.heap.size+1) [.int .u64 0,.int .u64 0,.int .u64 0,.int .u64 0,.int .u64 0] 112∧Below w.heap.size w W) ?_ (fun W hW=> ?_)
 ·exact ⟨(((((hL2.set 0 (.int .u64 (cF (cF f) 0:Nat))).set 1 (.int .u64 (cF (cF f) 1:Nat))).set 2 (.int .u64 (cF (cF f) 2:Nat))).set 3 (.int .u64 (cF (cF f) 3:Nat))).set 4 (.int .u64 (cF (cF f) 4:Nat))),(((((hO2.other _ (by simp;omega) _).other _ (by simp;omega) _).other _ (by simp;omega) _).other _ (by simp;omega) _).other _ (by simp;omega) _),(by repeat (first|(with_reducible refine Below.alloc' ?_ _)|(with_reducible refine Below.drew ?_)|(with_reducible refine below_drewN ?_ _)|((with_reducible refine Below.setCell ?_ ?_ _);rotate_left;(focus (first|exact Nat.le_refl _|(simp;done)|(simp;omega))))|(with_reducible assumption)|(with_reducible exact Below.refl _ _)))⟩
 obtain ⟨hA,hO,hbel⟩:=hW
 clear hbel2 lc lf hL2 hO2
 generalize w1.heap.size=g at*
 clear w1 w2
 generalize cF (cF f)=G at*
 have HS:=Lib.hid (fun k hk=>HE.out.sum_lt 19 k (by omega) hk)
 go_wp2
 go_loopw [4,14] (fun c i wr=>∃k:Nat,k≤5∧i= .int .i64 k∧c= .int .u64 (cr G 19 k:Nat)∧Blk wr g (row 5 (fV G)) 112∧Blk wr (w.heap.size+1) [.int .u64 0,.int .u64 0,.int .u64 0,.int .u64 0,.int .u64 0] 112∧Below w.heap.size w wr) (fun _ i _=>5-(intOf i).toNat)
 case atStart=>exact ⟨0,by omega,rfl,rfl,hA,hO,hbel⟩
 case round=>
  clear hA hO hbel W
  obtain ⟨k,hk,rfl,rfl,hA,hO,hbel⟩:=hrel
  by_cases hlt:k<5
  ·obtain ⟨s,hs,hs0,hs1,ha,hd⟩:=pass_step G 19 k (HS.out k hlt)
   have hcell:wr.cell? ⟨g,k,none⟩=some (.int .u64 (G k:Nat)):=hA.at hlt
   have HD:=Lib.hid hd
   have HA:=Lib.hid hA;have HO:=Lib.hid hO
   clear hA hO hd ha
   go_wp2
   go_roundw
   case rel=>exact ⟨k+1,by omega,by go_num,by rw [HD.out],HA.out,HO.out,hbel⟩
   case measure=>simp [intOf];omega
  ·obtain rfl:k=5:=by omega
   have h5:cr G 19 5≤1:=by
    have:=HE.out.lim.val
    rw [(cr_five G 19).1];omega
   have hm:IntKind.u64.wrap (((cr G 19 5:Nat):Int)*19)=((cr G 19 5*19:Nat):Int):=by rw [wrapU];omega
   have HW:=Lib.hid (fun i hi=>whole_dg HE.out i hi)
   have h19:cr G 19 5*19≤19:=by omega
   have HS2:=Lib.hid (fun k hk=>HE.out.sum_lt (cr G 19 5*19) k h19 hk)
   clear h5 h19 hlt hk HS
   generalize cr G 19 5*19=c1 at*
   go_wp2
   clear hm
   go_loopw [4,26] (fun c i wr=>∃k:Nat,k≤5∧i= .int .i64 k∧c= .int .u64 (cr G c1 k:Nat)∧Blk wr g (row 5 (pasV G c1 k)) 112∧Blk wr (w.heap.size+1) [.int .u64 0,.int .u64 0,.int .u64 0,.int .u64 0,.int .u64 0] 112∧Below w.heap.size w wr) (fun _ i _=>5-(intOf i).toNat)
   case atStart=>exact ⟨0,by omega,rfl,rfl,by rw [pasV_zero];exact hA,hO,hbel⟩
   clear hA hO hbel
   case round=>
    obtain ⟨k,hk,rfl,rfl,hA,hO,hbel⟩:=hrel
    by_cases hlt:k<5
    ·obtain ⟨s,hs,hs0,hs1,ha,hd⟩:=pass_step G c1 k (HS2.out k hlt)
     have hcell:=hA.at hlt
     rw [pasV_at] at hcell
     have hfr:=hA.frozen k
     have HD:=Lib.hid hd
     have HA:=Lib.hid ((hA.set k (.int .u64 s)).set k (.int .u64 (pas G c1 k:Nat)))
     have HO:=Lib.hid ((hO.other ⟨g,k,none⟩ (by simp;omega) (.int .u64 s)).other ⟨g,k,none⟩ (by simp;omega) (.int .u64 (pas G c1 k:Nat)))
     clear hA hO hd
     go_wp2
     go_roundw
     case rel=>exact ⟨k+1,by omega,by go_num,by rw [HD.out],by have:=HA.out;rw [List.set_set,pasV_set] at this;exact this,HO.out,(by repeat (first|(with_reducible refine Below.alloc' ?_ _)|(with_reducible refine Below.drew ?_)|(with_reducible refine below_drewN ?_ _)|((with_reducible refine Below.setCell ?_ ?_ _);rotate_left;(focus (first|exact Nat.le_refl _|(simp;done)|(simp;omega))))|(with_reducible assumption)|(with_reducible exact Below.refl _ _)))⟩
     case measure=>simp [intOf];omega
    ·obtain rfl:k=5:=by omega
     rw [pasV_five,row5] at hA
     unfold fV at hA
     rw [HW.out 0 (by omega),HW.out 1 (by omega),HW.out 2 (by omega),HW.out 3 (by omega),HW.out 4 (by omega)] at hA
     have hAc:=hA.cell;have hOc:=hO.cell;have hOf:=hO.frozen
     clear hA hO
     go_wp2
     exact bodyPost_ret (v:= .agg #[.int .u64 (dg x 0:Nat),.int .u64 (dg x 1:Nat),.int .u64 (dg x 2:Nat),.int .u64 (dg x 3:Nat),.int .u64 (dg x 4:Nat)]) (by simp [results,Tryz.results177,go_sem,hOc]) rfl ⟨rfl,(by repeat (first|(with_reducible refine Below.alloc' ?_ _)|(with_reducible refine Below.drew ?_)|(with_reducible refine below_drewN ?_ _)|((with_reducible refine Below.setCell ?_ ?_ _);rotate_left;(focus (first|exact Nat.le_refl _|(simp;done)|(simp;omega))))|(with_reducible assumption)|(with_reducible exact Below.refl _ _)))⟩
theorem keep5 (g:Nat) (f:Nat→Nat) {w w':World} (h:w.cell? ⟨g,0,none⟩=some (.int .u64 (f 0:Nat))∧w.cell? ⟨g,1,none⟩=some (.int .u64 (f 1:Nat))∧w.cell? ⟨g,2,none⟩=some (.int .u64 (f 2:Nat))∧w.cell? ⟨g,3,none⟩=some (.int .u64 (f 3:Nat))∧w.cell? ⟨g,4,none⟩=some (.int .u64 (f 4:Nat))) (hb:Below w.heap.size w w'):w'.cell? ⟨g,0,none⟩=some (.int .u64 (f 0:Nat))∧w'.cell? ⟨g,1,none⟩=some (.int .u64 (f 1:Nat))∧w'.cell? ⟨g,2,none⟩=some (.int .u64 (f 2:Nat))∧w'.cell? ⟨g,3,none⟩=some (.int .u64 (f 3:Nat))∧w'.cell? ⟨g,4,none⟩=some (.int .u64 (f 4:Nat)):=by
 obtain ⟨h0,h1,h2,h3,h4⟩:=h
 exact ⟨by rw [hb.cell (cell_lt h0)];exact h0,by rw [hb.cell (cell_lt h1)];exact h1,by rw [hb.cell (cell_lt h2)];exact h2,by rw [hb.cell (cell_lt h3)];exact h3,by rw [hb.cell (cell_lt h4)];exact h4⟩
theorem dg_zero (x:Nat):dg x 0%2=x%2:=by simp only [dg,Nat.mul_zero,Nat.pow_zero,Nat.div_one];omega
theorem odd_num (x:Nat):(bits BinOp.and IntKind.u64 (dg x 0:Nat) 1 ==1)=decide (x%2=1):=by
 have h:=dg_lt x 0
 rw [show (1:Int)=((1:Nat):Int) from rfl,u64_and_nat _ 1 (by omega) (by omega),Nat.and_one_is_mod,dg_zero]
 generalize hb:x%2=b
 by_cases h1:b=1
 ·subst h1;simp
 ·rw [decide_eq_false h1,beq_eq_false_iff_ne];omega
set_option maxHeartbeats 1000000 in
theorem feodd_any {f:Nat→Nat} {x:Nat} (hf:FE f x) (w:World):
  Calls Tryz.prog 176 #[.agg #[.int .u64 (f 0:Nat),.int .u64 (f 1:Nat),.int .u64 (f 2:Nat),.int .u64 (f 3:Nat),.int .u64 (f 4:Nat)]] w fun e w'=>e= .returned (.bool (decide (x%2=1)))∧Below w.heap.size w w':=by
 have HO:=Lib.hid (odd_num x)
 have hi:=ix5_0
 go_enter Tryz.func176,Tryz.ntmps176
 go_wp2_with (go_at_call 177;go_must (refine (whole_any hf _).mono ?_;rintro e w1 ⟨rfl,hb⟩;have hbel:Below w.heap.size w w1:=Below.call (by repeat (first|(with_reducible refine Below.alloc' ?_ _)|(with_reducible refine Below.drew ?_)|(with_reducible refine below_drewN ?_ _)|((with_reducible refine Below.setCell ?_ ?_ _);rotate_left;(focus (first|exact Nat.le_refl _|(simp;done)|(simp;omega))))|(with_reducible assumption)|(with_reducible exact Below.refl _ _))) hb;clear hb))
 go_ret
 exact ⟨ret_bool HO.out,(by repeat (first|(with_reducible refine Below.alloc' ?_ _)|(with_reducible refine Below.drew ?_)|(with_reducible refine below_drewN ?_ _)|((with_reducible refine Below.setCell ?_ ?_ _);rotate_left;(focus (first|exact Nat.le_refl _|(simp;done)|(simp;omega))))|(with_reducible assumption)|(with_reducible exact Below.refl _ _)))⟩
theorem dg_ext {x y:Nat} (hx:x<Pq) (hy:y<Pq) (h:∀i,i<5→dg x i=dg y i):x=y:=by
 have key:∀n,n<Pq→val (dg n)=n:=by
  intro n hn
  unfold Pq at hn
  simp only [val,dg,Nat.reduceMul,Nat.reducePow]
  omega
 rw [←key x hx,←key y hy]
 simp only [val,h 0 (by omega),h 1 (by omega),h 2 (by omega),h 3 (by omega),h 4 (by omega)]
set_option maxHeartbeats 1000000 in
theorem fesame_any {f g:Nat→Nat} {x y:Nat} (hf:FE f x) (hg:FE g y) (w:World):
  Calls Tryz.prog 113 #[.agg #[.int .u64 (f 0:Nat),.int .u64 (f 1:Nat),.int .u64 (f 2:Nat),.int .u64 (f 3:Nat),.int .u64 (f 4:Nat)],.agg #[.int .u64 (g 0:Nat),.int .u64 (g 1:Nat),.int .u64 (g 2:Nat),.int .u64 (g 3:Nat),.int .u64 (g 4:Nat)]] w fun e w'=>e= .returned (.bool (decide (x=y)))∧Below w.heap.size w w':=by
 have HE:Hid (([((dg x 0:Nat):Int),(dg x 1:Nat),(dg x 2:Nat),(dg x 3:Nat),(dg x 4:Nat)] == [((dg y 0:Nat):Int),(dg y 1:Nat),(dg y 2:Nat),(dg y 3:Nat),(dg y 4:Nat)])=decide (x=y)):=by
  refine Lib.hid ?_
  by_cases h:x=y
  ·subst h;simp
  ·rw [decide_eq_false h,beq_eq_false_iff_ne]
   intro h'
   simp only [List.cons.injEq,Int.natCast_inj,and_true] at h'
   refine h (dg_ext hf.lt hg.lt fun i hi=> ?_)
   have hh:i=0∨i=1∨i=2∨i=3∨i=4:=by omega
   rcases hh with rfl|rfl|rfl|rfl|rfl<;>simp [h']
 have hq:∀w:World,(Op.equalIn 10000 112 (.agg #[.int .u64 (dg x 0:Nat),.int .u64 (dg x 1:Nat),.int .u64 (dg x 2:Nat),.int .u64 (dg x 3:Nat),.int .u64 (dg x 4:Nat)]) (.agg #[.int .u64 (dg y 0:Nat),.int .u64 (dg y 1:Nat),.int .u64 (dg y 2:Nat),.int .u64 (dg y 3:Nat),.int .u64 (dg y 4:Nat)])).run Tryz.prog w= .ok ([((dg x 0:Nat):Int),(dg x 1:Nat),(dg x 2:Nat),(dg x 3:Nat),(dg x 4:Nat)] == [((dg y 0:Nat):Int),(dg y 1:Nat),(dg y 2:Nat),(dg y 3:Nat),(dg y 4:Nat)]) w:=
  fun w=>eqArr w 9998 112 111 5 .u64 Tryz.underlying112 Tryz.underlying111 (fun _=>by kernel_rfl) [((dg x 0:Nat):Int),(dg x 1:Nat),(dg x 2:Nat),(dg x 3:Nat),(dg x 4:Nat)] [((dg y 0:Nat):Int),(dg y 1:Nat),(dg y 2:Nat),(dg y 3:Nat),(dg y 4:Nat)] rfl rfl
 generalize ([((dg x 0:Nat):Int),(dg x 1:Nat),(dg x 2:Nat),(dg x 3:Nat),(dg x 4:Nat)] == [((dg y 0:Nat):Int),(dg y 1:Nat),(dg y 2:Nat),(dg y 3:Nat),(dg y 4:Nat)])=q at*
 have HF:=Lib.hid hf;have HG:=Lib.hid hg
 clear hf hg
 go_enter Tryz.func113,Tryz.ntmps113
 go_wp2
 refine wp_gen (fun W=>(W.cell? ⟨w.heap.size,0,none⟩=some (.int .u64 (f 0:Nat))∧W.cell? ⟨w.heap.size,1,none⟩=some (.int .u64 (f 1:Nat))∧W.cell? ⟨w.heap.size,2,none⟩=some (.int .u64 (f 2:Nat))∧W.cell? ⟨w.heap.size,3,none⟩=some (.int .u64 (f 3:Nat))∧W.cell? ⟨w.heap.size,4,none⟩=some (.int .u64 (f 4:Nat)))∧(W.cell? ⟨w.heap.size+1,0,none⟩=some (.int .u64 (g 0:Nat))∧W.cell? ⟨w.heap.size+1,1,none⟩=some (.int .u64 (g 1:Nat))∧W.cell? ⟨w.heap.size+1,2,none⟩=some (.int .u64 (g 2:Nat))∧W.cell? ⟨w.heap.size+1,3,none⟩=some (.int .u64 (g 3:Nat))∧W.cell? ⟨w.heap.size+1,4,none⟩=some (.int .u64 (g 4:Nat)))∧Below w.heap.size w W) ?_ (fun W0 hW=> ?_)
 ·exact ⟨⟨((Blk.new w _ _).alloc _).cell 0,((Blk.new w _ _).alloc _).cell 1,((Blk.new w _ _).alloc _).cell 2,((Blk.new w _ _).alloc _).cell 3,((Blk.new w _ _).alloc _).cell 4⟩,⟨(Blk.new' (by simp)).cell 0,(Blk.new' (by simp)).cell 1,(Blk.new' (by simp)).cell 2,(Blk.new' (by simp)).cell 3,(Blk.new' (by simp)).cell 4⟩,(by repeat (first|(with_reducible refine Below.alloc' ?_ _)|(with_reducible refine Below.drew ?_)|(with_reducible refine below_drewN ?_ _)|((with_reducible refine Below.setCell ?_ ?_ _);rotate_left;(focus (first|exact Nat.le_refl _|(simp;done)|(simp;omega))))|(with_reducible assumption)|(with_reducible exact Below.refl _ _)))⟩
 have hst:∀W W':World,((W.cell? ⟨w.heap.size,0,none⟩=some (.int .u64 (f 0:Nat))∧W.cell? ⟨w.heap.size,1,none⟩=some (.int .u64 (f 1:Nat))∧W.cell? ⟨w.heap.size,2,none⟩=some (.int .u64 (f 2:Nat))∧W.cell? ⟨w.heap.size,3,none⟩=some (.int .u64 (f 3:Nat))∧W.cell? ⟨w.heap.size,4,none⟩=some (.int .u64 (f 4:Nat)))∧(W.cell? ⟨w.heap.size+1,0,none⟩=some (.int .u64 (g 0:Nat))∧W.cell? ⟨w.heap.size+1,1,none⟩=some (.int .u64 (g 1:Nat))∧W.cell? ⟨w.heap.size+1,2,none⟩=some (.int .u64 (g 2:Nat))∧W.cell? ⟨w.heap.size+1,3,none⟩=some (.int .u64 (g 3:Nat))∧W.cell? ⟨w.heap.size+1,4,none⟩=some (.int .u64 (g 4:Nat)))∧Below w.heap.size w W)→Below W.heap.size W W'→((W'.cell? ⟨w.heap.size,0,none⟩=some (.int .u64 (f 0:Nat))∧W'.cell? ⟨w.heap.size,1,none⟩=some (.int .u64 (f 1:Nat))∧W'.cell? ⟨w.heap.size,2,none⟩=some (.int .u64 (f 2:Nat))∧W'.cell? ⟨w.heap.size,3,none⟩=some (.int .u64 (f 3:Nat))∧W'.cell? ⟨w.heap.size,4,none⟩=some (.int .u64 (f 4:Nat)))∧(W'.cell? ⟨w.heap.size+1,0,none⟩=some (.int .u64 (g 0:Nat))∧W'.cell? ⟨w.heap.size+1,1,none⟩=some (.int .u64 (g 1:Nat))∧W'.cell? ⟨w.heap.size+1,2,none⟩=some (.int .u64 (g 2:Nat))∧W'.cell? ⟨w.heap.size+1,3,none⟩=some (.int .u64 (g 3:Nat))∧W'.cell? ⟨w.heap.size+1,4,none⟩=some (.int .u64 (g 4:Nat)))∧Below w.heap.size w W'):=by
  rintro W W' ⟨h1,h2,h3⟩ hb
  exact ⟨keep5 _ _ h1 hb,keep5 _ _ h2 hb,Below.call h3 hb⟩
 have hst':=Lib.hid hst;have HS0:=Lib.hid (show (fun W=>(W.cell? ⟨w.heap.size,0,none⟩=some (.int .u64 (f 0:Nat))∧W.cell? ⟨w.heap.size,1,none⟩=some (.int .u64 (f 1:Nat))∧W.cell? ⟨w.heap.size,2,none⟩=some (.int .u64 (f 2:Nat))∧W.cell? ⟨w.heap.size,3,none⟩=some (.int .u64 (f 3:Nat))∧W.cell? ⟨w.heap.size,4,none⟩=some (.int .u64 (f 4:Nat)))∧(W.cell? ⟨w.heap.size+1,0,none⟩=some (.int .u64 (g 0:Nat))∧W.cell? ⟨w.heap.size+1,1,none⟩=some (.int .u64 (g 1:Nat))∧W.cell? ⟨w.heap.size+1,2,none⟩=some (.int .u64 (g 2:Nat))∧W.cell? ⟨w.heap.size+1,3,none⟩=some (.int .u64 (g 3:Nat))∧W.cell? ⟨w.heap.size+1,4,none⟩=some (.int .u64 (g 4:Nat)))∧Below w.heap.size w W) W0.drew from ⟨hW.1,hW.2.1,hW.2.2.drew⟩)
 clear hst hW
 have hst:=hst'
 clear hst'
 go_region_held3 (fun W=>(W.cell? ⟨w.heap.size,0,none⟩=some (.int .u64 (f 0:Nat))∧W.cell? ⟨w.heap.size,1,none⟩=some (.int .u64 (f 1:Nat))∧W.cell? ⟨w.heap.size,2,none⟩=some (.int .u64 (f 2:Nat))∧W.cell? ⟨w.heap.size,3,none⟩=some (.int .u64 (f 3:Nat))∧W.cell? ⟨w.heap.size,4,none⟩=some (.int .u64 (f 4:Nat)))∧(W.cell? ⟨w.heap.size+1,0,none⟩=some (.int .u64 (g 0:Nat))∧W.cell? ⟨w.heap.size+1,1,none⟩=some (.int .u64 (g 1:Nat))∧W.cell? ⟨w.heap.size+1,2,none⟩=some (.int .u64 (g 2:Nat))∧W.cell? ⟨w.heap.size+1,3,none⟩=some (.int .u64 (g 3:Nat))∧W.cell? ⟨w.heap.size+1,4,none⟩=some (.int .u64 (g 4:Nat)))∧Below w.heap.size w W) (first|(exact HS0.out)|(first|assumption|(refine hst.out _ _ ?_ hb;assumption)|(refine hst.out _ _ ?_ (Below.alloc' (Below.refl _ _) _);assumption)|(refine hst.out _ _ ?_ (Below.drew (Below.refl _ _));assumption))) ((go_at_call 177;first |((with_reducible refine (whole_any HF.out _).mono ?_);rintro e w1 ⟨rfl,hb⟩)|((with_reducible refine (whole_any HG.out _).mono ?_);rintro e w1 ⟨rfl,hb⟩)))
 go_wp2
 go_ret
 have hf:∀W:World,((W.cell? ⟨w.heap.size,0,none⟩=some (.int .u64 (f 0:Nat))∧W.cell? ⟨w.heap.size,1,none⟩=some (.int .u64 (f 1:Nat))∧W.cell? ⟨w.heap.size,2,none⟩=some (.int .u64 (f 2:Nat))∧W.cell? ⟨w.heap.size,3,none⟩=some (.int .u64 (f 3:Nat))∧W.cell? ⟨w.heap.size,4,none⟩=some (.int .u64 (f 4:Nat)))∧(W.cell? ⟨w.heap.size+1,0,none⟩=some (.int .u64 (g 0:Nat))∧W.cell? ⟨w.heap.size+1,1,none⟩=some (.int .u64 (g 1:Nat))∧W.cell? ⟨w.heap.size+1,2,none⟩=some (.int .u64 (g 2:Nat))∧W.cell? ⟨w.heap.size+1,3,none⟩=some (.int .u64 (g 3:Nat))∧W.cell? ⟨w.heap.size+1,4,none⟩=some (.int .u64 (g 4:Nat)))∧Below w.heap.size w W)→Below w.heap.size w W:=fun W h=>h.2.2
 exact ⟨ret_bool HE.out,hf _ (by assumption)⟩
theorem limb_or (x y:Nat) (s t:Nat) (hs:s≤64) (ht:t+s=64) (hx:x<18446744073709551616):
  bits BinOp.and IntKind.u64 (bits BinOp.or IntKind.u64 ((x:Int)/2^s) (IntKind.u64.wrap ((y:Int)*2^t))) 2251799813685247=((x/2^s+y*2^t%18446744073709551616)%2251799813685248:Nat):=by
 have h0:x/2^s<2^t:=by
  apply Nat.div_lt_of_lt_mul
  rw [←Nat.pow_add,show s+t=64 from by omega];exact hx
 have h1:2^t≤2^64:=Nat.pow_le_pow_right (by omega) (by omega)
 rw [wrapU,show ((x:Int)/2^s)=((x/2^s:Nat):Int) from by simp,show ((y:Int)*2^t)%18446744073709551616=((y*2^t%18446744073709551616:Nat):Int) from by simp,u64_or_nat _ _ (by omega) (Nat.mod_lt _ (by omega))]
 have e:y*2^t%18446744073709551616=(y%2^s)*2^t:=by
  rw [show (18446744073709551616:Nat)=2^t*2^s from by rw [←Nat.pow_add,ht],Nat.mul_comm y,Nat.mul_mod_mul_left,Nat.mul_comm]
 have h2:y%2^s*2^t<18446744073709551616:=by rw [←e];exact Nat.mod_lt _ (by omega)
 have h3:x/2^s|||y%2^s*2^t=x/2^s+y%2^s*2^t:=by
  have h4:=Nat.shiftLeft_add_eq_or_of_lt h0 (y%2^s)
  rw [Nat.shiftLeft_eq] at h4
  rw [Nat.or_comm,←h4,Nat.add_comm]
 rw [e,h3]
 apply and51
 rw [←h3]
 exact Nat.or_lt_two_pow (n:=64) (by omega) h2
theorem of0 (n:Nat):bits BinOp.and IntKind.u64 (lw n 0:Nat) 2251799813685247=(dg n 0:Nat):=by
 rw [and51 _ (lw_lt _ _)];simp only [lw,dg,Nat.mul_zero,Nat.pow_zero,Nat.div_one];omega
theorem of1 (n:Nat):bits BinOp.and IntKind.u64 (bits BinOp.or IntKind.u64 ((lw n 0:Nat)/2251799813685248) (IntKind.u64.wrap ((lw n 1:Nat)*8192))) 2251799813685247=(dg n 1:Nat):=by
 have h:=limb_or (lw n 0) (lw n 1) 51 13 (by omega) (by omega) (lw_lt _ _)
 have e:(((lw n 0:Nat):Int)/2^51)=(lw n 0:Nat)/2251799813685248:=rfl
 refine Eq.trans (show _=_ from h) ?_
 congr 1
 simp only [lw,dg,Nat.reduceMul,Nat.reducePow];omega
theorem of2 (n:Nat):bits BinOp.and IntKind.u64 (bits BinOp.or IntKind.u64 ((lw n 1:Nat)/274877906944) (IntKind.u64.wrap ((lw n 2:Nat)*67108864))) 2251799813685247=(dg n 2:Nat):=by
 have h:=limb_or (lw n 1) (lw n 2) 38 26 (by omega) (by omega) (lw_lt _ _)
 refine Eq.trans (show _=_ from h) ?_
 congr 1
 simp only [lw,dg,Nat.reduceMul,Nat.reducePow];omega
theorem of3 (n:Nat):bits BinOp.and IntKind.u64 (bits BinOp.or IntKind.u64 ((lw n 2:Nat)/33554432) (IntKind.u64.wrap ((lw n 3:Nat)*549755813888))) 2251799813685247=(dg n 3:Nat):=by
 have h:=limb_or (lw n 2) (lw n 3) 25 39 (by omega) (by omega) (lw_lt _ _)
 refine Eq.trans (show _=_ from h) ?_
 congr 1
 simp only [lw,dg,Nat.reduceMul,Nat.reducePow];omega
theorem of4 (n:Nat):bits BinOp.and IntKind.u64 ((lw n 3:Nat)/4096) 2251799813685247=(dg n 4:Nat):=by
 have:=lw_lt n 3
 rw [show ((lw n 3:Nat):Int)/4096=((lw n 3/4096:Nat):Int) from by simp,and51 _ (by omega)]
 simp only [lw,dg,Nat.reduceMul,Nat.reducePow];omega
theorem dg_val (n:Nat):val (dg n)=n%57896044618658097711785492504343953926634992332820282019728792003956564819968:=by
 simp only [val,dg,Nat.reduceMul,Nat.reducePow];omega
theorem FE.of (n:Nat):FE (dg n) (n%57896044618658097711785492504343953926634992332820282019728792003956564819968%Pq):=
 ⟨⟨by have:=dg_lt n 0;omega,dg_lt _ _,dg_lt _ _,dg_lt _ _,dg_lt _ _⟩,by rw [dg_val]⟩
theorem row4_zero:row 4 (wV 0)= [.int .u64 0,.int .u64 0,.int .u64 0,.int .u64 0]:=by simp only [row4,wV0]
set_option maxHeartbeats 1000000 in
theorem feof_any {a:Option Addr} {n cap:Nat} {l:List UInt8} (w:World) (h:RdB w a n cap l):
  Calls Tryz.prog 170 #[.slice a n cap] w fun e w'=>e= .returned (.agg #[.int .u64 (dg (leN (first l 32)) 0:Nat),.int .u64 (dg (leN (first l 32)) 1:Nat),.int .u64 (dg (leN (first l 32)) 2:Nat),.int .u64 (dg (leN (first l 32)) 3:Nat),.int .u64 (dg (leN (first l 32)) 4:Nat)])∧Below w.heap.size w w':=by
 have hlen:=first_len l 32
 generalize hfl:first l 32=fl at*
 have HF:=Lib.hid hfl;have HL:=Lib.hid hlen
 clear hfl hlen
 go_enter Tryz.func170,Tryz.ntmps170
 go_wp2_with (go_at_call 179;go_must (refine (first_any 32 (by omega) _ (h.below (by repeat (first|(with_reducible refine Below.alloc' ?_ _)|(with_reducible refine Below.drew ?_)|(with_reducible refine below_drewN ?_ _)|((with_reducible refine Below.setCell ?_ ?_ _);rotate_left;(focus (first|exact Nat.le_refl _|(simp;done)|(simp;omega))))|(with_reducible assumption)|(with_reducible exact Below.refl _ _))))).mono ?_;rintro e w1 ⟨rfl,hB,hb⟩))
 rw [HF.out] at hB
 have hB1:Blk w1 (w.heap.size+1) (fl.map bV) 5:=by simpa using hB
 clear hB
 have hg:w.heap.size+1<w1.heap.size:=hB1.lt
 refine wp_gen (fun W=>Blk W w1.heap.size (row 4 (wV (leN (fl.take 0)))) 119∧Blk W w.heap.size [.int .u64 0,.int .u64 0,.int .u64 0,.int .u64 0,.int .u64 0] 114∧Blk W (w.heap.size+1) (fl.map bV) 5∧Below w.heap.size w W) ?_ (fun W hW=> ?_)
 ·refine ⟨?_,((Blk.new w _ _).below' hb).alloc _,hB1.alloc _,Below.alloc' (Below.call (by repeat (first|(with_reducible refine Below.alloc' ?_ _)|(with_reducible refine Below.drew ?_)|(with_reducible refine below_drewN ?_ _)|((with_reducible refine Below.setCell ?_ ?_ _);rotate_left;(focus (first|exact Nat.le_refl _|(simp;done)|(simp;omega))))|(with_reducible assumption)|(with_reducible exact Below.refl _ _))) hb) _⟩
  rw [List.take_zero,show leN []=0 from rfl,row4_zero]
  exact Blk.new w1 _ _
 obtain ⟨hA,hO,hB2,hbel⟩:=hW
 clear hb h hB1
 generalize w1.heap.size=g at*
 clear w1
 go_wp2
 go_loopw [9] (fun i wr=>∃k:Nat,k≤32∧i= .int .i64 k∧Blk wr g (row 4 (wV (leN (fl.take k)))) 119∧Blk wr w.heap.size [.int .u64 0,.int .u64 0,.int .u64 0,.int .u64 0,.int .u64 0] 114∧Blk wr (w.heap.size+1) (fl.map bV) 5∧Below w.heap.size w wr) (fun i _=>32-(intOf i).toNat)
 case atStart=>exact ⟨0,by omega,rfl,hA,hO,hB2,hbel⟩
 case round=>
  clear hA hO hB2 hbel W
  obtain ⟨k,hk,rfl,hA,hO,hB,hbel⟩:=hrel
  by_cases hlt:k<32
  ·have hkl:k<fl.length:=by rw [HL.out];exact hlt
   have hcb:wr.cell? ⟨w.heap.size+1,k,none⟩=some (.int .u8 (fl[k].toNat:Int)):=by rw [hB.cell];simp [hkl,bV]
   have HT:=Lib.hid (leN_take fl k hkl)
   have hn:=leN_take_lt fl k
   have HC:=Lib.hid (fl[k].toNat_lt)
   generalize leN (fl.take k)=x at*
   generalize fl[k].toNat=c at*
   obtain ⟨ci,hci⟩:∃ci:Int,ci=(c:Int):=⟨_,rfl⟩
   have HI:=Lib.hid hci
   rw [←hci] at hcb
   have hc0:0≤ci:=by omega
   have hc1:ci<256:=by have:=HC.out;omega
   clear hci
   have hq:k/8<4:=by omega
   have ca:wr.cell? ⟨g,k/8,none⟩=some (.int .u64 (lw x (k/8):Nat)):=hA.at hq
   have cf:=hA.frozen (k/8)
   have HN:=Lib.hid hn
   have HS:=Lib.hid (or_byteI x k c ci HI.out HN.out HC.out)
   have HO:=Lib.hid hO;have HB:=Lib.hid hB;have HA:=Lib.hid hA
   clear hn hO hB hA
   go_wp2
   go_region
   rw [HS.out]
   have hA2:=HA.out.set (k/8) (wV (x+c*256^k) (k/8))
   rw [row_set (g:=wV (x+c*256^k)) _ _ rfl (fun i _ hi=>by unfold wV;rw [or_other x k c i HN.out HC.out hi])] at hA2
   have hO2:=HO.out.other ⟨g,k/8,none⟩ (by simp;omega) (wV (x+c*256^k) (k/8))
   have hB2:=HB.out.other ⟨g,k/8,none⟩ (by simp;omega) (wV (x+c*256^k) (k/8))
   have HA2:=Lib.hid hA2;have HO2:=Lib.hid hO2;have HB2:=Lib.hid hB2
   clear hA2 hO2 hB2 ca cf hcb
   go_wp2
   go_roundw
   case rel=>exact ⟨k+1,by omega,by go_num,by rw [HT.out];exact HA2.out.drew,HO2.out.drew,HB2.out.drew,(by repeat (first|(with_reducible refine Below.alloc' ?_ _)|(with_reducible refine Below.drew ?_)|(with_reducible refine below_drewN ?_ _)|((with_reducible refine Below.setCell ?_ ?_ _);rotate_left;(focus (first|exact Nat.le_refl _|(simp;done)|(simp;omega))))|(with_reducible assumption)|(with_reducible exact Below.refl _ _)))⟩
   case measure=>simp [intOf]<;>omega
  ·obtain rfl:k=32:=by omega
   rw [List.take_of_length_le (by rw [HL.out];omega)] at hA
   clear hB hlt hk
   generalize hx:leN fl=x at*
   have HX:=Lib.hid hx
   clear hx
   have g0:wr.cell? ⟨g,0,none⟩=some (.int .u64 (lw x 0:Nat)):=hA.at (by omega);have g1:wr.cell? ⟨g,1,none⟩=some (.int .u64 (lw x 1:Nat)):=hA.at (by omega);have g2:wr.cell? ⟨g,2,none⟩=some (.int .u64 (lw x 2:Nat)):=hA.at (by omega);have g3:wr.cell? ⟨g,3,none⟩=some (.int .u64 (lw x 3:Nat)):=hA.at (by omega)
   have hOc:=hO.cell;have hOf:=hO.frozen
   have e0:=of0 x;have e1:=of1 x;have e2:=of2 x;have e3:=of3 x;have e4:=of4 x
   clear hA hO
   go_wp2
   exact bodyPost_ret (v:= .agg #[.int .u64 (dg x 0:Nat),.int .u64 (dg x 1:Nat),.int .u64 (dg x 2:Nat),.int .u64 (dg x 3:Nat),.int .u64 (dg x 4:Nat)]) (by simp [results,Tryz.results170,go_sem,hOc]) rfl ⟨by rw [HX.out],(by repeat (first|(with_reducible refine Below.alloc' ?_ _)|(with_reducible refine Below.drew ?_)|(with_reducible refine below_drewN ?_ _)|((with_reducible refine Below.setCell ?_ ?_ _);rotate_left;(focus (first|exact Nat.le_refl _|(simp;done)|(simp;omega))))|(with_reducible assumption)|(with_reducible exact Below.refl _ _)))⟩
structure RdRows (w:World) (a:Option Addr) (n cap:Nat) (ls:List (List UInt8)):Prop where
 hlen:ls.length=n
 hcap:n≤cap
 hmax:cap≤maxLen
 get:∀i (h:i<ls.length),∃b o sa sn sc,a=some ⟨b,o,none⟩∧w.cell? ⟨b,o+i,none⟩=some (.slice sa sn sc)∧RdB w sa sn sc ls[i]
theorem RdRows.cases {w:World} {a:Option Addr} {n cap:Nat} {ls:List (List UInt8)} (h:RdRows w a n cap ls):
  (n=0∧ls= [])∨∃b o,0<n∧a=some ⟨b,o,none⟩∧∀i (hi:i<ls.length),∃sa sn sc,w.cell? ⟨b,o+i,none⟩=some (.slice sa sn sc)∧RdB w sa sn sc ls[i]:=by
 by_cases h0:n=0
 ·exact .inl ⟨h0,List.eq_nil_of_length_eq_zero (by rw [h.hlen,h0])⟩
 ·obtain ⟨b,o,_,_,_,ha,_,_⟩:=h.get 0 (by have:=h.hlen;omega)
  refine .inr ⟨b,o,by omega,ha,fun i hi=> ?_⟩
  obtain ⟨b',o',sa,sn,sc,ha',hc,hr⟩:=h.get i hi
  rw [ha] at ha'
  simp at ha'
  obtain ⟨rfl,rfl⟩:=ha'
  exact ⟨sa,sn,sc,hc,hr⟩
def lens (ls:List (List UInt8)) (k:Nat):Nat:=(ls.take k).flatten.length
theorem lens_succ (ls:List (List UInt8)) (k:Nat) (h:k<ls.length):lens ls (k+1)=lens ls k+ls[k].length:=by
 unfold lens;rw [List.take_succ_eq_append_getElem h,List.flatten_append,List.length_append,List.flatten_singleton]
theorem flat_succ (ls:List (List UInt8)) (k:Nat) (h:k<ls.length):(ls.take (k+1)).flatten=(ls.take k).flatten++ls[k]:=by
 rw [List.take_succ_eq_append_getElem h,List.flatten_append,List.flatten_singleton]
theorem lens_le (ls:List (List UInt8)) (k:Nat):lens ls k≤ls.flatten.length:=by
 unfold lens
 conv=>rhs;rw [←List.take_append_drop k ls,List.flatten_append,List.length_append]
 omega
set_option maxHeartbeats 4000000 in
theorem grow_any (n:Nat) (hn:n≤70368744177664) (w:World):
  Calls Tryz.prog 184 #[.slice none 0 0,.int .i64 n] w fun e w'=>∃v,e= .returned v∧w'.ownsRow w.heap.size 5 1 v 0 []∧Below w.heap.size w w':=by
 obtain ⟨i0,hi,hz0,hz1,hz2⟩:=info_parts infoU8
 by_cases h0:n=0
 ·subst h0
  go_enter Tryz.func184,Tryz.ntmps184
  go_wp2
  go_ret
  exact ⟨_,rfl,World.ownsRow_nil _ _ _ _,Below.refl _ _⟩
 ·have h1:¬((n:Int)<0):=by omega
  have h4:(n:Int)>0:=by omega
  have hrz:∀ty,(Builtin.append_ #[30,3] ty #[.slice none 0 0,.int .i64 (n:Int)]).run Tryz.prog w=
    .ok (.slice (some ⟨w.heap.size,0,none⟩) n (grownCap w n 0 5)) (w.drew.alloc (.cells (([]:List Value).toArray++Builtin.zeroCells (Value.int .u8 0).cells n++Builtin.zeroCells (Value.int .u8 0).cells (grownCap w n 0 5-n)) 5)):=fun ty=>by
   have h:=Lib.run_append_grow_zeros w 30 3 ty 5 i0 (.int .u8 0) .i64 .i64 Tryz.underlying30 Tryz.underlying3 hi hz0 none 0 0 [] (run_firstCells_none w.drew i0.size 0 0 0) n (by omega) (by omega) (by omega) (by omega)
    (by rw [hz2];omega)
    (by rw [Nat.zero_add];exact growslice_fits (by omega) (by rw [hz2];omega))
   rw [Nat.zero_add] at h
   exact h
  have hGn:n≤grownCap w n 0 5:=grownCap_ge w _ _ _
  obtain ⟨G,hG⟩:∃G,G=grownCap w n 0 5:=⟨_,rfl⟩
  rw [←hG] at hrz hGn
  have hGm:G≤maxLen:=by
   have:=grownCap_le_maxLen w n 0 5 (by unfold maxLen;omega)
   rw [←hG] at this;exact this
  have hG63:G≤9223372036854775807:=by unfold maxLen at hGm;omega
  obtain ⟨O,hO⟩:∃O,O=Obj.cells (([]:List Value).toArray++Builtin.zeroCells (Value.int .u8 0).cells n++Builtin.zeroCells (Value.int .u8 0).cells (G-n)) 5 (0,0):=⟨_,rfl⟩
  rw [←hO] at hrz
  have hown:World.ownsRow (w.alloc O).drew w.heap.size 5 1 (.slice (some ⟨w.heap.size,0,none⟩) 0 G) 0 []:=by
   rw [hO]
   refine World.ownsRow_made w.drew _ G (Nat.le_refl _) hGm ?_
   simp [size_zeroCells,Value.cells];omega
  have HO:=Lib.hid hown
  clear hG hown hi hz0 hz1 hz2 hGm hO
  go_enter Tryz.func184,Tryz.ntmps184
  go_wp2_with (at_builtin;refine Lib.wpList_append_run _ rfl _ _ _ _ rfl _ _ rfl rfl _ _ (hrz _) ?_)
  all_goals (go_ret;exact ⟨_,rfl,HO.out,(by repeat (first|(with_reducible refine Below.alloc' ?_ _)|(with_reducible refine Below.drew ?_)|(with_reducible refine below_drewN ?_ _)|((with_reducible refine Below.setCell ?_ ?_ _);rotate_left;(focus (first|exact Nat.le_refl _|(simp;done)|(simp;omega))))|(with_reducible assumption)|(with_reducible exact Below.refl _ _)))⟩)
set_option maxHeartbeats 4000000 in
theorem concat_any {a:Option Addr} {n cap:Nat} {ls:List (List UInt8)} (w:World) (h:RdRows w a n cap ls) (hs:ls.flatten.length≤70368744177664):
  Calls Tryz.prog 121 #[.slice a n cap] w fun e w'=>∃v,e= .returned v∧w'.ownsRow w.heap.size 5 1 v ls.flatten.length (ls.flatten.map bV)∧Below w.heap.size w w':=by
 have HL:=Lib.hid h.hlen
 have HS:=Lib.hid hs
 have hm63:(n:Int)≤9223372036854775807:=by have:=h.hcap;have:=h.hmax;unfold maxLen at *;omega
 have HR:=Lib.hid h
 clear h
 go_enter Tryz.func121,Tryz.ntmps121
 go_wp2
 go_loopw [3,11] (fun s i wr=>∃k:Nat,k≤n∧i= .int .i64 k∧s= .int .i64 (lens ls k:Nat)∧Below w.heap.size w wr) (fun _ i _=>n-(intOf i).toNat)
 case atStart=>exact ⟨0,by omega,rfl,rfl,Below.refl _ _⟩
 case round=>
  obtain ⟨k,hk,rfl,rfl,hbel⟩:=hrel
  by_cases hlt:k<n
  ·rcases HR.out.cases with ⟨h0,_⟩|⟨b,o,_,rfl,hget⟩
   ·omega
   ·have hkl:k<ls.length:=by rw [HL.out];exact hlt
    obtain ⟨sa,sn,sc,hc,hr⟩:=hget k hkl
    have hc2:wr.cell? ⟨b,o+k,none⟩=some (.slice sa sn sc):=by rw [hbel.cell (cell_lt hc)];exact hc
    have e1:=lens_succ ls k hkl
    rw [hr.hlen] at e1
    have h2:=lens_le ls (k+1)
    have hsum:lens ls k+sn≤70368744177664:=by have:=HS.out;omega
    have HE:=Lib.hid e1
    have hcp:=hr.hcap
    have hsn:sn≤70368744177664:=by omega
    clear h2 e1 hc hr hget
    generalize lens ls k=s at*
    have hw:IntKind.i64.wrap ((s:Int)+(sn:Int))=((s+sn:Nat):Int):=by rw [IntKind.wrap_i64];omega
    have hpos:decide (((s+sn:Nat):Int)<0)=false:=by simp;omega
    go_wp2
    go_roundw
    case rel=>exact ⟨k+1,by omega,by go_num,by rw [HE.out,Int.natCast_add],(by repeat (first|(with_reducible refine Below.alloc' ?_ _)|(with_reducible refine Below.drew ?_)|(with_reducible refine below_drewN ?_ _)|((with_reducible refine Below.setCell ?_ ?_ _);rotate_left;(focus (first|exact Nat.le_refl _|(simp;done)|(simp;omega))))|(with_reducible assumption)|(with_reducible exact Below.refl _ _)))⟩
    case measure=>simp [intOf];omega
  ·obtain rfl:k=n:=by omega
   have HT:Hid (lens ls k=ls.flatten.length):=Lib.hid (by unfold lens;rw [List.take_of_length_le (by rw [HL.out];omega)])
   obtain ⟨wo,rfl⟩:∃wo:World,wo=wr:=⟨_,rfl⟩
   have HS2:Hid (lens ls k≤70368744177664):=Lib.hid (by rw [HT.out];exact HS.out)
   go_wp2_with (go_at_call 184;go_must (refine (grow_any _ HS2.out _).mono ?_;rintro e w1 ⟨v,rfl,hown,hb⟩;have hbel1:=Below.call hbel hb;have hown1:World.ownsRow w1 w.heap.size 5 1 v (lens ls 0) ((ls.take 0).flatten.map bV):=⟨hown.1,by rcases hown.2 with h|⟨g,c,cur,h1,h2,h3⟩;exact .inl h;exact .inr ⟨g,c,cur,h1,Nat.le_trans hbel.size h2,h3⟩⟩;clear hown hb))
   clear hlt
   go_loopw [6,27] (fun s i wr=>∃j:Nat,j≤k∧i= .int .i64 j∧wr.ownsRow w.heap.size 5 1 s (lens ls j) ((ls.take j).flatten.map bV)∧Below w.heap.size w wr) (fun _ i _=>k-(intOf i).toNat)
   case atStart=>exact ⟨0,by omega,rfl,hown1,hbel1⟩
   case round=>
    clear hown1 hbel1 hbel
    obtain ⟨j,hj,rfl,hown,hbel⟩:=hrel
    by_cases hlt:j<k
    ·rcases HR.out.cases with ⟨h0,_⟩|⟨b,o,_,rfl,hget⟩
     ·omega
     ·have hkl:j<ls.length:=by rw [HL.out];exact hlt
      obtain ⟨sa,sn,sc,hc,hr⟩:=hget j hkl
      have hc2:wr.cell? ⟨b,o+j,none⟩=some (.slice sa sn sc):=by rw [hbel.cell (cell_lt hc)];exact hc
      have e1:=lens_succ ls j hkl
      rw [hr.hlen] at e1
      have h2:=lens_le ls (j+1)
      have hsum:lens ls j+sn≤70368744177664:=by have:=HS.out;omega
      have HE:=Lib.hid e1
      have HF:=Lib.hid (flat_succ ls j hkl)
      have HRD:=Lib.hid (hr.below hbel)
      clear h2 e1 hc hr hget
      go_wp2_with (at_builtin;refine app_bytes _ rfl (.tmp 31) (.tmp 32) rfl w.heap.size _ (lens ls j) ((ls.take j).flatten) rfl hown sa sn sc ls[j] rfl HRD.out hsum hbel.size w hbel ?_;intro v' w2 hown2 hbel2;have HO2:Hid (w2.ownsRow w.heap.size 5 1 v' (lens ls (j+1)) ((ls.take (j+1)).flatten.map bV)):=Lib.hid (by rw [HE.out,HF.out];exact hown2);clear hown2)
      go_roundw
      case rel=>exact ⟨j+1,by omega,by go_num,HO2.out,hbel2⟩
      case measure=>simp [intOf];omega
    ·obtain rfl:j=k:=by omega
     have hO:=Lib.hid (show wr.ownsRow w.heap.size 5 1 _ ls.flatten.length (ls.flatten.map bV) from by
      have:=hown
      rw [HT.out,List.take_of_length_le (by rw [HL.out];omega)] at this;exact this)
     clear hown
     go_wp2
     go_ret
     exact ⟨_,rfl,hO.out,hbel⟩
set_option maxHeartbeats 4000000 in
theorem cat_any {a:Option Addr} {n cap:Nat} {ls:List (List UInt8)} (w:World) (h:RdRows w a n cap ls) (hs:ls.flatten.length≤70368744177664):
  Calls Tryz.prog 71 #[.slice a n cap] w fun e w'=>∃v,e= .returned v∧w'.ownsRow w.heap.size 5 1 v ls.flatten.length (ls.flatten.map bV)∧Below w.heap.size w w':=by
 go_enter Tryz.func71,Tryz.ntmps71
 go_wp2_with (go_at_call 121;go_must (refine (concat_any _ h hs).mono ?_;rintro e w1 ⟨v,rfl,ho,hb⟩;have HO:=Lib.hid ho;clear ho))
 go_ret
 exact ⟨_,rfl,HO.out,hb⟩
inductive Rows (w:World):List Value→List (List UInt8)→Prop
 |nil:Rows w [] []
 |cons {sa:Option Addr} {sn sc:Nat} {l:List UInt8} {cs:List Value} {ls:List (List UInt8)}:RdB w sa sn sc l→Rows w cs ls→Rows w (.slice sa sn sc::cs) (l::ls)
theorem Rows.get {w:World} {cs:List Value} {ls:List (List UInt8)} (h:Rows w cs ls):∀i (hi:i<ls.length),∃sa sn sc,cs[i]?=some (.slice sa sn sc)∧RdB w sa sn sc ls[i]:=by
 induction h with
 |nil=>intro i hi;simp at hi
 |cons h1 _ ih=>
  intro i hi
  cases i with
  |zero=>exact ⟨_,_,_,rfl,h1⟩
  |succ i=>obtain ⟨sa,sn,sc,h2,h3⟩:=ih i (by simpa using hi);exact ⟨sa,sn,sc,by simpa using h2,by simpa using h3⟩
theorem RdRows.blk {w:World} {g E n:Nat} {cs:List Value} {ls:List (List UInt8)} (h:Blk w g cs E) (hr:Rows w cs ls) (hn:ls.length=n) (hm:n≤maxLen):RdRows w (some ⟨g,0,none⟩) n n ls:=
 ⟨hn,Nat.le_refl _,hm,fun i hi=>by
  obtain ⟨sa,sn,sc,h2,h3⟩:=hr.get i hi
  exact ⟨g,0,sa,sn,sc,rfl,by rw [Nat.zero_add,h.cell];exact h2,h3⟩⟩
theorem or_shl (a b t:Nat) (ht:t≤64) (ha:a<2^t):bits BinOp.or IntKind.u64 (a:Int) (IntKind.u64.wrap ((b:Int)*2^t))=((a+b*2^t)%18446744073709551616:Nat):=by
 obtain ⟨s,hs⟩:∃s,t+s=64:=⟨64-t,by omega⟩
 have h1:2^t≤2^64:=Nat.pow_le_pow_right (by omega) ht
 have e:b*2^t%18446744073709551616=(b%2^s)*2^t:=by
  rw [show (18446744073709551616:Nat)=2^t*2^s from by rw [←Nat.pow_add,hs],Nat.mul_comm b,Nat.mul_mod_mul_left,Nat.mul_comm]
 have h2:b%2^s*2^t<18446744073709551616:=by rw [←e];exact Nat.mod_lt _ (by omega)
 have h3:a|||b%2^s*2^t=a+b%2^s*2^t:=by
  have h4:=Nat.shiftLeft_add_eq_or_of_lt ha (b%2^s)
  rw [Nat.shiftLeft_eq] at h4
  rw [Nat.or_comm,←h4,Nat.add_comm]
 have h5:a|||b%2^s*2^t<18446744073709551616:=Nat.or_lt_two_pow (n:=64) (by omega) h2
 rw [h3] at h5
 rw [wrapU,show ((b:Int)*2^t)%18446744073709551616=((b*2^t%18446744073709551616:Nat):Int) from by simp,u64_or_nat _ _ (by omega) (Nat.mod_lt _ (by omega)),Nat.add_mod,e,h3,Nat.mod_eq_of_lt (show a<18446744073709551616 by omega),Nat.mod_eq_of_lt h5]
theorem by0 (n:Nat):bits BinOp.or IntKind.u64 (dg n 0:Nat) (IntKind.u64.wrap ((dg n 1:Nat)*2251799813685248))=(lw n 0:Nat):=by
 have h:=or_shl (dg n 0) (dg n 1) 51 (by omega) (dg_lt _ _)
 refine Eq.trans (show _=_ from h) ?_
 congr 1
 simp only [lw,dg,Nat.reduceMul,Nat.reducePow];omega
theorem by1 (n:Nat):bits BinOp.or IntKind.u64 ((dg n 1:Nat)/8192) (IntKind.u64.wrap ((dg n 2:Nat)*274877906944))=(lw n 1:Nat):=by
 have:=dg_lt n 1
 have h:=or_shl (dg n 1/8192) (dg n 2) 38 (by omega) (by omega)
 refine Eq.trans (show _=_ from h) ?_
 congr 1
 simp only [lw,dg,Nat.reduceMul,Nat.reducePow];omega
theorem by2 (n:Nat):bits BinOp.or IntKind.u64 ((dg n 2:Nat)/67108864) (IntKind.u64.wrap ((dg n 3:Nat)*33554432))=(lw n 2:Nat):=by
 have:=dg_lt n 2
 have h:=or_shl (dg n 2/67108864) (dg n 3) 25 (by omega) (by omega)
 refine Eq.trans (show _=_ from h) ?_
 congr 1
 simp only [lw,dg,Nat.reduceMul,Nat.reducePow];omega
theorem by3 (n:Nat) (hn:n<Pq):bits BinOp.or IntKind.u64 ((dg n 3:Nat)/549755813888) (IntKind.u64.wrap ((dg n 4:Nat)*4096))=(lw n 3:Nat):=by
 have:=dg_lt n 3
 have h:=or_shl (dg n 3/549755813888) (dg n 4) 12 (by omega) (by omega)
 refine Eq.trans (show _=_ from h) ?_
 congr 1
 unfold Pq at hn
 simp only [lw,dg,Nat.reduceMul,Nat.reducePow];omega
theorem by_flat (n:Nat): [leB 8 (lw n 0),leB 8 (lw n 1),leB 8 (lw n 2),leB 8 (lw n 3)].flatten=leB 32 n:=by
 rw [show (32:Nat)=8*(3+1) from rfl,leB_words,show 8*3=8*(2+1) from rfl,leB_words,show 8*2=8*(1+1) from rfl,leB_words,show 8*1=8*(0+1) from rfl,leB_words]
 simp [leB]
theorem RdB.of8 {w:World} {g:Nat} {n:Nat} (h:Blk w g ((leB 8 n).map bV) 5):RdB w (some ⟨g,0,none⟩) 8 8 (leB 8 n):=
 RdB.blk [] (by rw [List.append_nil];exact h) (leB_len _ _) (Nat.le_refl _) (by unfold maxLen;omega)
theorem own_base {w:World} {B' B E n:Nat} {v:Value} {xs:List Value} (h:w.ownsRow B' E 1 v n xs) (hB:B≤B'):w.ownsRow B E 1 v n xs:=by
 obtain ⟨h1,h2⟩:=h
 refine ⟨h1,?_⟩
 rcases h2 with h2|⟨g,cap,cur,hv,hg,r⟩
 ·exact .inl h2
 ·exact .inr ⟨g,cap,cur,hv,Nat.le_trans hB hg,r⟩
set_option maxHeartbeats 1000000 in
theorem febytes_own {f:Nat→Nat} {x:Nat} (hf:FE f x) (w:World):
  Calls Tryz.prog 171 #[.agg #[.int .u64 (f 0:Nat),.int .u64 (f 1:Nat),.int .u64 (f 2:Nat),.int .u64 (f 3:Nat),.int .u64 (f 4:Nat)]] w fun e w'=>∃v,e= .returned v∧w'.ownsRow w.heap.size 5 1 v 32 ((leB 32 x).map bV)∧Below w.heap.size w w':=by
 have e0:=by0 x;have e1:=by1 x;have e2:=by2 x;have e3:=by3 x hf.lt
 have HFL:=Lib.hid (by_flat x)
 have HW0:=Lib.hid (lw_lt x 0);have HW1:=Lib.hid (lw_lt x 1);have HW2:=Lib.hid (lw_lt x 2);have HW3:=Lib.hid (lw_lt x 3)
 have HF:=Lib.hid hf
 clear hf
 go_enter Tryz.func171,Tryz.ntmps171
 go_upto_region 2 with (go_at_call 177;go_must (refine (whole_any HF.out _).mono ?_;rintro e w1 ⟨rfl,hb⟩;have hbel:Below w.heap.size w w1:=Below.call (by repeat (first|(with_reducible refine Below.alloc' ?_ _)|(with_reducible refine Below.drew ?_)|(with_reducible refine below_drewN ?_ _)|((with_reducible refine Below.setCell ?_ ?_ _);rotate_left;(focus (first|exact Nat.le_refl _|(simp;done)|(simp;omega))))|(with_reducible assumption)|(with_reducible exact Below.refl _ _))) hb;clear hb))
 refine wp_gen (fun W=>(W.cell? ⟨w1.heap.size,0,none⟩=some (.int .u64 (dg x 0:Nat))∧W.cell? ⟨w1.heap.size,1,none⟩=some (.int .u64 (dg x 1:Nat))∧W.cell? ⟨w1.heap.size,2,none⟩=some (.int .u64 (dg x 2:Nat))∧W.cell? ⟨w1.heap.size,3,none⟩=some (.int .u64 (dg x 3:Nat))∧W.cell? ⟨w1.heap.size,4,none⟩=some (.int .u64 (dg x 4:Nat)))∧Below w.heap.size w W) ?_ (fun W0 hW=> ?_)
 ·exact ⟨⟨(Blk.new w1 _ _).cell 0,(Blk.new w1 _ _).cell 1,(Blk.new w1 _ _).cell 2,(Blk.new w1 _ _).cell 3,(Blk.new w1 _ _).cell 4⟩,(by repeat (first|(with_reducible refine Below.alloc' ?_ _)|(with_reducible refine Below.drew ?_)|(with_reducible refine below_drewN ?_ _)|((with_reducible refine Below.setCell ?_ ?_ _);rotate_left;(focus (first|exact Nat.le_refl _|(simp;done)|(simp;omega))))|(with_reducible assumption)|(with_reducible exact Below.refl _ _)))⟩
 clear hbel
 generalize w1.heap.size=g at*
 clear w1
 have hst:∀W W':World,((W.cell? ⟨g,0,none⟩=some (.int .u64 (dg x 0:Nat))∧W.cell? ⟨g,1,none⟩=some (.int .u64 (dg x 1:Nat))∧W.cell? ⟨g,2,none⟩=some (.int .u64 (dg x 2:Nat))∧W.cell? ⟨g,3,none⟩=some (.int .u64 (dg x 3:Nat))∧W.cell? ⟨g,4,none⟩=some (.int .u64 (dg x 4:Nat)))∧Below w.heap.size w W)→Below W.heap.size W W'→((W'.cell? ⟨g,0,none⟩=some (.int .u64 (dg x 0:Nat))∧W'.cell? ⟨g,1,none⟩=some (.int .u64 (dg x 1:Nat))∧W'.cell? ⟨g,2,none⟩=some (.int .u64 (dg x 2:Nat))∧W'.cell? ⟨g,3,none⟩=some (.int .u64 (dg x 3:Nat))∧W'.cell? ⟨g,4,none⟩=some (.int .u64 (dg x 4:Nat)))∧Below w.heap.size w W'):=by
  rintro W W' ⟨h1,h3⟩ hb
  exact ⟨keep5 _ _ h1 hb,Below.call h3 hb⟩
 have hst':=Lib.hid hst;have HS0:=Lib.hid (show (fun W=>(W.cell? ⟨g,0,none⟩=some (.int .u64 (dg x 0:Nat))∧W.cell? ⟨g,1,none⟩=some (.int .u64 (dg x 1:Nat))∧W.cell? ⟨g,2,none⟩=some (.int .u64 (dg x 2:Nat))∧W.cell? ⟨g,3,none⟩=some (.int .u64 (dg x 3:Nat))∧W.cell? ⟨g,4,none⟩=some (.int .u64 (dg x 4:Nat)))∧Below w.heap.size w W) W0.drew from ⟨hW.1,hW.2.drew⟩)
 clear hst hW
 have hst:=hst'
 clear hst'
 have hF:∀W:World,((W.cell? ⟨g,0,none⟩=some (.int .u64 (dg x 0:Nat))∧W.cell? ⟨g,1,none⟩=some (.int .u64 (dg x 1:Nat))∧W.cell? ⟨g,2,none⟩=some (.int .u64 (dg x 2:Nat))∧W.cell? ⟨g,3,none⟩=some (.int .u64 (dg x 3:Nat))∧W.cell? ⟨g,4,none⟩=some (.int .u64 (dg x 4:Nat)))∧Below w.heap.size w W)→Below w.heap.size w W:=fun W h=>h.2
 go_region_held3 (fun W=>(W.cell? ⟨g,0,none⟩=some (.int .u64 (dg x 0:Nat))∧W.cell? ⟨g,1,none⟩=some (.int .u64 (dg x 1:Nat))∧W.cell? ⟨g,2,none⟩=some (.int .u64 (dg x 2:Nat))∧W.cell? ⟨g,3,none⟩=some (.int .u64 (dg x 3:Nat))∧W.cell? ⟨g,4,none⟩=some (.int .u64 (dg x 4:Nat)))∧Below w.heap.size w W) (first|(exact HS0.out)|(first|assumption|(refine hst.out _ _ ?_ hb;assumption)|(refine hst.out _ _ ?_ (Below.alloc' (Below.refl _ _) _);assumption)|(refine hst.out _ _ ?_ (Below.drew (Below.refl _ _));assumption))) ((first|(go_at_call 178;first |((with_reducible refine (little_any HW0.out _).mono ?_);rintro e w1 ⟨rfl,hB,hb⟩;have C1:=Lib.hid hb.size;have R0:=Lib.hid (RdB.of8 hB);clear hB)|((with_reducible refine (little_any HW1.out _).mono ?_);rintro e w2 ⟨rfl,hB,hb⟩;have C2:=Lib.hid hb.size;have R1:=Lib.hid (RdB.of8 hB);have Q0:=Lib.hid (R0.out.below hb);clear hB)|((with_reducible refine (little_any HW2.out _).mono ?_);rintro e w3 ⟨rfl,hB,hb⟩;have C3:=Lib.hid hb.size;have R2:=Lib.hid (RdB.of8 hB);have Q1:=Lib.hid (R1.out.below hb);have P0:=Lib.hid (Q0.out.below hb);clear hB)|((with_reducible refine (little_any HW3.out _).mono ?_);rintro e w4 ⟨rfl,hB,hb⟩;have C4:=Lib.hid hb.size;have R3:=Lib.hid (RdB.of8 hB);have Q2:=Lib.hid (R2.out.below hb);have P1:=Lib.hid (Q1.out.below hb);have N0:=Lib.hid (P0.out.below hb);clear hB))|(go_at_call 71;refine (cat_any (ls:= [leB 8 (lw x 0),leB 8 (lw x 1),leB 8 (lw x 2),leB 8 (lw x 3)]) _ (RdRows.blk (n:=4) (Blk.new _ _ _) (Rows.cons (N0.out.below (Below.alloc' (Below.refl _ _) _)) (Rows.cons (P1.out.below (Below.alloc' (Below.refl _ _) _)) (Rows.cons (Q2.out.below (Below.alloc' (Below.refl _ _) _)) (Rows.cons (R3.out.below (Below.alloc' (Below.refl _ _) _)) Rows.nil)))) rfl (by unfold maxLen;omega)) (by rw [HFL.out,leB_len];omega)).mono ?_;rintro e w5 ⟨v,rfl,ho,hb⟩;rw [HFL.out,leB_len] at ho;replace ho:=own_base (B:=w4.heap.size) ho (Below.alloc' (Below.refl _ _) _).size;have HO:=Lib.hid ho;clear ho)))
 all_goals
  go_wp2
  go_ret
  refine ⟨v,rfl,own_base HO.out ?_,hF _ (by assumption)⟩
  have c0:=HS0.out.2.size;have c1:=C1.out;have c2:=C2.out;have c3:=C3.out;have c4:=C4.out
  omega
end Go.Proofs.YtknlbpjcjdenbaaGreat
namespace Go.Proofs.YtknlbpjcjdenbaaGreat
open Go Go.RowKit
set_option maxRecDepth 10000
theorem cfV_sound {f : Nat} {fn : Func} {c : Code} (hf : Tryz.prog.funcs[f]? = some fn) (hn : (fn.name == "runtime.NumGoroutine") = false) (hb : fn.body = some c) {G : GF}
  (hG:∀l g,G l=some g→preOk g.pre→g.us= []∧avs16 g.outs=true∧∀η w vs,AvsH η (fun _=>True) w l vs→Calls Tryz.prog f vs.toArray w fun e w'=>∃v,e= .returned v∧Below w.heap.size w w'∧∀nx ηc,OutH ηc (fun _=>True) w' (g.outs.map (AV.rn nx)) v):CSound f (cfA G):=by
 refine ⟨⟨fn,c,hf,hn,hb⟩,fun nx args sl H ds res rd qs h hq hp η w vs hH hv hfree=> ?_⟩
 obtain ⟨l,rd1,h1,hl⟩:=viewsB_ok hH h hv
 split at h1
 ·split at h1
  ·rename_i outs us p e3
   have:=cfA_run h1
   subst this
   obtain ⟨g1,g2,g3⟩:=hG _ _ e3 hp
   cases (show us= [] from g1)
   refine (g3 η w vs (normAs_ok hl)).mono fun e w' ⟨v,he,hbl,ho⟩=> ?_
   obtain ⟨η',hR⟩:=ResH.many (ηc:=fun _=>none) (Ac:=fun _=>True) (pre:=p) hH hfree (us:= []) rfl hbl (fun p hp=>by cases hp) (fun p hp=>by cases hp) (fun p hp=>by cases hp) g2 (ho nx _)
   exact ⟨v,η',he,hR⟩
  ·cases h1
 ·cases h1
theorem cfN_sound {f : Nat} {fn : Func} {c : Code} (hf : Tryz.prog.funcs[f]? = some fn) (hn : (fn.name == "runtime.NumGoroutine") = false) (hb : fn.body = some c) {G : GF}
  (hG:∀l g,G l=some g→preOk g.pre→∃q:List UInt8,g.outs= [.one (.rw 0)]∧g.us= [(0,.row 5 .u8 q)]∧∀η w vs,AvsH η (fun _=>True) w l vs→Calls Tryz.prog f vs.toArray w fun e w'=>∃v,e= .returned v∧w'.ownsRow w.heap.size 5 1 v q.length (q.map bV)∧Below w.heap.size w w'):CSound f (cfA G):=by
 refine ⟨⟨fn,c,hf,hn,hb⟩,fun nx args sl H ds res rd qs h hq hp η w vs hH hv hfree=> ?_⟩
 obtain ⟨l,rd1,h1,hl⟩:=viewsB_ok hH h hv
 split at h1
 ·split at h1
  ·rename_i outs us p e3
   have:=cfA_run h1
   subst this
   obtain ⟨q,g1,g2,g3⟩:=hG _ _ e3 hp
   cases (show outs=_ from g1)
   cases (show us=_ from g2)
   refine (g3 η w vs (normAs_ok hl)).mono fun e w' ⟨v,he,ho,hbl⟩=> ?_
   have hge:∀g,fpV v=some g→w.heap.size≤g:=fun g hg=>by
    rcases ho.2 with ⟨rfl,_⟩|⟨g',cap,cur,rfl,h4,_⟩
    ·cases hg
    ·cases hg;exact h4
   have ho0:w'.ownsRow 0 5 1 v q.length (q.map bV):=⟨ho.1,ho.2.imp_right fun ⟨g',cap,cur,h4,h5,h6⟩=>⟨g',cap,cur,h4,Nat.zero_le _,h6⟩⟩
   have h1c:v.oneCell'=true:=by rcases ho.2 with ⟨rfl,_⟩|⟨g',cap,cur,rfl,_⟩<;>rfl
   obtain ⟨η',hR⟩:=ResH.many (ηc:=fun b=>if b=nx then some v else none) (Ac:=fun _=>True) (pre:=p) hH hfree (us:= [(0,.row 5 .u8 q)]) rfl hbl
    (fun p hp=>by
     rw [List.mem_singleton] at hp
     subst hp
     exact ⟨v,_,if_pos rfl,lims_u8.2 rfl,ho0⟩)
    (fun p hp r hr hne=>by
     rw [List.mem_singleton] at hp hr
     subst hp hr
     exact absurd rfl hne)
    (fun p hp g hg=>by
     rw [List.mem_singleton] at hp
     subst hp
     refine hge g ?_
     replace hg:(if nx+0=nx then some v else none).bind fpV=some g:=hg
     rw [if_pos (Nat.add_zero nx)] at hg
     exact hg) (outs:= [.one (.rw 0)]) rfl (v:=v) ⟨v,if_pos rfl,rfl,h1c⟩
   exact ⟨v,η',he,hR⟩
  ·cases h1
 ·cases h1
theorem fe_in {η:Env} {A:Nat→Prop} {w:World} {x:F} {v:Value} (h:AV.H η A w (.agg [.ob (.x 4) x]) v):∃f,v= .agg #[.int .u64 (f 0:Nat),.int .u64 (f 1:Nat),.int .u64 (f 2:Nat),.int .u64 (f 3:Nat),.int .u64 (f 4:Nat)]∧FE f x.val:=by
 obtain ⟨cs,rfl,⟨h1,t,e2,⟨f,h3,h4,rfl⟩,rfl⟩,_⟩:=h
 exact ⟨f,by rw [e2];rfl,h3,h4⟩
theorem fe_out {η:Env} {A:Nat→Prop} {w:World} {f:Nat→Nat} {n:Nat} (h:FE f n) (x:F) (e:n=x.val):AV.H η A w (.agg [.ob (.x 4) x]) (.agg #[.int .u64 (f 0:Nat),.int .u64 (f 1:Nat),.int .u64 (f 2:Nat),.int .u64 (f 3:Nat),.int .u64 (f 4:Nat)]):=
 ⟨_,rfl,⟨_,[],rfl,⟨f,h.lim,h.num.trans e,rfl⟩,rfl⟩,fun v hv=>by
  simp only [List.mem_cons,List.not_mem_nil,or_false] at hv
  rcases hv with rfl|rfl|rfl|rfl|rfl<;>rfl⟩
def gEAdd:GF:=fun l=>match l with
 | [.agg [.ob (.x 4) a],.agg [.ob (.x 4) b]]=>some ⟨[.agg [.ob (.x 4) (xAdd a b)]],[],none⟩
 |_=>none
theorem eadd_sound:CSound 110 (cfA gEAdd):=cfV_sound Tryz.func110 (by kernel_rfl) rfl fun l g h hp=>by
 unfold gEAdd at h
 split at h
 ·rename_i a b
  cases h
  refine ⟨rfl,rfl,fun η w vs ⟨v1,t,e1,h1,v2,t2,e2,h2,e3⟩=> ?_⟩
  subst e3 e2 e1
  obtain ⟨f,rfl,hf⟩:=fe_in h1
  obtain ⟨g,rfl,hg⟩:=fe_in h2
  exact (feadd_any hf hg w).mono fun e w' ⟨h,he,hh,hb⟩=>⟨_,he,hb,fun _ _=>fe_out hh (xAdd a b) (F.add_val _ _).symm⟩
 ·cases h
theorem xsub_num (a b:F):(a.val+(Pq-b.val))%Pq=(xSub a b).val:=by rw [Nat.add_comm];rfl
def gESub:GF:=fun l=>match l with
 | [.agg [.ob (.x 4) a],.agg [.ob (.x 4) b]]=>some ⟨[.agg [.ob (.x 4) (xSub a b)]],[],none⟩
 |_=>none
theorem esub_sound:CSound 108 (cfA gESub):=cfV_sound Tryz.func108 (by kernel_rfl) rfl fun l g h hp=>by
 unfold gESub at h
 split at h
 ·rename_i a b
  cases h
  refine ⟨rfl,rfl,fun η w vs ⟨v1,t,e1,h1,v2,t2,e2,h2,e3⟩=> ?_⟩
  subst e3 e2 e1
  obtain ⟨f,rfl,hf⟩:=fe_in h1
  obtain ⟨g,rfl,hg⟩:=fe_in h2
  exact (fesub_any hf hg w).mono fun e w' ⟨h,he,hh,hb⟩=>⟨_,he,hb,fun _ _=>fe_out hh (xSub a b) (xsub_num a b)⟩
 ·cases h
def gENeg:GF:=fun l=>match l with
 | [.agg [.ob (.x 4) a]]=>some ⟨[.agg [.ob (.x 4) (xNeg a)]],[],none⟩
 |_=>none
theorem eneg_sound:CSound 116 (cfA gENeg):=cfV_sound Tryz.func116 (by kernel_rfl) rfl fun l g h hp=>by
 unfold gENeg at h
 split at h
 ·rename_i a
  cases h
  refine ⟨rfl,rfl,fun η w vs ⟨v1,t,e1,h1,e3⟩=> ?_⟩
  subst e3 e1
  obtain ⟨f,rfl,hf⟩:=fe_in h1
  exact (feneg_any hf w).mono fun e w' ⟨h,he,hh,hb⟩=>⟨_,he,hb,fun _ _=>fe_out hh (xNeg a) rfl⟩
 ·cases h
def gEMul:GF:=fun l=>match l with
 | [.agg [.ob (.x 4) a],.agg [.ob (.x 4) b]]=>some ⟨[.agg [.ob (.x 4) (xMul a b)]],[],none⟩
 |_=>none
theorem emul_sound:CSound 107 (cfA gEMul):=cfV_sound Tryz.func107 (by kernel_rfl) rfl fun l g h hp=>by
 unfold gEMul at h
 split at h
 ·rename_i a b
  cases h
  refine ⟨rfl,rfl,fun η w vs ⟨v1,t,e1,h1,v2,t2,e2,h2,e3⟩=> ?_⟩
  subst e3 e2 e1
  obtain ⟨f,rfl,hf⟩:=fe_in h1
  obtain ⟨g,rfl,hg⟩:=fe_in h2
  exact (femul_any hf hg w).mono fun e w' ⟨h,he,hh,hb⟩=>⟨_,he,hb,fun _ _=>fe_out hh (xMul a b) (F.mul_val _ _).symm⟩
 ·cases h
def gEInv:GF:=fun l=>match l with
 | [.agg [.ob (.x 4) a]]=>some ⟨[.agg [.ob (.x 4) (finv a)]],[],none⟩
 |_=>none
theorem einv_sound:CSound 111 (cfA gEInv):=cfV_sound Tryz.func111 (by kernel_rfl) rfl fun l g h hp=>by
 unfold gEInv at h
 split at h
 ·rename_i a
  cases h
  refine ⟨rfl,rfl,fun η w vs ⟨v1,t,e1,h1,e3⟩=> ?_⟩
  subst e3 e1
  obtain ⟨f,rfl,hf⟩:=fe_in h1
  exact (feinv_any hf w).mono fun e w' ⟨h,he,hh,hb⟩=>⟨_,he,hb,fun _ _=>fe_out hh (finv a) rfl⟩
 ·cases h
def gESmall:GF:=fun l=>match l with
 | [.one (.ob .u64 n)]=>some ⟨[.agg [.ob (.x 4) (fn n.toNat)]],[],none⟩
 |_=>none
theorem esmall_sound:CSound 106 (cfA gESmall):=cfV_sound Tryz.func106 (by kernel_rfl) rfl fun l g h hp=>by
 unfold gESmall at h
 split at h
 ·rename_i n
  cases h
  refine ⟨rfl,rfl,fun η w vs ⟨v1,t,e1,h1,e3⟩=> ?_⟩
  subst e3 e1
  cases List.singleton_inj.1 (show [v1]= [_] from h1)
  exact (fesmall_any n.toNat_lt w).mono fun e w' ⟨he,hb⟩=>⟨_,he,hb,fun _ _=>fe_out (FE.small n.toNat_lt) (fn n.toNat) (Nat.mod_eq_of_lt (Nat.lt_trans n.toNat_lt (by decide +kernel))).symm⟩
 ·cases h
def gESame:GF:=fun l=>match l with
 | [.agg [.ob (.x 4) a],.agg [.ob (.x 4) b]]=>some ⟨[.one (.ob .bool (feEq a b))],[],none⟩
 |_=>none
theorem esame_sound:CSound 113 (cfA gESame):=cfV_sound Tryz.func113 (by kernel_rfl) rfl fun l g h hp=>by
 unfold gESame at h
 split at h
 ·rename_i a b
  cases h
  refine ⟨rfl,rfl,fun η w vs ⟨v1,t,e1,h1,v2,t2,e2,h2,e3⟩=> ?_⟩
  subst e3 e2 e1
  obtain ⟨f,rfl,hf⟩:=fe_in h1
  obtain ⟨g,rfl,hg⟩:=fe_in h2
  refine (fesame_any hf hg w).mono fun e w' ⟨he,hb⟩=>⟨_,he,hb,fun _ _=> ?_⟩
  show [Value.bool _]= [Value.bool _]
  refine congrArg (fun z=> [Value.bool z]) (decide_eq_decide.2 ⟨fun h=>F.ext' h,fun h=>congrArg Fin.val h⟩)
 ·cases h
def gEPick:GF:=fun l=>match l with
 | [.one (.ob .bool y),.agg [.ob (.x 4) a],.agg [.ob (.x 4) b]]=>some ⟨[.agg [.ob (.x 4) (match y with |true=>a|false=>b)]],[],none⟩
 |_=>none
theorem epick_sound:CSound 115 (cfA gEPick):=cfV_sound Tryz.func115 (by kernel_rfl) rfl fun l g h hp=>by
 unfold gEPick at h
 split at h
 ·rename_i y a b
  cases h
  refine ⟨rfl,rfl,fun η w vs ⟨v0,t0,e0,h0,v1,t,e1,h1,v2,t2,e2,h2,e3⟩=> ?_⟩
  subst e3 e2 e1 e0
  cases List.singleton_inj.1 (show [v0]= [_] from h0)
  obtain ⟨f,rfl,hf⟩:=fe_in h1
  obtain ⟨g,rfl,hg⟩:=fe_in h2
  refine (fepick_any y f g w).mono fun e w' ⟨he,hb⟩=>⟨_,he,hb,fun _ _=> ?_⟩
  cases y
  ·exact fe_out hg b rfl
  ·exact fe_out hf a rfl
 ·cases h
def gEBytes:GF:=fun l=>match l with
 | [.agg [.ob (.x 4) a]]=>some ⟨[.one (.rw 0)],[(0,.row 5 .u8 (leB 32 (Fin.val (n:=Pq) a)))],none⟩
 |_=>none
theorem ebytes_sound:CSound 171 (cfA gEBytes):=cfN_sound Tryz.func171 (by kernel_rfl) rfl fun l g h hp=>by
 unfold gEBytes at h
 split at h
 ·rename_i a
  cases h
  refine ⟨_,rfl,rfl,fun η w vs ⟨v1,t,e1,h1,e3⟩=> ?_⟩
  subst e3 e1
  obtain ⟨f,rfl,hf⟩:=fe_in h1
  rw [leB_len]
  exact febytes_own hf w
 ·cases h
def gEOf:GF:=fun l=>match l with
 | [.one (.ro .u8 b)]=>some ⟨[.agg [.ob (.x 4) (ofB b)]],[],none⟩
 |_=>none
theorem eof_sound:CSound 170 (cfA gEOf):=cfV_sound Tryz.func170 (by kernel_rfl) rfl fun l g h hp=>by
 unfold gEOf at h
 split at h
 ·rename_i b
  cases h
  refine ⟨rfl,rfl,fun η w vs ⟨v1,t,e1,h1,e3⟩=> ?_⟩
  subst e3 e1
  obtain ⟨u,e,hR⟩:=h1
  cases List.singleton_inj.1 e
  obtain ⟨ad,c,rfl,hr⟩:=hR.rdb
  refine (feof_any w hr).mono fun e w' ⟨he,hb⟩=>⟨_,he,hb,fun _ _=>fe_out (FE.of _) (ofB b) ?_⟩
  show leN (b.take 32++List.replicate (32-b.length) 0)%P2e255%Pq=leN (b.take 32)%P2e255%Pq
  rw [leN_pad]
 ·cases h
end Go.Proofs.YtknlbpjcjdenbaaGreat
namespace Go.Proofs.YtknlbpjcjdenbaaGreat
open Go.RowKit
theorem Wd.lw (n i:Nat):Wd (lw n i:Nat):=⟨by omega,by have:=lw_lt n i;omega⟩
theorem Cy.cy (a b i:Nat):Cy (cy a b i:Nat):=⟨by omega,by have:=cy_le a b i;omega⟩
theorem Cy.bw (a b i:Nat):Cy (bw a b i:Nat):=⟨by omega,by have:=bw_le a b i;omega⟩
theorem adds_lw (a b i:Nat):adds (lw a i:Nat) (lw b i:Nat) (cy a b i:Nat)=(lw (a+b) i:Nat):=by
 have:=(add_word a b i).1;unfold adds;omega
theorem addc_lw (a b i:Nat):addc (lw a i:Nat) (lw b i:Nat) (cy a b i:Nat)=(cy a b (i+1):Nat):=by
 have:=(add_word a b i).2;unfold addc;omega
theorem add64n (a b i j:Nat) (hj:i+1=j) (w:World):(callFunc 207 #[.int .u64 (lw a i:Nat),.int .u64 (lw b i:Nat),.int .u64 (cy a b i:Nat)]).run Tryz.prog w= .ok (.value (.tuple #[.int .u64 (lw (a+b) i:Nat),.int .u64 (cy a b j:Nat)])) w:=by
 rw [add64 (Wd.lw a i) (Wd.lw b i) (Cy.cy a b i),adds_lw,addc_lw,hj]
theorem add64n0 (a b:Nat) (w:World):(callFunc 207 #[.int .u64 (lw a 0:Nat),.int .u64 (lw b 0:Nat),.int .u64 0]).run Tryz.prog w= .ok (.value (.tuple #[.int .u64 (lw (a+b) 0:Nat),.int .u64 (cy a b 1:Nat)])) w:=by
 have:=add64n a b 0 1 rfl w
 rw [cy_zero] at this;exact this
theorem sub64n (a b i j:Nat) (hj:i+1=j) (hi:i<4) (hb:b<2^256) (w:World):(callFunc 221 #[.int .u64 (lw a i:Nat),.int .u64 (lw b i:Nat),.int .u64 (bw a b i:Nat)]).run Tryz.prog w= .ok (.value (.tuple #[.int .u64 (lw (a+2^256-b) i:Nat),.int .u64 (bw a b j:Nat)])) w:=by
 have:=sub_word a b i hi hb
 have e1:subs (lw a i:Nat) (lw b i:Nat) (bw a b i:Nat)=(lw (a+2^256-b) i:Nat):=this.1
 have e2:subc (lw a i:Nat) (lw b i:Nat) (bw a b i:Nat)=(bw a b (i+1):Nat):=this.2
 rw [sub64 (Wd.lw a i) (Wd.lw b i) (Cy.bw a b i),e1,e2,hj]
theorem fieldS (x0 x1 x2 x3:Value) (w:World):(Instr.field 121 (.agg #[x0,x1,x2,x3]) 0).run Tryz.prog w= .ok (.agg #[x0,x1,x2,x3]) w:=by kernel_rfl
theorem ix4_0 (x0 x1 x2 x3:Value) (w:World):(Instr.index 119 (.agg #[x0,x1,x2,x3]) (.int .i64 0)).run Tryz.prog w= .ok x0 w:=by kernel_rfl
theorem ix4_1 (x0 x1 x2 x3:Value) (w:World):(Instr.index 119 (.agg #[x0,x1,x2,x3]) (.int .i64 1)).run Tryz.prog w= .ok x1 w:=by kernel_rfl
theorem ix4_2 (x0 x1 x2 x3:Value) (w:World):(Instr.index 119 (.agg #[x0,x1,x2,x3]) (.int .i64 2)).run Tryz.prog w= .ok x2 w:=by kernel_rfl
theorem ix4_3 (x0 x1 x2 x3:Value) (w:World):(Instr.index 119 (.agg #[x0,x1,x2,x3]) (.int .i64 3)).run Tryz.prog w= .ok x3 w:=by kernel_rfl
set_option maxHeartbeats 400000 in
theorem plus_any (a b:Nat) (w:World):
  Calls Tryz.prog 208 #[.agg #[.int .u64 (lw a 0:Nat),.int .u64 (lw a 1:Nat),.int .u64 (lw a 2:Nat),.int .u64 (lw a 3:Nat)],.agg #[.int .u64 (lw b 0:Nat),.int .u64 (lw b 1:Nat),.int .u64 (lw b 2:Nat),.int .u64 (lw b 3:Nat)]] w fun e w'=>e= .returned (.agg #[.int .u64 (lw (a+b) 0:Nat),.int .u64 (lw (a+b) 1:Nat),.int .u64 (lw (a+b) 2:Nat),.int .u64 (lw (a+b) 3:Nat)])∧Below w.heap.size w w':=by
 have h0:=add64n0 a b
 have h1:=add64n a b 1 2 rfl
 have h2:=add64n a b 2 3 rfl
 have h3:=add64n a b 3 4 rfl
 have i0:=ix4_0
 have i1:=ix4_1
 have i2:=ix4_2
 have i3:=ix4_3
 go_enter Tryz.func208,Tryz.ntmps208
 go_wp2
 refine wp_loop_rounds 5 ?_
 iterate 5 (rw [rounds_succ];go_wp2_with fail)
 exact bodyPost_ret (v:= .agg #[.int .u64 (lw (a+b) 0:Nat),.int .u64 (lw (a+b) 1:Nat),.int .u64 (lw (a+b) 2:Nat),.int .u64 (lw (a+b) 3:Nat)]) (by simp [results,Tryz.results208,go_sem]) rfl ⟨rfl,(by repeat (first|(with_reducible refine Below.alloc' ?_ _)|(with_reducible refine Below.drew ?_)|(with_reducible refine below_drewN ?_ _)|((with_reducible refine Below.setCell ?_ ?_ _);rotate_left;(focus (first|exact Nat.le_refl _|(simp;done)|(simp;omega))))|(with_reducible assumption)|(with_reducible exact Below.refl _ _)))⟩
set_option maxHeartbeats 400000 in
theorem order_any (w:World):
  Calls Tryz.prog 220 #[] w fun e w'=>e= .returned (.agg #[.int .u64 (lw Lq 0:Nat),.int .u64 (lw Lq 1:Nat),.int .u64 (lw Lq 2:Nat),.int .u64 (lw Lq 3:Nat)])∧Below w.heap.size w w':=by
 have e0:lw Lq 0=0x5812631a5cf5d3ed:=by decide +kernel
 have e1:lw Lq 1=0x14def9dea2f79cd6:=by decide +kernel
 have e2:lw Lq 2=0:=by decide +kernel
 have e3:lw Lq 3=0x1000000000000000:=by decide +kernel
 rw [e0,e1,e2,e3]
 clear e0 e1 e2 e3
 go_enter Tryz.func220,Tryz.ntmps220
 go_wp2
 exact bodyPost_ret (v:= .agg #[.int .u64 0x5812631a5cf5d3ed,.int .u64 0x14def9dea2f79cd6,.int .u64 0,.int .u64 0x1000000000000000]) (by simp [results,Tryz.results220,go_sem]) rfl ⟨rfl,(by repeat (first|(with_reducible refine Below.alloc' ?_ _)|(with_reducible refine Below.drew ?_)|(with_reducible refine below_drewN ?_ _)|((with_reducible refine Below.setCell ?_ ?_ _);rotate_left;(focus (first|exact Nat.le_refl _|(simp;done)|(simp;omega))))|(with_reducible assumption)|(with_reducible exact Below.refl _ _)))⟩
theorem Lq_lt:Lq<2^256:=by unfold Lq;omega
theorem bw4 (a:Nat) (ha:a<2^256):bw a Lq 4=if a<Lq then 1 else 0:=by
 unfold bw
 rw [Nat.mod_eq_of_lt ha,Nat.mod_eq_of_lt Lq_lt]
def lessN (a:Nat):Nat:=a+2^256-Lq
theorem ix4 (n k:Nat) (hk:k<4) (w:World):(Instr.index 119 (.agg #[.int .u64 (lw n 0:Nat),.int .u64 (lw n 1:Nat),.int .u64 (lw n 2:Nat),.int .u64 (lw n 3:Nat)]) (.int .i64 (k:Nat))).run Tryz.prog w= .ok (.int .u64 (lw n k:Nat)) w:=by
 have h:k=0∨k=1∨k=2∨k=3:=by omega
 rcases h with rfl|rfl|rfl|rfl
 ·exact ix4_0 _ _ _ _ _
 ·exact ix4_1 _ _ _ _ _
 ·exact ix4_2 _ _ _ _ _
 ·exact ix4_3 _ _ _ _ _
def mix (n m k:Nat) (i:Nat):Value:=if i<k then wV n i else wV m i
theorem mix_set (n m k:Nat):(row 4 (mix n m k)).set k (.int .u64 (lw n k:Nat))=row 4 (mix n m (k+1)):=
 row_set k _ (by unfold mix;rw [if_pos (by omega)];rfl) (fun i _ h=>by unfold mix;by_cases h1:i<k;rw [if_pos h1,if_pos (by omega)];rw [if_neg h1,if_neg (by omega)])
theorem mix_zero (n m:Nat):row 4 (mix n m 0)=row 4 (wV m):=row_ext fun i _=>by unfold mix;rw [if_neg (by omega)]
theorem mix_four (n m:Nat):row 4 (mix n m 4)=row 4 (wV n):=row_ext fun i h=>by unfold mix;rw [if_pos h]
theorem mix_at (n m k:Nat):mix n m k k= .int .u64 (lw m k:Nat):=by unfold mix;rw [if_neg (by omega)];rfl
set_option maxHeartbeats 400000 in
theorem less_any (a:Nat) (ha:a<2^256) (w:World):
  Calls Tryz.prog 218 #[.agg #[.int .u64 (lw a 0:Nat),.int .u64 (lw a 1:Nat),.int .u64 (lw a 2:Nat),.int .u64 (lw a 3:Nat)]] w fun e w'=>e= .returned (.tuple #[.agg #[.int .u64 (lw (lessN a) 0:Nat),.int .u64 (lw (lessN a) 1:Nat),.int .u64 (lw (lessN a) 2:Nat),.int .u64 (lw (lessN a) 3:Nat)],.bool (decide (a<Lq))])∧Below w.heap.size w w':=by
 have fs:=fieldS
 have HD:Hid ((((bw a Lq 4:Nat):Int) ==1)=decide (a<Lq)):=by
  refine Lib.hid ?_
  rw [bw4 a ha];split<;>simp_all
 go_enter Tryz.func218,Tryz.ntmps218
 go_wp2_with (go_at_call 220;refine (order_any _).mono ?_;rintro e w1 ⟨rfl,hb⟩)
 have hB0:Blk w1 w.heap.size (row 4 (mix (lessN a) a 0)) 121:=by
  rw [mix_zero,row4]
  exact (((Blk.new w _ _).alloc _).below' hb)
 have hbel:Below w.heap.size w w1:=Below.call (by repeat (first|(with_reducible refine Below.alloc' ?_ _)|(with_reducible refine Below.drew ?_)|(with_reducible refine below_drewN ?_ _)|((with_reducible refine Below.setCell ?_ ?_ _);rotate_left;(focus (first|exact Nat.le_refl _|(simp;done)|(simp;omega))))|(with_reducible assumption)|(with_reducible exact Below.refl _ _))) hb
 have hO:Blk w1 (w.heap.size+1) (row 4 fun _=> .int .u64 0) 121:=(Blk.new' (by simp)).below' hb
 clear hb
 go_wp2
 go_loopw [4,9] (fun c i wr=>∃k:Nat,k≤4∧i= .int .i64 k∧c= .int .u64 (bw a Lq k:Nat)∧Blk wr w.heap.size (row 4 (mix (lessN a) a k)) 121∧Blk wr (w.heap.size+1) (row 4 fun _=> .int .u64 0) 121∧Below w.heap.size w wr) (fun _ i _=>4-(intOf i).toNat)
 case atStart=>exact ⟨0,by omega,rfl,by rw [bw_zero];rfl,hB0,hO,hbel⟩
 case round=>
  obtain ⟨k,hk,rfl,rfl,hB,hO',hbl⟩:=hrel
  by_cases hlt:k<4
  ·have hx:=ix4 Lq k hlt
   have hs:∀w:World,_:=sub64n a Lq k (k+1) rfl hlt Lq_lt
   rw [show a+2^256-Lq=lessN a from rfl] at hs
   have hcell:=hB.at hlt
   rw [mix_at] at hcell
   have hfr:=hB.frozen k
   have HB:=Lib.hid (hB.set k (.int .u64 (lw (lessN a) k:Nat)))
   have HO:=Lib.hid (hO'.other ⟨w.heap.size,k,none⟩ (by simp) (.int .u64 (lw (lessN a) k:Nat)))
   clear hB hO' hB0 hO
   go_wp2
   go_roundw
   case rel=>exact ⟨k+1,by omega,by go_num,rfl,by have:=HB.out;rw [mix_set] at this;exact this,HO.out,hbl.setCell (Nat.le_refl _) _⟩
   case measure=>simp [intOf];omega
  ·obtain rfl:k=4:=by omega
   rw [mix_four] at hB
   have h0:wr.cell? ⟨w.heap.size,0,none⟩=some (.int .u64 (lw (lessN a) 0:Nat)):=hB.at (by omega)
   have h1:wr.cell? ⟨w.heap.size,1,none⟩=some (.int .u64 (lw (lessN a) 1:Nat)):=hB.at (by omega)
   have h2:wr.cell? ⟨w.heap.size,2,none⟩=some (.int .u64 (lw (lessN a) 2:Nat)):=hB.at (by omega)
   have h3:wr.cell? ⟨w.heap.size,3,none⟩=some (.int .u64 (lw (lessN a) 3:Nat)):=hB.at (by omega)
   have o0:wr.cell? ⟨w.heap.size+1,0,none⟩=some (.int .u64 0):=hO'.at (by omega)
   have o1:wr.cell? ⟨w.heap.size+1,1,none⟩=some (.int .u64 0):=hO'.at (by omega)
   have o2:wr.cell? ⟨w.heap.size+1,2,none⟩=some (.int .u64 0):=hO'.at (by omega)
   have o3:wr.cell? ⟨w.heap.size+1,3,none⟩=some (.int .u64 0):=hO'.at (by omega)
   have f0:=hO'.frozen
   clear hB hO' hB0 hO hlt hk
   go_wp2
   exact bodyPost_ret (v:= .tuple #[.agg #[.int .u64 (lw (lessN a) 0:Nat),.int .u64 (lw (lessN a) 1:Nat),.int .u64 (lw (lessN a) 2:Nat),.int .u64 (lw (lessN a) 3:Nat)],.bool ((bw a Lq 4:Int) ==1)]) (by simp [results,Tryz.results218,go_sem,o0,o1,o2,o3]) rfl ⟨by rw [HD.out],(by repeat (first|(with_reducible refine Below.alloc' ?_ _)|(with_reducible refine Below.drew ?_)|(with_reducible refine below_drewN ?_ _)|((with_reducible refine Below.setCell ?_ ?_ _);rotate_left;(focus (first|exact Nat.le_refl _|(simp;done)|(simp;omega))))|(with_reducible assumption)|(with_reducible exact Below.refl _ _)))⟩
theorem once_lw (a i:Nat) (hi:i<4) (ha:a<2^256) (h:¬a<Lq):lw (lessN a) i=lw (a-Lq) i:=by
 unfold lessN
 rw [←lw_mod (a+2^256-Lq) i hi]
 generalize (2:Nat)^256=P at*
 rw [show a+P-Lq=(a-Lq)+P from by omega,Nat.add_mod_right,Nat.mod_eq_of_lt (by omega)]
set_option maxHeartbeats 400000 in
theorem once_any (a:Nat) (ha:a<2^256) (w:World):
  Calls Tryz.prog 209 #[.agg #[.int .u64 (lw a 0:Nat),.int .u64 (lw a 1:Nat),.int .u64 (lw a 2:Nat),.int .u64 (lw a 3:Nat)]] w fun e w'=>e= .returned (.agg #[.int .u64 (lw (once a) 0:Nat),.int .u64 (lw (once a) 1:Nat),.int .u64 (lw (once a) 2:Nat),.int .u64 (lw (once a) 3:Nat)])∧Below w.heap.size w w':=by
 by_cases hl:a<Lq
 ·rw [show once a=a from if_pos hl]
  have hd:decide (a<Lq)=true:=by simp [hl]
  clear hl
  go_enter Tryz.func209,Tryz.ntmps209
  go_wp2_with (go_at_call 218;go_must (refine (less_any a ha _).mono ?_;rintro e w1 ⟨rfl,hb⟩;obtain ⟨hc,hf⟩:=bcell hb;have hz:=hb.size;simp at hz;have hz1:w.heap.size<w1.heap.size:=(by omega);have hz2:w.heap.size+1<w1.heap.size:=(by omega)))
  have hbel:Below w.heap.size w w1:=Below.call (by repeat (first|(with_reducible refine Below.alloc' ?_ _)|(with_reducible refine Below.drew ?_)|(with_reducible refine below_drewN ?_ _)|((with_reducible refine Below.setCell ?_ ?_ _);rotate_left;(focus (first|exact Nat.le_refl _|(simp;done)|(simp;omega))))|(with_reducible assumption)|(with_reducible exact Below.refl _ _))) hb
  exact bodyPost_ret (v:= .agg #[.int .u64 (lw a 0:Nat),.int .u64 (lw a 1:Nat),.int .u64 (lw a 2:Nat),.int .u64 (lw a 3:Nat)]) (by simp [results,Tryz.results209,go_sem,hc,hz2]) rfl ⟨rfl,(by repeat (first|(with_reducible refine Below.alloc' ?_ _)|(with_reducible refine Below.drew ?_)|(with_reducible refine below_drewN ?_ _)|((with_reducible refine Below.setCell ?_ ?_ _);rotate_left;(focus (first|exact Nat.le_refl _|(simp;done)|(simp;omega))))|(with_reducible assumption)|(with_reducible exact Below.refl _ _)))⟩
 ·have e0:=once_lw a 0 (by omega) ha hl
  have e1:=once_lw a 1 (by omega) ha hl
  have e2:=once_lw a 2 (by omega) ha hl
  have e3:=once_lw a 3 (by omega) ha hl
  rw [show once a=a-Lq from if_neg hl,←e0,←e1,←e2,←e3]
  clear e0 e1 e2 e3
  have hd:decide (a<Lq)=false:=by simp;omega
  clear hl
  go_enter Tryz.func209,Tryz.ntmps209
  go_wp2_with (go_at_call 218;go_must (refine (less_any a ha _).mono ?_;rintro e w1 ⟨rfl,hb⟩;obtain ⟨hc,hf⟩:=bcell hb;have hz:=hb.size;simp at hz;have hz1:w.heap.size<w1.heap.size:=(by omega);have hz2:w.heap.size+1<w1.heap.size:=(by omega)))
  have hbel:Below w.heap.size w w1:=Below.call (by repeat (first|(with_reducible refine Below.alloc' ?_ _)|(with_reducible refine Below.drew ?_)|(with_reducible refine below_drewN ?_ _)|((with_reducible refine Below.setCell ?_ ?_ _);rotate_left;(focus (first|exact Nat.le_refl _|(simp;done)|(simp;omega))))|(with_reducible assumption)|(with_reducible exact Below.refl _ _))) hb
  refine bodyPost_ret (v:= .agg #[.int .u64 (lw (lessN a) 0:Nat),.int .u64 (lw (lessN a) 1:Nat),.int .u64 (lw (lessN a) 2:Nat),.int .u64 (lw (lessN a) 3:Nat)]) ?_ ?_ ?_
  ·simp [results,Tryz.results209,go_sem,hc,hz2]
  ·rfl
  ·exact ⟨rfl,(by repeat (first|(with_reducible refine Below.alloc' ?_ _)|(with_reducible refine Below.drew ?_)|(with_reducible refine below_drewN ?_ _)|((with_reducible refine Below.setCell ?_ ?_ _);rotate_left;(focus (first|exact Nat.le_refl _|(simp;done)|(simp;omega))))|(with_reducible assumption)|(with_reducible exact Below.refl _ _)))⟩
theorem or_digit (r N j:Nat):bits BinOp.or IntKind.u64 (lw (r+r) 0:Nat) (bits BinOp.and IntKind.u64 ((lw N (j/64):Nat)/2^(j%64)) 1)=(lw (r+r+N/2^j%2) 0:Nat):=by
 have h0:=lw_lt N (j/64)
 have h1:=lw_lt (r+r) 0
 have hb:N/2^j%2<2:=Nat.mod_lt _ (by omega)
 have hq:lw N (j/64)/2^(j%64)<18446744073709551616:=Nat.lt_of_le_of_lt (Nat.div_le_self _ _) h0
 have e:((lw N (j/64):Nat):Int)/2^(j%64)=((lw N (j/64)/2^(j%64):Nat):Int):=by simp
 rw [e,show (1:Int)=((1:Nat):Int) from rfl,u64_and_nat _ 1 hq (by omega),Nat.and_one_is_mod,lw_bit,u64_or_nat _ _ h1 (by omega),(lw_low r _ hb).1]
 congr 1
 have he:=lw_even r
 generalize lw (r+r) 0=x at*
 generalize N/2^j%2=b at*
 obtain ⟨y,rfl⟩:∃y,x=2*y:=⟨x/2,by omega⟩
 rw [show 2*y=y<<<1 from by rw [Nat.shiftLeft_eq];omega,Nat.shiftLeft_add_eq_or_of_lt (by omega)]
set_option maxHeartbeats 1000000 in
theorem reduced_any (N T:Nat) (hT1:T≤512) (hT2:512≤T) (hN:N<2^T) (w:World):
  Calls Tryz.prog 180 #[.agg #[.int .u64 (lw N 0:Nat),.int .u64 (lw N 1:Nat),.int .u64 (lw N 2:Nat),.int .u64 (lw N 3:Nat),.int .u64 (lw N 4:Nat),.int .u64 (lw N 5:Nat),.int .u64 (lw N 6:Nat),.int .u64 (lw N 7:Nat)]] w fun e w'=>e= .returned (.agg #[.int .u64 (lw (N%Lq) 0:Nat),.int .u64 (lw (N%Lq) 1:Nat),.int .u64 (lw (N%Lq) 2:Nat),.int .u64 (lw (N%Lq) 3:Nat)])∧Below w.heap.size w w':=by
 have HN:=Lib.hid hN
 clear hN
 go_enter Tryz.func180,Tryz.ntmps180
 go_wp2
 refine wp_gen (fun W=>Blk W w.heap.size (row 8 (wV N)) 188∧Blk W (w.heap.size+1) (row 4 (wV (N/2^T%Lq))) 121∧Below w.heap.size w W) ?_ (fun W hW=> ?_)
 ·refine ⟨(Blk.new w _ _).alloc _,?_,(by repeat (first|(with_reducible refine Below.alloc' ?_ _)|(with_reducible refine Below.drew ?_)|(with_reducible refine below_drewN ?_ _)|((with_reducible refine Below.setCell ?_ ?_ _);rotate_left;(focus (first|exact Nat.le_refl _|(simp;done)|(simp;omega))))|(with_reducible assumption)|(with_reducible exact Below.refl _ _)))⟩
  rw [Nat.div_eq_of_lt HN.out]
  exact Blk.new' (by simp)
 obtain ⟨hA,hO,hbel⟩:=hW
 go_loopw [3] (fun i wr=>∃k:Nat,k≤512∧i= .int .i64 ((k:Int)-1)∧Blk wr w.heap.size (row 8 (wV N)) 188∧Blk wr (w.heap.size+1) (row 4 (wV (N/2^k%Lq))) 121∧Below w.heap.size w wr) (fun i _=>(intOf i+1).toNat)
 case atStart=>exact ⟨T,by omega,by congr 1;omega,hA,hO,hbel⟩
 case round=>
  clear hA hO hbel W
  obtain ⟨k,hk,rfl,hA,hO,hbel⟩:=hrel
  by_cases hk0:k=0
  ·subst hk0
   rw [Nat.pow_zero,Nat.div_one] at hO
   clear hA hk
   have ez:(((0:Nat):Int)-1)= -1:=rfl
   rw [ez]
   clear ez
   generalize hx:N%Lq=x at*
   have HX:=Lib.hid hx
   clear hx
   have gf:=hO.frozen
   have g0:wr.cell? ⟨w.heap.size+1,0,none⟩=some (.int .u64 (lw x 0:Nat)):=hO.at (by omega);have g1:wr.cell? ⟨w.heap.size+1,1,none⟩=some (.int .u64 (lw x 1:Nat)):=hO.at (by omega);have g2:wr.cell? ⟨w.heap.size+1,2,none⟩=some (.int .u64 (lw x 2:Nat)):=hO.at (by omega);have g3:wr.cell? ⟨w.heap.size+1,3,none⟩=some (.int .u64 (lw x 3:Nat)):=hO.at (by omega)
   clear hO
   go_wp2
   exact bodyPost_ret (v:= .agg #[.int .u64 (lw x 0:Nat),.int .u64 (lw x 1:Nat),.int .u64 (lw x 2:Nat),.int .u64 (lw x 3:Nat)]) (by simp [results,Tryz.results180,go_sem,g0,g1,g2,g3]) rfl ⟨by rw [HX.out],(by repeat (first|(with_reducible refine Below.alloc' ?_ _)|(with_reducible refine Below.drew ?_)|(with_reducible refine below_drewN ?_ _)|((with_reducible refine Below.setCell ?_ ?_ _);rotate_left;(focus (first|exact Nat.le_refl _|(simp;done)|(simp;omega))))|(with_reducible assumption)|(with_reducible exact Below.refl _ _)))⟩
  ·obtain ⟨j,rfl⟩:∃j,k=j+1:=⟨k-1,by omega⟩
   have ej:(((j+1:Nat):Int)-1)=(j:Int):=by omega
   rw [ej]
   clear ej hk0
   have hr:N/2^(j+1)%Lq<Lq:=Nat.mod_lt _ (by unfold Lq;omega)
   have HS:=Lib.hid (reduced_step N j)
   have HB:=Lib.hid (or_digit (N/2^(j+1)%Lq) N j)
   have hbit:N/2^j%2<2:=Nat.mod_lt _ (by omega)
   have HL:=Lib.hid (lw_low (N/2^(j+1)%Lq) _ hbit)
   generalize hrr:N/2^(j+1)%Lq=r at*
   clear hrr
   have h0:wr.cell? ⟨w.heap.size+1,0,none⟩=some (.int .u64 (lw r 0:Nat)):=hO.at (by omega);have h1:wr.cell? ⟨w.heap.size+1,1,none⟩=some (.int .u64 (lw r 1:Nat)):=hO.at (by omega);have h2:wr.cell? ⟨w.heap.size+1,2,none⟩=some (.int .u64 (lw r 2:Nat)):=hO.at (by omega);have h3:wr.cell? ⟨w.heap.size+1,3,none⟩=some (.int .u64 (lw r 3:Nat)):=hO.at (by omega)
   go_wp2_with (go_at_call 208;go_must (refine (plus_any r r _).mono ?_;rintro e w1 ⟨rfl,hb⟩;have hO1:=hO.below' hb;have hA1:=hA.below' hb;have hbel1:=hbel.trans (hb.mono hbel.size);have gf:=hO1.frozen;have g0:w1.cell? ⟨w.heap.size+1,0,none⟩=some (.int .u64 (lw r 0:Nat)):=hO1.at (by omega);have g1:w1.cell? ⟨w.heap.size+1,1,none⟩=some (.int .u64 (lw r 1:Nat)):=hO1.at (by omega);have g2:w1.cell? ⟨w.heap.size+1,2,none⟩=some (.int .u64 (lw r 2:Nat)):=hO1.at (by omega);have g3:w1.cell? ⟨w.heap.size+1,3,none⟩=some (.int .u64 (lw r 3:Nat)):=hO1.at (by omega);clear hb hO hA hbel h0 h1 h2 h3))
   refine wp_gen (fun W=>Blk W w.heap.size (row 8 (wV N)) 188∧Blk W (w.heap.size+1) (row 4 (wV (r+r))) 121∧Below w.heap.size w W) ?_ (fun W hW=> ?_)
   ·exact ⟨(((hA1.other _ (by simp) _).other _ (by simp) _).other _ (by simp) _).other _ (by simp) _,(((hO1.set 0 _).set 1 _).set 2 _).set 3 _,(by repeat (first|(with_reducible refine Below.alloc' ?_ _)|(with_reducible refine Below.drew ?_)|(with_reducible refine below_drewN ?_ _)|((with_reducible refine Below.setCell ?_ ?_ _);rotate_left;(focus (first|exact Nat.le_refl _|(simp;done)|(simp;omega))))|(with_reducible assumption)|(with_reducible exact Below.refl _ _)))⟩
   obtain ⟨hA2,hO2,hbel2⟩:=hW
   clear hA1 hO1 hbel1 gf g0 g1 g2 g3
   have c0:W.cell? ⟨w.heap.size+1,0,none⟩=some (.int .u64 (lw (r+r) 0:Nat)):=hO2.at (by omega)
   have cf:=hO2.frozen 0
   have hj:j/64<8:=by omega
   have c1:W.cell? ⟨w.heap.size,j/64,none⟩=some (.int .u64 (lw N (j/64):Nat)):=hA2.at hj
   have hw0:(0:Int)≤(lw N (j/64):Nat):=by omega
   have hw1:((lw N (j/64):Nat):Int)<18446744073709551616:=by have:=lw_lt N (j/64);omega
   go_region
   rw [HB.out]
   have hO3:Blk W (w.heap.size+1) (row 4 (fun i=>if i=0 then wV (r+r) 0 else wV (r+r+N/2^j%2) i)) 121:=by
    rw [row_ext (g:=wV (r+r))]
    ·exact hO2
    ·intro i _
     cases i with
     |zero=>rfl
     |succ i=>unfold wV;simp only [Nat.add_eq_zero_iff,Nat.succ_ne_self,and_false,if_false];rw [HL.out.2]
   have o1:W.cell? ⟨w.heap.size+1,1,none⟩=some (.int .u64 (lw (r+r+N/2^j%2) 1:Nat)):=hO3.at (by omega)
   have o2:W.cell? ⟨w.heap.size+1,2,none⟩=some (.int .u64 (lw (r+r+N/2^j%2) 2:Nat)):=hO3.at (by omega)
   have o3:W.cell? ⟨w.heap.size+1,3,none⟩=some (.int .u64 (lw (r+r+N/2^j%2) 3:Nat)):=hO3.at (by omega)
   have hO4:=hO3.set 0 (wV (r+r+N/2^j%2) 0)
   rw [row_set (g:=wV (r+r+N/2^j%2)) 0 _ rfl (fun i _ h=>by rw [if_neg h])] at hO4
   clear hO2 hO3 c1 hw0 hw1 hj HB HL
   have hA4:=hA2.other ⟨w.heap.size+1,0,none⟩ (by simp) (wV (r+r+N/2^j%2) 0)
   have hbel4:Below w.heap.size w (W.setCell ⟨w.heap.size+1,0,none⟩ (wV (r+r+N/2^j%2) 0)):=(by repeat (first|(with_reducible refine Below.alloc' ?_ _)|(with_reducible refine Below.drew ?_)|(with_reducible refine below_drewN ?_ _)|((with_reducible refine Below.setCell ?_ ?_ _);rotate_left;(focus (first|exact Nat.le_refl _|(simp;done)|(simp;omega))))|(with_reducible assumption)|(with_reducible exact Below.refl _ _)))
   have hbd:r+r+N/2^j%2<2^256:=by unfold Lq at hr;omega
   rw [show 2*r+N/2^j%2=r+r+N/2^j%2 from by omega] at HS
   generalize hx:r+r+N/2^j%2=x at*
   clear hx
   unfold wV at hO4 hA4 hbel4
   go_wp2_with (go_at_call 209;go_must (refine (once_any x hbd _).mono ?_;rintro e w2 ⟨rfl,hb⟩;have hO5:=(Blk.drew hO4).below' hb;have hA5:=(Blk.drew hA4).below' hb;have hbel5:=(Below.drew hbel4).trans (hb.mono (Below.drew hbel4).size);have gf:=hO5.frozen;have g0:w2.cell? ⟨w.heap.size+1,0,none⟩=some (.int .u64 (lw x 0:Nat)):=hO5.at (by omega);have g1:w2.cell? ⟨w.heap.size+1,1,none⟩=some (.int .u64 (lw x 1:Nat)):=hO5.at (by omega);have g2:w2.cell? ⟨w.heap.size+1,2,none⟩=some (.int .u64 (lw x 2:Nat)):=hO5.at (by omega);have g3:w2.cell? ⟨w.heap.size+1,3,none⟩=some (.int .u64 (lw x 3:Nat)):=hO5.at (by omega);clear hb hO4 hA4 hbel4 o1 o2 o3 c0 cf hA2 hbel2))
   go_roundw
   case rel=>
    refine ⟨j,by omega,by first |rfl|(congr 1;omega),(((hA5.other _ (by simp) _).other _ (by simp) _).other _ (by simp) _).other _ (by simp) _,?_,(by repeat (first|(with_reducible refine Below.alloc' ?_ _)|(with_reducible refine Below.drew ?_)|(with_reducible refine below_drewN ?_ _)|((with_reducible refine Below.setCell ?_ ?_ _);rotate_left;(focus (first|exact Nat.le_refl _|(simp;done)|(simp;omega))))|(with_reducible assumption)|(with_reducible exact Below.refl _ _)))⟩
    rw [←HS.out]
    exact (((hO5.set 0 _).set 1 _).set 2 _).set 3 _
   case measure=>simp [intOf]<;>omega
theorem row8 (f:Nat→Value):row 8 f= [f 0,f 1,f 2,f 3,f 4,f 5,f 6,f 7]:=rfl
theorem row8_zero:row 8 (wV 0)= [.int .u64 0,.int .u64 0,.int .u64 0,.int .u64 0,.int .u64 0,.int .u64 0,.int .u64 0,.int .u64 0]:=by
 simp only [row8,wV0]
set_option maxHeartbeats 1000000 in
theorem wide_any {a:Option Addr} {n cap:Nat} {l:List UInt8} (w:World) (h:RdB w a n cap l):
  Calls Tryz.prog 118 #[.slice a n cap] w fun e w'=>e= .returned (.agg #[.int .u64 (lw (leN (first l 64)%Lq) 0:Nat),.int .u64 (lw (leN (first l 64)%Lq) 1:Nat),.int .u64 (lw (leN (first l 64)%Lq) 2:Nat),.int .u64 (lw (leN (first l 64)%Lq) 3:Nat)])∧Below w.heap.size w w':=by
 have hlen:=first_len l 64
 generalize hfl:first l 64=fl at*
 have HF:=Lib.hid hfl;have HL:=Lib.hid hlen
 clear hfl hlen
 go_enter Tryz.func118,Tryz.ntmps118
 go_wp2_with (go_at_call 179;go_must (refine (first_any 64 (by omega) _ (h.below (by repeat (first|(with_reducible refine Below.alloc' ?_ _)|(with_reducible refine Below.drew ?_)|(with_reducible refine below_drewN ?_ _)|((with_reducible refine Below.setCell ?_ ?_ _);rotate_left;(focus (first|exact Nat.le_refl _|(simp;done)|(simp;omega))))|(with_reducible assumption)|(with_reducible exact Below.refl _ _))))).mono ?_;rintro e w1 ⟨rfl,hB,hb⟩))
 have hbel:Below w.heap.size w w1:=Below.call (by repeat (first|(with_reducible refine Below.alloc' ?_ _)|(with_reducible refine Below.drew ?_)|(with_reducible refine below_drewN ?_ _)|((with_reducible refine Below.setCell ?_ ?_ _);rotate_left;(focus (first|exact Nat.le_refl _|(simp;done)|(simp;omega))))|(with_reducible assumption)|(with_reducible exact Below.refl _ _))) hb
 have hO:Blk w1 w.heap.size (row 4 (wV 0)) 121:=by
  simp only [row4,wV0]
  exact ((Blk.new w _ _).alloc _).below' hb
 have hA:Blk w1 (w.heap.size+1) (row 8 (wV (leN (fl.take 0)))) 188:=by
  rw [List.take_zero,show leN []=0 from rfl,row8_zero]
  exact (Blk.new' (by simp)).below' hb
 rw [HF.out] at hB
 clear hb h
 have hB:Blk w1 (w.heap.size+1+1) (fl.map bV) 5:=by simpa using hB
 go_loopw [9] (fun i wr=>∃k:Nat,k≤64∧i= .int .i64 k∧Blk wr (w.heap.size+1) (row 8 (wV (leN (fl.take k)))) 188∧Blk wr w.heap.size (row 4 (wV 0)) 121∧Blk wr (w.heap.size+1+1) (fl.map bV) 5∧Below w.heap.size w wr) (fun i _=>64-(intOf i).toNat)
 case atStart=>exact ⟨0,by omega,rfl,hA,hO,hB,hbel⟩
 case round=>
  clear hA hO hB hbel
  obtain ⟨k,hk,rfl,hA,hO,hB,hbel⟩:=hrel
  by_cases hlt:k<64
  ·have hkl:k<fl.length:=by rw [HL.out];exact hlt
   have hcb:wr.cell? ⟨w.heap.size+1+1,k,none⟩=some (.int .u8 (fl[k].toNat:Int)):=by rw [hB.cell];simp [hkl,bV]
   have HT:=Lib.hid (leN_take fl k hkl)
   have hn:=leN_take_lt fl k
   have HC:=Lib.hid (fl[k].toNat_lt)
   generalize leN (fl.take k)=x at*
   generalize fl[k].toNat=c at*
   obtain ⟨ci,hci⟩:∃ci:Int,ci=(c:Int):=⟨_,rfl⟩
   have HI:=Lib.hid hci
   rw [←hci] at hcb
   have hc0:0≤ci:=by omega
   have hc1:ci<256:=by have:=HC.out;omega
   clear hci
   have hq:k/8<8:=by omega
   have ca:wr.cell? ⟨w.heap.size+1,k/8,none⟩=some (.int .u64 (lw x (k/8):Nat)):=hA.at hq
   have cf:=hA.frozen (k/8)
   have HN:=Lib.hid hn
   have HS:=Lib.hid (or_byteI x k c ci HI.out HN.out HC.out)
   have HO:=Lib.hid hO;have HB:=Lib.hid hB;have HA:=Lib.hid hA
   clear hn hO hB hA
   go_wp2
   go_region
   rw [HS.out]
   have hA2:=HA.out.set (k/8) (wV (x+c*256^k) (k/8))
   rw [row_set (g:=wV (x+c*256^k)) _ _ rfl (fun i _ hi=>by unfold wV;rw [or_other x k c i HN.out HC.out hi])] at hA2
   have hO2:=HO.out.other ⟨w.heap.size+1,k/8,none⟩ (by simp) (wV (x+c*256^k) (k/8))
   have hB2:=HB.out.other ⟨w.heap.size+1,k/8,none⟩ (by simp) (wV (x+c*256^k) (k/8))
   have HA2:=Lib.hid hA2;have HO2:=Lib.hid hO2;have HB2:=Lib.hid hB2
   clear hA2 hO2 hB2 ca cf hcb
   go_wp2
   go_roundw
   case rel=>exact ⟨k+1,by omega,by go_num,by rw [HT.out];exact HA2.out.drew,HO2.out.drew,HB2.out.drew,(by repeat (first|(with_reducible refine Below.alloc' ?_ _)|(with_reducible refine Below.drew ?_)|(with_reducible refine below_drewN ?_ _)|((with_reducible refine Below.setCell ?_ ?_ _);rotate_left;(focus (first|exact Nat.le_refl _|(simp;done)|(simp;omega))))|(with_reducible assumption)|(with_reducible exact Below.refl _ _)))⟩
   case measure=>simp [intOf]<;>omega
  ·obtain rfl:k=64:=by omega
   rw [List.take_of_length_le (by rw [HL.out];omega)] at hA
   have hN:leN fl<2^(8*64):=by have:=leN_lt fl;rw [HL.out,p256] at this;exact this
   have HN:=Lib.hid hN
   clear hN hB hlt hk
   generalize hx:leN fl=x at*
   have HX:=Lib.hid hx
   clear hx
   have g0:wr.cell? ⟨w.heap.size+1,0,none⟩=some (.int .u64 (lw x 0:Nat)):=hA.at (by omega);have g1:wr.cell? ⟨w.heap.size+1,1,none⟩=some (.int .u64 (lw x 1:Nat)):=hA.at (by omega);have g2:wr.cell? ⟨w.heap.size+1,2,none⟩=some (.int .u64 (lw x 2:Nat)):=hA.at (by omega);have g3:wr.cell? ⟨w.heap.size+1,3,none⟩=some (.int .u64 (lw x 3:Nat)):=hA.at (by omega);have g4:wr.cell? ⟨w.heap.size+1,4,none⟩=some (.int .u64 (lw x 4:Nat)):=hA.at (by omega);have g5:wr.cell? ⟨w.heap.size+1,5,none⟩=some (.int .u64 (lw x 5:Nat)):=hA.at (by omega);have g6:wr.cell? ⟨w.heap.size+1,6,none⟩=some (.int .u64 (lw x 6:Nat)):=hA.at (by omega);have g7:wr.cell? ⟨w.heap.size+1,7,none⟩=some (.int .u64 (lw x 7:Nat)):=hA.at (by omega)
   go_wp2_with (go_at_call 180;go_must (refine (reduced_any x (8*64) (by omega) (by omega) HN.out _).mono ?_;rintro e w2 ⟨rfl,hb⟩;have hO1:=hO.below' hb;have hbel1:=Below.call hbel hb;have gf:=hO1.frozen;have o0:w2.cell? ⟨w.heap.size,0,none⟩=some (.int .u64 (lw 0 0:Nat)):=hO1.at (by omega);have o1:w2.cell? ⟨w.heap.size,1,none⟩=some (.int .u64 (lw 0 1:Nat)):=hO1.at (by omega);have o2:w2.cell? ⟨w.heap.size,2,none⟩=some (.int .u64 (lw 0 2:Nat)):=hO1.at (by omega);have o3:w2.cell? ⟨w.heap.size,3,none⟩=some (.int .u64 (lw 0 3:Nat)):=hO1.at (by omega);clear hb hO hA))
   exact bodyPost_ret (v:= .agg #[.int .u64 (lw (x%Lq) 0:Nat),.int .u64 (lw (x%Lq) 1:Nat),.int .u64 (lw (x%Lq) 2:Nat),.int .u64 (lw (x%Lq) 3:Nat)]) (by simp [results,Tryz.results118,go_sem,o0,o1,o2,o3]) rfl ⟨by rw [HX.out],(by repeat (first|(with_reducible refine Below.alloc' ?_ _)|(with_reducible refine Below.drew ?_)|(with_reducible refine below_drewN ?_ _)|((with_reducible refine Below.setCell ?_ ?_ _);rotate_left;(focus (first|exact Nat.le_refl _|(simp;done)|(simp;omega))))|(with_reducible assumption)|(with_reducible exact Below.refl _ _)))⟩
set_option maxHeartbeats 1000000 in
theorem bytes_own (n:Nat) (w:World):
  Calls Tryz.prog 119 #[.agg #[.int .u64 (lw n 0:Nat),.int .u64 (lw n 1:Nat),.int .u64 (lw n 2:Nat),.int .u64 (lw n 3:Nat)]] w fun e w'=>∃v,e= .returned v∧w'.ownsRow w.heap.size 5 1 v 32 ((leB 32 n).map bV)∧Below w.heap.size w w':=by
 obtain ⟨i0,hi,hz0,hz1,hz2⟩:=info_parts infoU8
 go_enter Tryz.func119,Tryz.ntmps119
 go_wp2
 go_loopw [2,7] (fun v i wr=>∃k:Nat,k≤4∧i= .int .i64 k∧wr.ownsRow w.heap.size 5 1 v (8*k) ((leB (8*k) n).map bV)∧Below w.heap.size w wr) (fun _ i _=>4-(intOf i).toNat)
 case atStart=>exact ⟨0,by omega,rfl,⟨rfl,.inl ⟨rfl,rfl⟩⟩,(by repeat (first|(with_reducible refine Below.alloc' ?_ _)|(with_reducible refine Below.drew ?_)|(with_reducible refine below_drewN ?_ _)|((with_reducible refine Below.setCell ?_ ?_ _);rotate_left;(focus (first|exact Nat.le_refl _|(simp;done)|(simp;omega))))|(with_reducible assumption)|(with_reducible exact Below.refl _ _)))⟩
 case round=>
  obtain ⟨k,hk,rfl,hown,hbel⟩:=hrel
  by_cases hlt:k<4
  ·have hx:=ix4 n k hlt
   have hw:=lw_lt n k
   have HW:=Lib.hid (leB_words n k)
   have HI:=Lib.hid hi;have HZ0:=Lib.hid hz0;have HZ1:=Lib.hid hz1;have HZ2:=Lib.hid hz2
   clear hi hz0 hz1 hz2
   go_wp2_with (first|(go_at_call 178;go_must (refine (little_any hw _).mono ?_;rintro e w1 ⟨rfl,hB,hb⟩;have hown1:=own_below hown hb;have hbel1:=Below.call hbel hb;have HB:=Lib.hid hB;clear hown hbel hB hb))|(at_builtin;go_must (refine wpList_append_own _ rfl (.tmp 10) (.tmp 12) 30 rfl w.heap.size 5 i0 (.int .u8 0) 1 1 Tryz.underlying30 HI.out HZ0.out HZ1.out HZ2.out rfl (by decide) _ (8*k) _ rfl hown1 ⟨wr.heap.size,0,none⟩ 8 8 ((leB 8 (lw n k)).map bV) rfl ?c1 ?c2 (bV_one _) ?c3 ?c4 hbel1.size ?c5)))
   case c1=>simp [leB_len]
   case c2=>
    intro j u hu
    have:=HB.out.cell j
    rw [addr_add,Nat.zero_add,this];exact hu
   case c3=>unfold maxLen;omega
   case c4=>omega
   case c5=>
    intro v' w2 hown2 hgr _
    rw [←List.map_append,←HW.out,show 8*k+8=8*(k+1) from rfl] at hown2
    have hbel2:Below w.heap.size w w2:=hbel1.grown hgr hbel1.size (fun q hq=>by
     rcases hown1.2 with ⟨h,_⟩|⟨g,cap,cur,hv,hg,_⟩
     ·rw [h] at hq;simp [Value.ownBlock] at hq
     ·rw [hv] at hq;simp [Value.ownBlock] at hq;omega)
    clear hown1 hbel1 hgr HB HW HI HZ0 HZ1 HZ2 hw hx
    go_wp2
    go_roundw
    case rel=>exact ⟨k+1,by omega,by go_num,hown2,hbel2⟩
    case measure=>simp [intOf]<;>omega
  ·obtain rfl:k=4:=by omega
   have HO:=Lib.hid hown
   clear hown hi hz0 hz1 hz2
   go_wp2
   go_ret
   exact ⟨_,rfl,HO.out,hbel⟩
set_option maxHeartbeats 1000000 in
theorem scbit_any (n k:Nat) (hk:k<256) (w:World):
  Calls Tryz.prog 126 #[.agg #[.int .u64 (lw n 0:Nat),.int .u64 (lw n 1:Nat),.int .u64 (lw n 2:Nat),.int .u64 (lw n 3:Nat)],.int .i64 k] w fun e w'=>e= .returned (.int .i64 (n/2^k%2:Nat))∧Below w.heap.size w w':=by
 have hx: [Value.int IntKind.u64 (lw n 0:Nat),Value.int IntKind.u64 (lw n 1:Nat),Value.int IntKind.u64 (lw n 2:Nat),Value.int IntKind.u64 (lw n 3:Nat)][k/64]?=some (.int .u64 (lw n (k/64):Nat)):=by
  have h:k/64=0∨k/64=1∨k/64=2∨k/64=3:=by omega
  rcases h with h|h|h|h<;>rw [h]<;>rfl
 have HB:Hid (bits BinOp.and IntKind.u64 (((lw n (k/64):Nat):Int)/2^(k%64)) 1=(n/2^k%2:Nat)):=by
  refine Lib.hid ?_
  have hq:lw n (k/64)/2^(k%64)<18446744073709551616:=Nat.lt_of_le_of_lt (Nat.div_le_self _ _) (lw_lt _ _)
  have e:((lw n (k/64):Nat):Int)/2^(k%64)=((lw n (k/64)/2^(k%64):Nat):Int):=by simp
  rw [e,show (1:Int)=((1:Nat):Int) from rfl,u64_and_nat _ 1 hq (by omega),Nat.and_one_is_mod,lw_bit]
 have hl:=lw_lt n (k/64)
 generalize lw n (k/64)=x at*
 obtain ⟨xi,hxi⟩:∃xi:Int,xi=(x:Int):=⟨_,rfl⟩
 rw [←hxi] at hx HB
 have hx0:0≤xi:=by omega
 have hx1:xi<18446744073709551616:=by omega
 clear hxi hl
 go_enter Tryz.func126,Tryz.ntmps126
 go_wp2
 go_ret
 refine ⟨ret_int (b:=(n/2^k%2:Nat)) ?_,(by repeat (first|(with_reducible refine Below.alloc' ?_ _)|(with_reducible refine Below.drew ?_)|(with_reducible refine below_drewN ?_ _)|((with_reducible refine Below.setCell ?_ ?_ _);rotate_left;(focus (first|exact Nat.le_refl _|(simp;done)|(simp;omega))))|(with_reducible assumption)|(with_reducible exact Below.refl _ _)))⟩
 rw [HB.out,IntWalk.wrap64_in];omega
def FF (f:Nat→Nat) (x:F):Prop:=FE f x.val
theorem fnegM {f:Nat→Nat} {x:F} (hf:FF f x) (w:World):
  Calls Tryz.prog 116 #[.agg #[.int .u64 (f 0:Nat),.int .u64 (f 1:Nat),.int .u64 (f 2:Nat),.int .u64 (f 3:Nat),.int .u64 (f 4:Nat)]] w fun e w'=>∃h,e= .returned (.agg #[.int .u64 (h 0:Nat),.int .u64 (h 1:Nat),.int .u64 (h 2:Nat),.int .u64 (h 3:Nat),.int .u64 (h 4:Nat)])∧FF h (-x)∧Below w.heap.size w w':=feneg_any hf w
theorem fmulM {f g:Nat→Nat} {x y:F} (hf:FF f x) (hg:FF g y) (w:World):
  Calls Tryz.prog 107 #[.agg #[.int .u64 (f 0:Nat),.int .u64 (f 1:Nat),.int .u64 (f 2:Nat),.int .u64 (f 3:Nat),.int .u64 (f 4:Nat)],.agg #[.int .u64 (g 0:Nat),.int .u64 (g 1:Nat),.int .u64 (g 2:Nat),.int .u64 (g 3:Nat),.int .u64 (g 4:Nat)]] w fun e w'=>∃h,e= .returned (.agg #[.int .u64 (h 0:Nat),.int .u64 (h 1:Nat),.int .u64 (h 2:Nat),.int .u64 (h 3:Nat),.int .u64 (h 4:Nat)])∧FF h (x*y)∧Below w.heap.size w w':=femul_any hf hg w
theorem fsameM {f g:Nat→Nat} {x y:F} (hf:FF f x) (hg:FF g y) (w:World):
  Calls Tryz.prog 113 #[.agg #[.int .u64 (f 0:Nat),.int .u64 (f 1:Nat),.int .u64 (f 2:Nat),.int .u64 (f 3:Nat),.int .u64 (f 4:Nat)],.agg #[.int .u64 (g 0:Nat),.int .u64 (g 1:Nat),.int .u64 (g 2:Nat),.int .u64 (g 3:Nat),.int .u64 (g 4:Nat)]] w fun e w'=>e= .returned (.bool (decide (x=y)))∧Below w.heap.size w w':=by
 refine (fesame_any hf hg w).mono ?_
 rintro e w' ⟨rfl,hb⟩
 exact ⟨ret_bool (by by_cases h:x=y<;>simp [h,Fin.val_inj]),hb⟩
theorem fsameT {f g:Nat→Nat} {x y:F} (hf:FF f x) (hg:FF g y) (h:x=y) (w:World):
  Calls Tryz.prog 113 #[.agg #[.int .u64 (f 0:Nat),.int .u64 (f 1:Nat),.int .u64 (f 2:Nat),.int .u64 (f 3:Nat),.int .u64 (f 4:Nat)],.agg #[.int .u64 (g 0:Nat),.int .u64 (g 1:Nat),.int .u64 (g 2:Nat),.int .u64 (g 3:Nat),.int .u64 (g 4:Nat)]] w fun e w'=>e= .returned (.bool true)∧Below w.heap.size w w':=by
 refine (fsameM hf hg w).mono ?_
 rintro e w' ⟨rfl,hb⟩
 exact ⟨ret_bool (by simp [h]),hb⟩
theorem fsameF {f g:Nat→Nat} {x y:F} (hf:FF f x) (hg:FF g y) (h:x≠y) (w:World):
  Calls Tryz.prog 113 #[.agg #[.int .u64 (f 0:Nat),.int .u64 (f 1:Nat),.int .u64 (f 2:Nat),.int .u64 (f 3:Nat),.int .u64 (f 4:Nat)],.agg #[.int .u64 (g 0:Nat),.int .u64 (g 1:Nat),.int .u64 (g 2:Nat),.int .u64 (g 3:Nat),.int .u64 (g 4:Nat)]] w fun e w'=>e= .returned (.bool false)∧Below w.heap.size w w':=by
 refine (fsameM hf hg w).mono ?_
 rintro e w' ⟨rfl,hb⟩
 exact ⟨ret_bool (by simp [h]),hb⟩
theorem foddM {f:Nat→Nat} {x:F} (hf:FF f x) (w:World):
  Calls Tryz.prog 176 #[.agg #[.int .u64 (f 0:Nat),.int .u64 (f 1:Nat),.int .u64 (f 2:Nat),.int .u64 (f 3:Nat),.int .u64 (f 4:Nat)]] w fun e w'=>e= .returned (.bool (decide (x.val%2=1)))∧Below w.heap.size w w':=feodd_any hf w
theorem fpowM {f:Nat→Nat} {x:F} (N T:Nat) (hT1:T≤256) (hT2:256≤T) (hN:N<2^T) (hf:FF f x) (w:World):
  Calls Tryz.prog 174 #[.agg #[.int .u64 (f 0:Nat),.int .u64 (f 1:Nat),.int .u64 (f 2:Nat),.int .u64 (f 3:Nat),.int .u64 (f 4:Nat)],.agg #[.int .u64 (lw N 0:Nat),.int .u64 (lw N 1:Nat),.int .u64 (lw N 2:Nat),.int .u64 (lw N 3:Nat)]] w fun e w'=>∃h,e= .returned (.agg #[.int .u64 (h 0:Nat),.int .u64 (h 1:Nat),.int .u64 (h 2:Nat),.int .u64 (h 3:Nat),.int .u64 (h 4:Nat)])∧FF h (fpow x N)∧Below w.heap.size w w':=power_any N T hT1 hT2 hN hf w
theorem FF.zero:FF (fun _=>0) 0:=FE.zero
def turnF (i:Nat):Nat:=if i=0 then 1718705420411056 else if i=1 then 234908883556509 else if i=2 then 2233514472574048 else if i=3 then 2117202627021982 else 765476049583133
theorem FF.turn:FF turnF sqm1:=⟨⟨by decide,by decide,by decide,by decide,by decide⟩,by decide +kernel⟩
theorem fturnM (w:World):Calls Tryz.prog 175 #[] w fun e w'=>∃h,e= .returned (.agg #[.int .u64 (h 0:Nat),.int .u64 (h 1:Nat),.int .u64 (h 2:Nat),.int .u64 (h 3:Nat),.int .u64 (h 4:Nat)])∧FF h sqm1∧Below w.heap.size w w':=by
 go_enter Tryz.func175,Tryz.ntmps175
 go_wp2
 exact bodyPost_ret (v:= .agg #[.int .u64 1718705420411056,.int .u64 234908883556509,.int .u64 2233514472574048,.int .u64 2117202627021982,.int .u64 765476049583133]) (by simp [results,Tryz.results175,go_sem]) rfl ⟨turnF,rfl,FF.turn,(by repeat (first|(with_reducible refine Below.alloc' ?_ _)|(with_reducible refine Below.drew ?_)|(with_reducible refine below_drewN ?_ _)|((with_reducible refine Below.setCell ?_ ?_ _);rotate_left;(focus (first|exact Nat.le_refl _|(simp;done)|(simp;omega))))|(with_reducible assumption)|(with_reducible exact Below.refl _ _)))⟩
theorem fpow8 {f:Nat→Nat} {x:F} (hf:FF f x) (w:World):
  Calls Tryz.prog 174 #[.agg #[.int .u64 (f 0:Nat),.int .u64 (f 1:Nat),.int .u64 (f 2:Nat),.int .u64 (f 3:Nat),.int .u64 (f 4:Nat)],.agg #[.int .u64 18446744073709551614,.int .u64 18446744073709551615,.int .u64 18446744073709551615,.int .u64 1152921504606846975]] w fun e w'=>∃h,e= .returned (.agg #[.int .u64 (h 0:Nat),.int .u64 (h 1:Nat),.int .u64 (h 2:Nat),.int .u64 (h 3:Nat),.int .u64 (h 4:Nat)])∧FF h (fpow x exp8)∧Below w.heap.size w w':=by
 have hP:=fpowM exp8 (8*32) (by omega) (by omega) (by decide +kernel) hf w
 rw [show lw exp8 0=18446744073709551614 from by decide +kernel,show lw exp8 1=18446744073709551615 from by decide +kernel,show lw exp8 2=18446744073709551615 from by decide +kernel,show lw exp8 3=1152921504606846975 from by decide +kernel] at hP
 exact hP
theorem root_keep {f r:Nat→Nat} {A g o:Nat} {w:World}:∀W W':World,((W.cell? ⟨A,0,none⟩=some (.int .u64 (f 0:Nat))∧W.cell? ⟨A,1,none⟩=some (.int .u64 (f 1:Nat))∧W.cell? ⟨A,2,none⟩=some (.int .u64 (f 2:Nat))∧W.cell? ⟨A,3,none⟩=some (.int .u64 (f 3:Nat))∧W.cell? ⟨A,4,none⟩=some (.int .u64 (f 4:Nat)))∧(W.cell? ⟨g,0,none⟩=some (.int .u64 (r 0:Nat))∧W.cell? ⟨g,1,none⟩=some (.int .u64 (r 1:Nat))∧W.cell? ⟨g,2,none⟩=some (.int .u64 (r 2:Nat))∧W.cell? ⟨g,3,none⟩=some (.int .u64 (r 3:Nat))∧W.cell? ⟨g,4,none⟩=some (.int .u64 (r 4:Nat)))∧Blk W A [.int .u64 (f 0:Nat),.int .u64 (f 1:Nat),.int .u64 (f 2:Nat),.int .u64 (f 3:Nat),.int .u64 (f 4:Nat)] 114∧Blk W g [.int .u64 (r 0:Nat),.int .u64 (r 1:Nat),.int .u64 (r 2:Nat),.int .u64 (r 3:Nat),.int .u64 (r 4:Nat)] 114∧Blk W (o) [.int .u64 0,.int .u64 0,.int .u64 0,.int .u64 0,.int .u64 0] 114∧Below w.heap.size w W)→Below W.heap.size W W'→((W'.cell? ⟨A,0,none⟩=some (.int .u64 (f 0:Nat))∧W'.cell? ⟨A,1,none⟩=some (.int .u64 (f 1:Nat))∧W'.cell? ⟨A,2,none⟩=some (.int .u64 (f 2:Nat))∧W'.cell? ⟨A,3,none⟩=some (.int .u64 (f 3:Nat))∧W'.cell? ⟨A,4,none⟩=some (.int .u64 (f 4:Nat)))∧(W'.cell? ⟨g,0,none⟩=some (.int .u64 (r 0:Nat))∧W'.cell? ⟨g,1,none⟩=some (.int .u64 (r 1:Nat))∧W'.cell? ⟨g,2,none⟩=some (.int .u64 (r 2:Nat))∧W'.cell? ⟨g,3,none⟩=some (.int .u64 (r 3:Nat))∧W'.cell? ⟨g,4,none⟩=some (.int .u64 (r 4:Nat)))∧Blk W' A [.int .u64 (f 0:Nat),.int .u64 (f 1:Nat),.int .u64 (f 2:Nat),.int .u64 (f 3:Nat),.int .u64 (f 4:Nat)] 114∧Blk W' g [.int .u64 (r 0:Nat),.int .u64 (r 1:Nat),.int .u64 (r 2:Nat),.int .u64 (r 3:Nat),.int .u64 (r 4:Nat)] 114∧Blk W' (o) [.int .u64 0,.int .u64 0,.int .u64 0,.int .u64 0,.int .u64 0] 114∧Below w.heap.size w W'):=by
 rintro W W' ⟨h1,h2,h3,h4,h5,h6⟩ hb
 exact ⟨keep5 _ _ h1 hb,keep5 _ _ h2 hb,h3.below' hb,h4.below' hb,h5.below' hb,Below.call h6 hb⟩
theorem root_drew {f r:Nat→Nat} {A g o:Nat} {w W:World} (h:((W.cell? ⟨A,0,none⟩=some (.int .u64 (f 0:Nat))∧W.cell? ⟨A,1,none⟩=some (.int .u64 (f 1:Nat))∧W.cell? ⟨A,2,none⟩=some (.int .u64 (f 2:Nat))∧W.cell? ⟨A,3,none⟩=some (.int .u64 (f 3:Nat))∧W.cell? ⟨A,4,none⟩=some (.int .u64 (f 4:Nat)))∧(W.cell? ⟨g,0,none⟩=some (.int .u64 (r 0:Nat))∧W.cell? ⟨g,1,none⟩=some (.int .u64 (r 1:Nat))∧W.cell? ⟨g,2,none⟩=some (.int .u64 (r 2:Nat))∧W.cell? ⟨g,3,none⟩=some (.int .u64 (r 3:Nat))∧W.cell? ⟨g,4,none⟩=some (.int .u64 (r 4:Nat)))∧Blk W A [.int .u64 (f 0:Nat),.int .u64 (f 1:Nat),.int .u64 (f 2:Nat),.int .u64 (f 3:Nat),.int .u64 (f 4:Nat)] 114∧Blk W g [.int .u64 (r 0:Nat),.int .u64 (r 1:Nat),.int .u64 (r 2:Nat),.int .u64 (r 3:Nat),.int .u64 (r 4:Nat)] 114∧Blk W (o) [.int .u64 0,.int .u64 0,.int .u64 0,.int .u64 0,.int .u64 0] 114∧Below w.heap.size w W)):((W.drew.cell? ⟨A,0,none⟩=some (.int .u64 (f 0:Nat))∧W.drew.cell? ⟨A,1,none⟩=some (.int .u64 (f 1:Nat))∧W.drew.cell? ⟨A,2,none⟩=some (.int .u64 (f 2:Nat))∧W.drew.cell? ⟨A,3,none⟩=some (.int .u64 (f 3:Nat))∧W.drew.cell? ⟨A,4,none⟩=some (.int .u64 (f 4:Nat)))∧(W.drew.cell? ⟨g,0,none⟩=some (.int .u64 (r 0:Nat))∧W.drew.cell? ⟨g,1,none⟩=some (.int .u64 (r 1:Nat))∧W.drew.cell? ⟨g,2,none⟩=some (.int .u64 (r 2:Nat))∧W.drew.cell? ⟨g,3,none⟩=some (.int .u64 (r 3:Nat))∧W.drew.cell? ⟨g,4,none⟩=some (.int .u64 (r 4:Nat)))∧Blk W.drew A [.int .u64 (f 0:Nat),.int .u64 (f 1:Nat),.int .u64 (f 2:Nat),.int .u64 (f 3:Nat),.int .u64 (f 4:Nat)] 114∧Blk W.drew g [.int .u64 (r 0:Nat),.int .u64 (r 1:Nat),.int .u64 (r 2:Nat),.int .u64 (r 3:Nat),.int .u64 (r 4:Nat)] 114∧Blk W.drew (o) [.int .u64 0,.int .u64 0,.int .u64 0,.int .u64 0,.int .u64 0] 114∧Below w.heap.size w W.drew):=root_keep _ _ h (Below.drew (Below.refl _ _))
theorem root_mk {f r:Nat→Nat} {A g o:Nat} {w W:World} (h3:Blk W A [.int .u64 (f 0:Nat),.int .u64 (f 1:Nat),.int .u64 (f 2:Nat),.int .u64 (f 3:Nat),.int .u64 (f 4:Nat)] 114) (h4:Blk W g [.int .u64 (r 0:Nat),.int .u64 (r 1:Nat),.int .u64 (r 2:Nat),.int .u64 (r 3:Nat),.int .u64 (r 4:Nat)] 114) (h5:Blk W o [.int .u64 0,.int .u64 0,.int .u64 0,.int .u64 0,.int .u64 0] 114) (h6:Below w.heap.size w W):((W.cell? ⟨A,0,none⟩=some (.int .u64 (f 0:Nat))∧W.cell? ⟨A,1,none⟩=some (.int .u64 (f 1:Nat))∧W.cell? ⟨A,2,none⟩=some (.int .u64 (f 2:Nat))∧W.cell? ⟨A,3,none⟩=some (.int .u64 (f 3:Nat))∧W.cell? ⟨A,4,none⟩=some (.int .u64 (f 4:Nat)))∧(W.cell? ⟨g,0,none⟩=some (.int .u64 (r 0:Nat))∧W.cell? ⟨g,1,none⟩=some (.int .u64 (r 1:Nat))∧W.cell? ⟨g,2,none⟩=some (.int .u64 (r 2:Nat))∧W.cell? ⟨g,3,none⟩=some (.int .u64 (r 3:Nat))∧W.cell? ⟨g,4,none⟩=some (.int .u64 (r 4:Nat)))∧Blk W A [.int .u64 (f 0:Nat),.int .u64 (f 1:Nat),.int .u64 (f 2:Nat),.int .u64 (f 3:Nat),.int .u64 (f 4:Nat)] 114∧Blk W g [.int .u64 (r 0:Nat),.int .u64 (r 1:Nat),.int .u64 (r 2:Nat),.int .u64 (r 3:Nat),.int .u64 (r 4:Nat)] 114∧Blk W (o) [.int .u64 0,.int .u64 0,.int .u64 0,.int .u64 0,.int .u64 0] 114∧Below w.heap.size w W):=
 ⟨⟨h3.cell 0,h3.cell 1,h3.cell 2,h3.cell 3,h3.cell 4⟩,⟨h4.cell 0,h4.cell 1,h4.cell 2,h4.cell 3,h4.cell 4⟩,h3,h4,h5,h6⟩
set_option maxHeartbeats 1000000 in
theorem rootM {f:Nat→Nat} {x:F} (hf:FF f x) (w:World):
  Calls Tryz.prog 112 #[.agg #[.int .u64 (f 0:Nat),.int .u64 (f 1:Nat),.int .u64 (f 2:Nat),.int .u64 (f 3:Nat),.int .u64 (f 4:Nat)]] w fun e w'=>∃h,e= .returned (.tuple #[.agg #[.int .u64 (h 0:Nat),.int .u64 (h 1:Nat),.int .u64 (h 2:Nat),.int .u64 (h 3:Nat),.int .u64 (h 4:Nat)],.int .i64 (rootC x)])∧FF h (rootV x)∧Below w.heap.size w w':=by
 have hbE:=buildE
 go_enter Tryz.func112,Tryz.ntmps112
 go_upto_region 2 with (go_at_call 174;go_must (refine (fpow8 hf _).mono ?_;rintro e w1 ⟨r,rfl,hr,hb⟩;have hA:=((Blk.new w #[.int .u64 (f 0:Nat),.int .u64 (f 1:Nat),.int .u64 (f 2:Nat),.int .u64 (f 3:Nat),.int .u64 (f 4:Nat)] 114).alloc _).below' hb;have hO:=(show Blk _ (w.heap.size+1) [.int .u64 0,.int .u64 0,.int .u64 0,.int .u64 0,.int .u64 0] 114 from (by repeat (first|(with_reducible refine Blk.drew ?_)|exact Blk.new' (by simp)|(with_reducible refine Blk.alloc ?_ _)))).below' hb;have hbel:Below w.heap.size w w1:=Below.call (by repeat (first|(with_reducible refine Below.alloc' ?_ _)|(with_reducible refine Below.drew ?_)|(with_reducible refine below_drewN ?_ _)|((with_reducible refine Below.setCell ?_ ?_ _);rotate_left;(focus (first|exact Nat.le_refl _|(simp;done)|(simp;omega))))|(with_reducible assumption)|(with_reducible exact Below.refl _ _))) hb;clear hb))
 refine wp_gen (fun W=>((W.cell? ⟨w.heap.size,0,none⟩=some (.int .u64 (f 0:Nat))∧W.cell? ⟨w.heap.size,1,none⟩=some (.int .u64 (f 1:Nat))∧W.cell? ⟨w.heap.size,2,none⟩=some (.int .u64 (f 2:Nat))∧W.cell? ⟨w.heap.size,3,none⟩=some (.int .u64 (f 3:Nat))∧W.cell? ⟨w.heap.size,4,none⟩=some (.int .u64 (f 4:Nat)))∧(W.cell? ⟨w1.heap.size,0,none⟩=some (.int .u64 (r 0:Nat))∧W.cell? ⟨w1.heap.size,1,none⟩=some (.int .u64 (r 1:Nat))∧W.cell? ⟨w1.heap.size,2,none⟩=some (.int .u64 (r 2:Nat))∧W.cell? ⟨w1.heap.size,3,none⟩=some (.int .u64 (r 3:Nat))∧W.cell? ⟨w1.heap.size,4,none⟩=some (.int .u64 (r 4:Nat)))∧Blk W w.heap.size [.int .u64 (f 0:Nat),.int .u64 (f 1:Nat),.int .u64 (f 2:Nat),.int .u64 (f 3:Nat),.int .u64 (f 4:Nat)] 114∧Blk W w1.heap.size [.int .u64 (r 0:Nat),.int .u64 (r 1:Nat),.int .u64 (r 2:Nat),.int .u64 (r 3:Nat),.int .u64 (r 4:Nat)] 114∧Blk W (w.heap.size+1) [.int .u64 0,.int .u64 0,.int .u64 0,.int .u64 0,.int .u64 0] 114∧Below w.heap.size w W)) ?_ (fun W0 hW=> ?_)
 ·exact root_mk (hA.alloc _) (Blk.new w1 _ _) (hO.alloc _) (Below.alloc' hbel _)
 have hg1:w.heap.size+1<w1.heap.size:=hO.lt
 clear hA hO hbel
 generalize w1.heap.size=g at*
 clear w1
 have hst1:=Lib.hid (root_keep (f:=f) (r:=r) (A:=w.heap.size) (g:=g) (o:=w.heap.size+1) (w:=w))
 have HS1:=Lib.hid (root_drew hW)
 clear hW
 have hst:=hst1
 by_cases e1:fpow x exp8*fpow x exp8=x
 ·have E1:=Lib.hid e1
  have HC:Hid (cand x=fpow x exp8):=Lib.hid (by unfold cand;rw [if_pos e1])
  have HR:Hid (rootC x=0):=Lib.hid (by unfold rootC;rw [HC.out,if_pos e1])
  have E2:=E1
  clear e1
  generalize fpow x exp8=y at*
  go_region_held3 (fun W=>((W.cell? ⟨w.heap.size,0,none⟩=some (.int .u64 (f 0:Nat))∧W.cell? ⟨w.heap.size,1,none⟩=some (.int .u64 (f 1:Nat))∧W.cell? ⟨w.heap.size,2,none⟩=some (.int .u64 (f 2:Nat))∧W.cell? ⟨w.heap.size,3,none⟩=some (.int .u64 (f 3:Nat))∧W.cell? ⟨w.heap.size,4,none⟩=some (.int .u64 (f 4:Nat)))∧(W.cell? ⟨g,0,none⟩=some (.int .u64 (r 0:Nat))∧W.cell? ⟨g,1,none⟩=some (.int .u64 (r 1:Nat))∧W.cell? ⟨g,2,none⟩=some (.int .u64 (r 2:Nat))∧W.cell? ⟨g,3,none⟩=some (.int .u64 (r 3:Nat))∧W.cell? ⟨g,4,none⟩=some (.int .u64 (r 4:Nat)))∧Blk W w.heap.size [.int .u64 (f 0:Nat),.int .u64 (f 1:Nat),.int .u64 (f 2:Nat),.int .u64 (f 3:Nat),.int .u64 (f 4:Nat)] 114∧Blk W g [.int .u64 (r 0:Nat),.int .u64 (r 1:Nat),.int .u64 (r 2:Nat),.int .u64 (r 3:Nat),.int .u64 (r 4:Nat)] 114∧Blk W (w.heap.size+1) [.int .u64 0,.int .u64 0,.int .u64 0,.int .u64 0,.int .u64 0] 114∧Below w.heap.size w W)) (first|(exact HS1.out)|(first|assumption|(refine hst.out _ _ ?_ hb;assumption)|(refine hst.out _ _ ?_ (Below.alloc' (Below.refl _ _) _);assumption)|(refine hst.out _ _ ?_ (Below.drew (Below.refl _ _));assumption))) ((first|(go_at_call 107;(with_reducible refine (fmulM hr hr _).mono ?_);rintro e wm ⟨m1,rfl,hm1,hb⟩)|(go_at_call 113;(with_reducible refine (fsameT hm1 hf E1.out _).mono ?_);rintro e ws ⟨rfl,hb⟩)))
  rename_i hh
  have HS2:=Lib.hid (root_drew hh)
  clear hh HS1 hst1
  go_wp2
  go_region_held3 (fun W=>((W.cell? ⟨w.heap.size,0,none⟩=some (.int .u64 (f 0:Nat))∧W.cell? ⟨w.heap.size,1,none⟩=some (.int .u64 (f 1:Nat))∧W.cell? ⟨w.heap.size,2,none⟩=some (.int .u64 (f 2:Nat))∧W.cell? ⟨w.heap.size,3,none⟩=some (.int .u64 (f 3:Nat))∧W.cell? ⟨w.heap.size,4,none⟩=some (.int .u64 (f 4:Nat)))∧(W.cell? ⟨g,0,none⟩=some (.int .u64 (r 0:Nat))∧W.cell? ⟨g,1,none⟩=some (.int .u64 (r 1:Nat))∧W.cell? ⟨g,2,none⟩=some (.int .u64 (r 2:Nat))∧W.cell? ⟨g,3,none⟩=some (.int .u64 (r 3:Nat))∧W.cell? ⟨g,4,none⟩=some (.int .u64 (r 4:Nat)))∧Blk W w.heap.size [.int .u64 (f 0:Nat),.int .u64 (f 1:Nat),.int .u64 (f 2:Nat),.int .u64 (f 3:Nat),.int .u64 (f 4:Nat)] 114∧Blk W g [.int .u64 (r 0:Nat),.int .u64 (r 1:Nat),.int .u64 (r 2:Nat),.int .u64 (r 3:Nat),.int .u64 (r 4:Nat)] 114∧Blk W (w.heap.size+1) [.int .u64 0,.int .u64 0,.int .u64 0,.int .u64 0,.int .u64 0] 114∧Below w.heap.size w W)) (first|(exact HS2.out)|(first|assumption|(refine hst.out _ _ ?_ hb;assumption)|(refine hst.out _ _ ?_ (Below.alloc' (Below.refl _ _) _);assumption)|(refine hst.out _ _ ?_ (Below.drew (Below.refl _ _));assumption))) ((first|(go_at_call 107;(with_reducible refine (fmulM hr hr _).mono ?_);rintro e wm ⟨m2,rfl,hm2,hb⟩)|(go_at_call 113;(with_reducible refine (fsameT hm2 hf E2.out _).mono ?_);rintro e ws ⟨rfl,hb⟩)))
  rename_i hh
  have hhH:=Lib.hid hh
  clear hh hst HS2
  by_cases hp:y.val%2=1
  ·have HV:Hid (rootV x= -y):=Lib.hid (by unfold rootV;rw [HC.out,if_pos E2.out,if_pos hp])
   have HP:Hid (decide (y.val%2=1)=true):=Lib.hid (decide_eq_true hp)
   clear hp
   have c0:=hhH.out.2.1.1;have c1:=hhH.out.2.1.2.1;have c2:=hhH.out.2.1.2.2.1;have c3:=hhH.out.2.1.2.2.2.1;have c4:=hhH.out.2.1.2.2.2.2
   have hne:¬g=w.heap.size+1:=by omega
   have hne2:¬w.heap.size+1=g:=by omega
   go_wp2_with (first | (go_at_call 176; go_must (refine (foddM hr _).mono ?_; rintro e w2 ⟨rfl, hb⟩; rw [HP.out]; have h2 := Lib.hid (root_keep _ _ hhH.out hb); clear c0 c1 c2 c3 c4 hb; have c0 := h2.out.2.1.1; have c1 := h2.out.2.1.2.1; have c2 := h2.out.2.1.2.2.1; have c3 := h2.out.2.1.2.2.2.1; have c4 := h2.out.2.1.2.2.2.2; have rf := h2.out.2.2.2.1.frozen))         | (go_at_call 116; go_must (refine (fnegM hr _).mono ?_; rintro e w3 ⟨q, rfl, hq, hb⟩; have h3 := root_keep _ _ h2.out hb; have hG := h3.2.2.2.1.frozen; have gc := h3.2.2.2.1.cell; have oc := h3.2.2.2.2.1.cell; have of := h3.2.2.2.2.1.frozen; have hbel := h3.2.2.2.2.2; clear c0 c1 c2 c3 c4 rf hb h2 h3)))
   exact bodyPost_ret (v:= .tuple #[.agg #[.int .u64 (q 0:Nat),.int .u64 (q 1:Nat),.int .u64 (q 2:Nat),.int .u64 (q 3:Nat),.int .u64 (q 4:Nat)],.int .i64 0]) (by simp [results,Tryz.results112,go_sem,oc]) rfl ⟨q,by rw [HR.out],by rw [HV.out];exact hq,(by repeat (first|(with_reducible refine Below.alloc' ?_ _)|(with_reducible refine Below.drew ?_)|(with_reducible refine below_drewN ?_ _)|((with_reducible refine Below.setCell ?_ ?_ _);rotate_left;(focus (first|exact Nat.le_refl _|(simp;done)|(simp;omega))))|(with_reducible assumption)|(with_reducible exact Below.refl _ _)))⟩
  ·have HV:Hid (rootV x=y):=Lib.hid (by unfold rootV;rw [HC.out,if_pos E2.out,if_neg hp])
   have HP:Hid (decide (y.val%2=1)=false):=Lib.hid (decide_eq_false hp)
   clear hp
   have c0:=hhH.out.2.1.1;have c1:=hhH.out.2.1.2.1;have c2:=hhH.out.2.1.2.2.1;have c3:=hhH.out.2.1.2.2.2.1;have c4:=hhH.out.2.1.2.2.2.2
   have hne:¬g=w.heap.size+1:=by omega
   have hne2:¬w.heap.size+1=g:=by omega
   go_wp2_with (first|(go_at_call 176;go_must (refine (foddM hr _).mono ?_;rintro e w2 ⟨rfl,hb⟩;rw [HP.out];have h2:=root_keep _ _ hhH.out hb;clear c0 c1 c2 c3 c4 hb;have gc:=h2.2.2.2.1.cell;have oc:=h2.2.2.2.2.1.cell;have of:=h2.2.2.2.2.1.frozen;have hbel:=h2.2.2.2.2.2;clear h2)))
   exact bodyPost_ret (v:= .tuple #[.agg #[.int .u64 (r 0:Nat),.int .u64 (r 1:Nat),.int .u64 (r 2:Nat),.int .u64 (r 3:Nat),.int .u64 (r 4:Nat)],.int .i64 0]) (by simp [results,Tryz.results112,go_sem,oc]) rfl ⟨r,by rw [HR.out],by rw [HV.out];exact hr,(by repeat (first|(with_reducible refine Below.alloc' ?_ _)|(with_reducible refine Below.drew ?_)|(with_reducible refine below_drewN ?_ _)|((with_reducible refine Below.setCell ?_ ?_ _);rotate_left;(focus (first|exact Nat.le_refl _|(simp;done)|(simp;omega))))|(with_reducible assumption)|(with_reducible exact Below.refl _ _)))⟩
 ·have E1:=Lib.hid e1
  have HC:Hid (cand x=fpow x exp8*sqm1):=Lib.hid (by unfold cand;rw [if_neg e1])
  clear e1
  go_region_held3 (fun W=>((W.cell? ⟨w.heap.size,0,none⟩=some (.int .u64 (f 0:Nat))∧W.cell? ⟨w.heap.size,1,none⟩=some (.int .u64 (f 1:Nat))∧W.cell? ⟨w.heap.size,2,none⟩=some (.int .u64 (f 2:Nat))∧W.cell? ⟨w.heap.size,3,none⟩=some (.int .u64 (f 3:Nat))∧W.cell? ⟨w.heap.size,4,none⟩=some (.int .u64 (f 4:Nat)))∧(W.cell? ⟨g,0,none⟩=some (.int .u64 (r 0:Nat))∧W.cell? ⟨g,1,none⟩=some (.int .u64 (r 1:Nat))∧W.cell? ⟨g,2,none⟩=some (.int .u64 (r 2:Nat))∧W.cell? ⟨g,3,none⟩=some (.int .u64 (r 3:Nat))∧W.cell? ⟨g,4,none⟩=some (.int .u64 (r 4:Nat)))∧Blk W w.heap.size [.int .u64 (f 0:Nat),.int .u64 (f 1:Nat),.int .u64 (f 2:Nat),.int .u64 (f 3:Nat),.int .u64 (f 4:Nat)] 114∧Blk W g [.int .u64 (r 0:Nat),.int .u64 (r 1:Nat),.int .u64 (r 2:Nat),.int .u64 (r 3:Nat),.int .u64 (r 4:Nat)] 114∧Blk W (w.heap.size+1) [.int .u64 0,.int .u64 0,.int .u64 0,.int .u64 0,.int .u64 0] 114∧Below w.heap.size w W)) (first|(exact HS1.out)|(first|assumption|(refine hst.out _ _ ?_ hb;assumption)|(refine hst.out _ _ ?_ (Below.alloc' (Below.refl _ _) _);assumption)|(refine hst.out _ _ ?_ (Below.drew (Below.refl _ _));assumption))) ((first|(go_at_call 107;(with_reducible refine (fmulM hr hr _).mono ?_);rintro e wm ⟨m1,rfl,hm1,hb⟩)|(go_at_call 113;(with_reducible refine (fsameF hm1 hf E1.out _).mono ?_);rintro e ws ⟨rfl,hb⟩)))
  rename_i hh
  have HS2:=Lib.hid (root_drew hh)
  have hh':=Lib.hid hh
  clear hh HS1 hst1 HS2
  have c0:=hh'.out.2.1.1;have c1:=hh'.out.2.1.2.1;have c2:=hh'.out.2.1.2.2.1;have c3:=hh'.out.2.1.2.2.2.1;have c4:=hh'.out.2.1.2.2.2.2
  go_wp2
  go_region_with ((first|(go_at_call 175;(with_reducible refine (fturnM _).mono ?_);rintro e wt ⟨t,rfl,ht,hb⟩;have h2:=Lib.hid (root_keep _ _ (root_drew hh'.out) hb);clear c0 c1 c2 c3 c4 hb;have c0:=h2.out.2.1.1;have c1:=h2.out.2.1.2.1;have c2:=h2.out.2.1.2.2.1;have c3:=h2.out.2.1.2.2.2.1;have c4:=h2.out.2.1.2.2.2.2)|(go_at_call 107;(with_reducible refine (fmulM hr ht _).mono ?_);rintro e wm ⟨q,rfl,hq,hb⟩;have h3:=Lib.hid (root_keep _ _ h2.out hb);clear c0 c1 c2 c3 c4 hb;have c0:=h3.out.2.1.1;have c1:=h3.out.2.1.2.1;have c2:=h3.out.2.1.2.2.1;have c3:=h3.out.2.1.2.2.2.1;have c4:=h3.out.2.1.2.2.2.2;have rf:=h3.out.2.2.2.1.frozen)))
  all_goals
   go_wp2
   refine wp_gen (fun W=>((W.cell? ⟨w.heap.size,0,none⟩=some (.int .u64 (f 0:Nat))∧W.cell? ⟨w.heap.size,1,none⟩=some (.int .u64 (f 1:Nat))∧W.cell? ⟨w.heap.size,2,none⟩=some (.int .u64 (f 2:Nat))∧W.cell? ⟨w.heap.size,3,none⟩=some (.int .u64 (f 3:Nat))∧W.cell? ⟨w.heap.size,4,none⟩=some (.int .u64 (f 4:Nat)))∧(W.cell? ⟨g,0,none⟩=some (.int .u64 (q 0:Nat))∧W.cell? ⟨g,1,none⟩=some (.int .u64 (q 1:Nat))∧W.cell? ⟨g,2,none⟩=some (.int .u64 (q 2:Nat))∧W.cell? ⟨g,3,none⟩=some (.int .u64 (q 3:Nat))∧W.cell? ⟨g,4,none⟩=some (.int .u64 (q 4:Nat)))∧Blk W w.heap.size [.int .u64 (f 0:Nat),.int .u64 (f 1:Nat),.int .u64 (f 2:Nat),.int .u64 (f 3:Nat),.int .u64 (f 4:Nat)] 114∧Blk W g [.int .u64 (q 0:Nat),.int .u64 (q 1:Nat),.int .u64 (q 2:Nat),.int .u64 (q 3:Nat),.int .u64 (q 4:Nat)] 114∧Blk W (w.heap.size+1) [.int .u64 0,.int .u64 0,.int .u64 0,.int .u64 0,.int .u64 0] 114∧Below w.heap.size w W)) ?_ (fun W hW=> ?_)
   ·have hbel:=h3.out.2.2.2.2.2
    exact root_mk (((((h3.out.2.2.1.other ⟨g,0,none⟩ (by simp;omega) (.int .u64 (q 0:Nat))).other ⟨g,1,none⟩ (by simp;omega) (.int .u64 (q 1:Nat))).other ⟨g,2,none⟩ (by simp;omega) (.int .u64 (q 2:Nat))).other ⟨g,3,none⟩ (by simp;omega) (.int .u64 (q 3:Nat))).other ⟨g,4,none⟩ (by simp;omega) (.int .u64 (q 4:Nat))) (((((h3.out.2.2.2.1.set 0 (.int .u64 (q 0:Nat))).set 1 (.int .u64 (q 1:Nat))).set 2 (.int .u64 (q 2:Nat))).set 3 (.int .u64 (q 3:Nat))).set 4 (.int .u64 (q 4:Nat))) (((((h3.out.2.2.2.2.1.other ⟨g,0,none⟩ (by simp;omega) (.int .u64 (q 0:Nat))).other ⟨g,1,none⟩ (by simp;omega) (.int .u64 (q 1:Nat))).other ⟨g,2,none⟩ (by simp;omega) (.int .u64 (q 2:Nat))).other ⟨g,3,none⟩ (by simp;omega) (.int .u64 (q 3:Nat))).other ⟨g,4,none⟩ (by simp;omega) (.int .u64 (q 4:Nat))) (by exact (by repeat (first|(with_reducible refine Below.alloc' ?_ _)|(with_reducible refine Below.drew ?_)|(with_reducible refine below_drewN ?_ _)|((with_reducible refine Below.setCell ?_ ?_ _);rotate_left;(focus (first|exact Nat.le_refl _|(simp;done)|(simp;omega))))|(with_reducible assumption)|(with_reducible exact Below.refl _ _))))
   clear h2 h3 hh' c0 c1 c2 c3 c4 rf hst
   have HS2:=Lib.hid (root_drew hW)
   clear hW
   have hst1:=Lib.hid (root_keep (f:=f) (r:=q) (A:=w.heap.size) (g:=g) (o:=w.heap.size+1) (w:=w))
   have hst:=hst1
   by_cases e2:(fpow x exp8*sqm1)*(fpow x exp8*sqm1)=x
   ·have E2:=Lib.hid e2
    have HR:Hid (rootC x=0):=Lib.hid (by unfold rootC;rw [HC.out,if_pos e2])
    clear e2
    generalize fpow x exp8*sqm1=y at*
    clear hst1
    go_region_held3 (fun W=>((W.cell? ⟨w.heap.size,0,none⟩=some (.int .u64 (f 0:Nat))∧W.cell? ⟨w.heap.size,1,none⟩=some (.int .u64 (f 1:Nat))∧W.cell? ⟨w.heap.size,2,none⟩=some (.int .u64 (f 2:Nat))∧W.cell? ⟨w.heap.size,3,none⟩=some (.int .u64 (f 3:Nat))∧W.cell? ⟨w.heap.size,4,none⟩=some (.int .u64 (f 4:Nat)))∧(W.cell? ⟨g,0,none⟩=some (.int .u64 (q 0:Nat))∧W.cell? ⟨g,1,none⟩=some (.int .u64 (q 1:Nat))∧W.cell? ⟨g,2,none⟩=some (.int .u64 (q 2:Nat))∧W.cell? ⟨g,3,none⟩=some (.int .u64 (q 3:Nat))∧W.cell? ⟨g,4,none⟩=some (.int .u64 (q 4:Nat)))∧Blk W w.heap.size [.int .u64 (f 0:Nat),.int .u64 (f 1:Nat),.int .u64 (f 2:Nat),.int .u64 (f 3:Nat),.int .u64 (f 4:Nat)] 114∧Blk W g [.int .u64 (q 0:Nat),.int .u64 (q 1:Nat),.int .u64 (q 2:Nat),.int .u64 (q 3:Nat),.int .u64 (q 4:Nat)] 114∧Blk W (w.heap.size+1) [.int .u64 0,.int .u64 0,.int .u64 0,.int .u64 0,.int .u64 0] 114∧Below w.heap.size w W)) (first|(exact HS2.out)|(first|assumption|(refine hst.out _ _ ?_ hb;assumption)|(refine hst.out _ _ ?_ (Below.alloc' (Below.refl _ _) _);assumption)|(refine hst.out _ _ ?_ (Below.drew (Below.refl _ _));assumption))) ((first|(go_at_call 107;(with_reducible refine (fmulM hq hq _).mono ?_);rintro e wm ⟨m2,rfl,hm2,hb⟩)|(go_at_call 113;(with_reducible refine (fsameT hm2 hf E2.out _).mono ?_);rintro e ws ⟨rfl,hb⟩)))
    rename_i hh
    have hhH:=Lib.hid hh
    clear hh hst HS2
    by_cases hp:y.val%2=1
    ·have HV:Hid (rootV x= -y):=Lib.hid (by unfold rootV;rw [HC.out,if_pos E2.out,if_pos hp])
     have HP:Hid (decide (y.val%2=1)=true):=Lib.hid (decide_eq_true hp)
     clear hp
     have c0:=hhH.out.2.1.1;have c1:=hhH.out.2.1.2.1;have c2:=hhH.out.2.1.2.2.1;have c3:=hhH.out.2.1.2.2.2.1;have c4:=hhH.out.2.1.2.2.2.2
     have hne:¬g=w.heap.size+1:=by omega
     have hne2:¬w.heap.size+1=g:=by omega
     go_wp2_with (first | (go_at_call 176; go_must (refine (foddM hq _).mono ?_; rintro e w2 ⟨rfl, hb⟩; rw [HP.out]; have h2 := Lib.hid (root_keep _ _ hhH.out hb); clear c0 c1 c2 c3 c4 hb; have c0 := h2.out.2.1.1; have c1 := h2.out.2.1.2.1; have c2 := h2.out.2.1.2.2.1; have c3 := h2.out.2.1.2.2.2.1; have c4 := h2.out.2.1.2.2.2.2; have rf := h2.out.2.2.2.1.frozen))             | (go_at_call 116; go_must (refine (fnegM hq _).mono ?_; rintro e w3 ⟨z, rfl, hz, hb⟩; have h3 := root_keep _ _ h2.out hb; have hG := h3.2.2.2.1.frozen; have gc := h3.2.2.2.1.cell; have oc := h3.2.2.2.2.1.cell; have of := h3.2.2.2.2.1.frozen; have hbel := h3.2.2.2.2.2; clear c0 c1 c2 c3 c4 rf hb h2 h3)))
     exact bodyPost_ret (v:= .tuple #[.agg #[.int .u64 (z 0:Nat),.int .u64 (z 1:Nat),.int .u64 (z 2:Nat),.int .u64 (z 3:Nat),.int .u64 (z 4:Nat)],.int .i64 0]) (by simp [results,Tryz.results112,go_sem,oc]) rfl ⟨z,by rw [HR.out],by rw [HV.out];exact hz,(by repeat (first|(with_reducible refine Below.alloc' ?_ _)|(with_reducible refine Below.drew ?_)|(with_reducible refine below_drewN ?_ _)|((with_reducible refine Below.setCell ?_ ?_ _);rotate_left;(focus (first|exact Nat.le_refl _|(simp;done)|(simp;omega))))|(with_reducible assumption)|(with_reducible exact Below.refl _ _)))⟩
    ·have HV:Hid (rootV x=y):=Lib.hid (by unfold rootV;rw [HC.out,if_pos E2.out,if_neg hp])
     have HP:Hid (decide (y.val%2=1)=false):=Lib.hid (decide_eq_false hp)
     clear hp
     have c0:=hhH.out.2.1.1;have c1:=hhH.out.2.1.2.1;have c2:=hhH.out.2.1.2.2.1;have c3:=hhH.out.2.1.2.2.2.1;have c4:=hhH.out.2.1.2.2.2.2
     have hne:¬g=w.heap.size+1:=by omega
     have hne2:¬w.heap.size+1=g:=by omega
     go_wp2_with (first|(go_at_call 176;go_must (refine (foddM hq _).mono ?_;rintro e w2 ⟨rfl,hb⟩;rw [HP.out];have h2:=root_keep _ _ hhH.out hb;clear c0 c1 c2 c3 c4 hb;have gc:=h2.2.2.2.1.cell;have oc:=h2.2.2.2.2.1.cell;have of:=h2.2.2.2.2.1.frozen;have hbel:=h2.2.2.2.2.2;clear h2)))
     exact bodyPost_ret (v:= .tuple #[.agg #[.int .u64 (q 0:Nat),.int .u64 (q 1:Nat),.int .u64 (q 2:Nat),.int .u64 (q 3:Nat),.int .u64 (q 4:Nat)],.int .i64 0]) (by simp [results,Tryz.results112,go_sem,oc]) rfl ⟨q,by rw [HR.out],by rw [HV.out];exact hq,(by repeat (first|(with_reducible refine Below.alloc' ?_ _)|(with_reducible refine Below.drew ?_)|(with_reducible refine below_drewN ?_ _)|((with_reducible refine Below.setCell ?_ ?_ _);rotate_left;(focus (first|exact Nat.le_refl _|(simp;done)|(simp;omega))))|(with_reducible assumption)|(with_reducible exact Below.refl _ _)))⟩
   ·have E2:=Lib.hid e2
    have HR:Hid (rootC x=7):=Lib.hid (by unfold rootC;rw [HC.out,if_neg e2])
    have HV:Hid (rootV x=0):=Lib.hid (by unfold rootV;rw [HC.out,if_neg e2])
    clear e2 hst1
    generalize fpow x exp8*sqm1=y at*
    go_region_held3 (fun W=>((W.cell? ⟨w.heap.size,0,none⟩=some (.int .u64 (f 0:Nat))∧W.cell? ⟨w.heap.size,1,none⟩=some (.int .u64 (f 1:Nat))∧W.cell? ⟨w.heap.size,2,none⟩=some (.int .u64 (f 2:Nat))∧W.cell? ⟨w.heap.size,3,none⟩=some (.int .u64 (f 3:Nat))∧W.cell? ⟨w.heap.size,4,none⟩=some (.int .u64 (f 4:Nat)))∧(W.cell? ⟨g,0,none⟩=some (.int .u64 (q 0:Nat))∧W.cell? ⟨g,1,none⟩=some (.int .u64 (q 1:Nat))∧W.cell? ⟨g,2,none⟩=some (.int .u64 (q 2:Nat))∧W.cell? ⟨g,3,none⟩=some (.int .u64 (q 3:Nat))∧W.cell? ⟨g,4,none⟩=some (.int .u64 (q 4:Nat)))∧Blk W w.heap.size [.int .u64 (f 0:Nat),.int .u64 (f 1:Nat),.int .u64 (f 2:Nat),.int .u64 (f 3:Nat),.int .u64 (f 4:Nat)] 114∧Blk W g [.int .u64 (q 0:Nat),.int .u64 (q 1:Nat),.int .u64 (q 2:Nat),.int .u64 (q 3:Nat),.int .u64 (q 4:Nat)] 114∧Blk W (w.heap.size+1) [.int .u64 0,.int .u64 0,.int .u64 0,.int .u64 0,.int .u64 0] 114∧Below w.heap.size w W)) (first|(exact HS2.out)|(first|assumption|(refine hst.out _ _ ?_ hb;assumption)|(refine hst.out _ _ ?_ (Below.alloc' (Below.refl _ _) _);assumption)|(refine hst.out _ _ ?_ (Below.drew (Below.refl _ _));assumption))) ((first|(go_at_call 107;(with_reducible refine (fmulM hq hq _).mono ?_);rintro e wm ⟨m2,rfl,hm2,hb⟩)|(go_at_call 113;(with_reducible refine (fsameF hm2 hf E2.out _).mono ?_);rintro e ws ⟨rfl,hb⟩)))
    rename_i hh
    have oc:=hh.2.2.2.2.1.cell;have of:=hh.2.2.2.2.1.frozen;have hbel:=hh.2.2.2.2.2
    clear hh HS2 hst
    go_wp2
    exact bodyPost_ret (v:= .tuple #[.agg #[.int .u64 0,.int .u64 0,.int .u64 0,.int .u64 0,.int .u64 0],.int .i64 7]) (by simp [results,Tryz.results112,go_sem,oc]) rfl ⟨fun _=>0,by rw [HR.out];rfl,by rw [HV.out];exact FF.zero,(by repeat (first|(with_reducible refine Below.alloc' ?_ _)|(with_reducible refine Below.drew ?_)|(with_reducible refine below_drewN ?_ _)|((with_reducible refine Below.setCell ?_ ?_ _);rotate_left;(focus (first|exact Nat.le_refl _|(simp;done)|(simp;omega))))|(with_reducible assumption)|(with_reducible exact Below.refl _ _)))⟩
end Go.Proofs.YtknlbpjcjdenbaaGreat
namespace Go.Proofs.YtknlbpjcjdenbaaGreat
open Go Go.RowKit
set_option maxRecDepth 10000
theorem sc_in {η:Env} {A:Nat→Prop} {w:World} {n:Nat} {v:Value} (h:AV.H η A w (.agg [.ob (.x 2) n]) v):v= .agg #[.int .u64 (lw n 0:Nat),.int .u64 (lw n 1:Nat),.int .u64 (lw n 2:Nat),.int .u64 (lw n 3:Nat)]∧n<Lq:=by
 obtain ⟨cs,rfl,⟨h1,t,e2,⟨h3,rfl⟩,rfl⟩,_⟩:=h
 exact ⟨by rw [e2];rfl,h3⟩
theorem sc_out {η:Env} {A:Nat→Prop} {w:World} {n:Nat} (h:n<Lq):AV.H η A w (.agg [.ob (.x 2) n]) (.agg #[.int .u64 (lw n 0:Nat),.int .u64 (lw n 1:Nat),.int .u64 (lw n 2:Nat),.int .u64 (lw n 3:Nat)]):=
 ⟨_,rfl,⟨_,[],rfl,⟨h,rfl⟩,rfl⟩,fun v hv=>by
  simp only [List.mem_cons,List.not_mem_nil,or_false] at hv
  rcases hv with rfl|rfl|rfl|rfl<;>rfl⟩
def gSWide:GF:=fun l=>match l with
 | [.one (.ro .u8 b)]=>some ⟨[.agg [.ob (.x 2) (sWide b)]],[],none⟩
 |_=>none
theorem swide_sound:CSound 118 (cfA gSWide):=cfV_sound Tryz.func118 (by kernel_rfl) rfl fun l g h hp=>by
 unfold gSWide at h
 split at h
 ·rename_i b
  cases h
  refine ⟨rfl,rfl,fun η w vs ⟨v1,t,e1,h1,e3⟩=> ?_⟩
  subst e3 e1
  obtain ⟨u,e,hR⟩:=h1
  cases List.singleton_inj.1 e
  obtain ⟨ad,c,rfl,hr⟩:=hR.rdb
  exact (wide_any w hr).mono fun e w' ⟨he,hb⟩=>⟨_,he,hb,fun _ _=>sc_out (n:=sWide b) (Nat.mod_lt _ Lq_pos0)⟩
 ·cases h
def gSBytes:GF:=fun l=>match l with
 | [.agg [.ob (.x 2) n]]=>some ⟨[.one (.rw 0)],[(0,.row 5 .u8 (leB 32 n))],none⟩
 |_=>none
theorem sbytes_sound:CSound 119 (cfA gSBytes):=cfN_sound Tryz.func119 (by kernel_rfl) rfl fun l g h hp=>by
 unfold gSBytes at h
 split at h
 ·rename_i n
  cases h
  refine ⟨_,rfl,rfl,fun η w vs ⟨v1,t,e1,h1,e3⟩=> ?_⟩
  subst e3 e1
  obtain ⟨rfl,_⟩:=sc_in h1
  have e:(leB 32 n).length=32:=leB_len _ _
  rw [e]
  exact bytes_own n w
 ·cases h
def gSBit:GF:=fun l=>match l with
 | [.agg [.ob (.x 2) n],.one (.ob .int k)]=>some ⟨[.one (.ob .int (sBit n k))],[],some (InR 0 k 255)⟩
 |_=>none
theorem sbit_call (n:Nat) (k:Int) (hp:0≤k∧k≤255) (w:World):Calls Tryz.prog 126 #[.agg #[.int .u64 (lw n 0:Nat),.int .u64 (lw n 1:Nat),.int .u64 (lw n 2:Nat),.int .u64 (lw n 3:Nat)],.int .i64 k] w fun e w'=>e= .returned (.int .i64 (sBit n k))∧Below w.heap.size w w':=by
 obtain ⟨j,rfl⟩:∃j:Nat,k=j:=⟨k.toNat,by omega⟩
 rw [sBit,if_pos hp]
 exact scbit_any n j (by omega) w
theorem sbit_sound:CSound 126 (cfA gSBit):=cfV_sound Tryz.func126 (by kernel_rfl) rfl fun l g h hp=>by
 unfold gSBit at h
 split at h
 ·rename_i n k
  cases h
  refine ⟨rfl,rfl,fun η w vs ⟨v1,t,e1,h1,v2,t2,e2,h2,e3⟩=> ?_⟩
  subst e3 e2 e1
  obtain ⟨rfl,_⟩:=sc_in h1
  cases List.singleton_inj.1 (show [v2]= [_] from h2)
  exact (sbit_call n k hp w).mono fun e w' ⟨he,hb⟩=>⟨_,he,hb,fun _ _=>rfl⟩
 ·cases h
def gPEq:GF:=fun l=>match l with
 | [.one (.ro .u8 a),.one (.ro .u8 b)]=>some ⟨[.one (.ob .bool (decide (a=b)))],[],none⟩
 |_=>none
theorem peq_sound:CSound 26 (cfA gPEq):=cfV_sound Tryz.func26 (by kernel_rfl) rfl fun l g h hp=>by
 unfold gPEq at h
 split at h
 ·rename_i a b
  cases h
  refine ⟨rfl,rfl,fun η w vs ⟨v1,t,e1,⟨u1,f1,h1⟩,v2,t2,e2,⟨u2,f2,h2⟩,e3⟩=> ?_⟩
  subst e3 e2 e1
  cases List.singleton_inj.1 f1
  cases List.singleton_inj.1 f2
  obtain ⟨ad,c,rfl,hr⟩:=h1.rdb
  obtain ⟨ad2,c2,rfl,hr2⟩:=h2.rdb
  exact (equal_any w hr hr2).mono fun e w' ⟨he,hb⟩=>⟨_,he,hb,fun _ _=>rfl⟩
 ·cases h
def gPLittle:GF:=fun l=>match l with
 | [.one (.ob .u64 n)]=>some ⟨[.one (.rw 0)],[(0,.row 5 .u8 (leB 8 n.toNat))],none⟩
 |_=>none
theorem plittle_sound:CSound 178 (cfA gPLittle):=cfN_sound Tryz.func178 (by kernel_rfl) rfl fun l g h hp=>by
 unfold gPLittle at h
 split at h
 ·rename_i n
  cases h
  refine ⟨_,rfl,rfl,fun η w vs ⟨v1,t,e1,h1,e3⟩=> ?_⟩
  subst e3 e1
  cases List.singleton_inj.1 (show [v1]= [_] from h1)
  refine (little_any n.toNat_lt w).mono fun e w' ⟨he,hB,hb⟩=>⟨_,he,?_,hb⟩
  have e:((leB 8 n.toNat).map bV).length=8:=by rw [List.length_map,leB_len]
  rw [leB_len]
  exact ⟨e,.inr ⟨_,8,_,rfl,Nat.le_refl _,hB,Nat.le_refl _,by unfold maxLen;omega,e,by rw [List.toList_toArray,List.take_of_length_le (by omega)]⟩⟩
 ·cases h
def gPCat:GF:=fun l=>match l with
 | [.one (.bb l)]=>some ⟨[.one (.rw 0)],[(0,.row 5 .u8 l.flatten)],some (l.flatten.length≤16777216)⟩
 |_=>none
theorem pcat_sound:CSound 71 (cfA gPCat):=cfN_sound Tryz.func71 (by kernel_rfl) rfl fun l g h hp=>by
 unfold gPCat at h
 split at h
 ·rename_i q
  cases h
  refine ⟨_,rfl,rfl,fun η w vs ⟨v1,t,e1,⟨a,c,f1,h1,h2,h3,h4⟩,e3⟩=> ?_⟩
  subst e3 e1
  cases List.singleton_inj.1 f1
  refine cat_any w ⟨rfl,h1,h2,fun i hi=> ?_⟩ (Nat.le_trans hp (by decide))
  obtain ⟨g,o,us,rfl,_,hr,hl,hi'⟩:=h4 (by omega)
  have hu:=hi' i hi (by omega)
  obtain ⟨ad,c2,e,hR⟩:=hu.rdb
  refine ⟨g,o,ad,_,c2,rfl,?_,hR⟩
  rw [←e]
  exact hr i _ (List.getElem?_eq_getElem (by omega))
 ·cases h
theorem own_none (w:World) (E:TypeId) (base:Nat) (hb:base≤w.heap.size):(w.alloc (.cells #[] E)).ownsRow base E 1 (.slice (some ⟨w.heap.size,0,none⟩) 0 0) 0 []:=
 ⟨rfl,.inr ⟨w.heap.size,0,#[],rfl,hb,(by show (w.heap.push _)[w.heap.size]?=_;simp),by omega,by simp,rfl,rfl⟩⟩
theorem run_eqIn_nilB (w:World) (d:Nat) (a:Option Addr) (l c:Nat):(Op.equalIn (d+1) 30 (.slice a l c) (.slice none 0 0)).run Tryz.prog w= .ok a.isNone w:=by
 cases a<;>simp [Op.equalIn,run_underlying Tryz.underlying30]
theorem run_eq_nilB (w:World) (a:Option Addr) (l c:Nat):(Op.equal 30 (.slice a l c) (.slice none 0 0)).run Tryz.prog w= .ok a.isNone w:=run_eqIn_nilB w 9999 a l c
theorem run_eql_nilB (a:Option Addr) (l c:Nat) (w:World):(binOp .eql 30 (.slice a l c) (.slice none 0 0)).run Tryz.prog w= .ok (.bool a.isNone) w:=by
 simp [binOp,run_eq_nilB w a l c]
set_option maxHeartbeats 1000000 in
theorem clone_own {a:Option Addr} {n cap:Nat} {l:List UInt8} (w:World) (h:RdB w a n cap l) (hm:n≤16777216):
  Calls Tryz.prog 50 #[.slice a n cap] w fun e w'=>∃v,e= .returned v∧w'.ownsRow w.heap.size 5 1 v n (l.map bV)∧Below w.heap.size w w':=by
 have hl:=h.hlen
 cases a with
 |none=>
  obtain rfl:=h.hnil rfl
  obtain rfl:n=0:=by have:=h.hcap;omega
  obtain rfl:l= []:=List.eq_nil_of_length_eq_zero hl
  have hq:=run_eql_nilB none 0 0
  rw [show (none:Option Addr).isNone=true from rfl] at hq
  go_enter Tryz.func50,Tryz.ntmps50
  go_wp2
  go_ret
  exact ⟨_,rfl,⟨rfl,.inl ⟨rfl,rfl⟩⟩,(by repeat (first|(with_reducible refine Below.alloc' ?_ _)|(with_reducible refine Below.drew ?_)|(with_reducible refine below_drewN ?_ _)|((with_reducible refine Below.setCell ?_ ?_ _);rotate_left;(focus (first|exact Nat.le_refl _|(simp;done)|(simp;omega))))|(with_reducible assumption)|(with_reducible exact Below.refl _ _)))⟩
 |some ad=>
  have HL:=Lib.hid hl;have HM:=Lib.hid hm
  clear hl hm
  have hq:=run_eql_nilB (some ad) n cap
  rw [show (some ad).isNone=false from rfl] at hq
  go_enter Tryz.func50,Tryz.ntmps50
  go_wp2_with (at_builtin;go_must (refine app_bytes _ rfl (.tmp 5) (.tmp 6) rfl w.heap.size _ 0 [] rfl (own_none w 5 w.heap.size (Nat.le_refl _)) _ _ _ l rfl (by exact h.below (by repeat (first|(with_reducible refine Below.alloc' ?_ _)|(with_reducible refine Below.drew ?_)|(with_reducible refine below_drewN ?_ _)|((with_reducible refine Below.setCell ?_ ?_ _);rotate_left;(focus (first|exact Nat.le_refl _|(simp;done)|(simp;omega))))|(with_reducible assumption)|(with_reducible exact Below.refl _ _)))) (by have:=HM.out;omega) (by simp) w (by exact (by repeat (first|(with_reducible refine Below.alloc' ?_ _)|(with_reducible refine Below.drew ?_)|(with_reducible refine below_drewN ?_ _)|((with_reducible refine Below.setCell ?_ ?_ _);rotate_left;(focus (first|exact Nat.le_refl _|(simp;done)|(simp;omega))))|(with_reducible assumption)|(with_reducible exact Below.refl _ _)))) ?_;intro v1 w1 hown hb1;rw [Nat.zero_add,List.nil_append] at hown;have HO:=Lib.hid hown;clear hown))
  go_wp2
  go_ret
  exact ⟨_,rfl,HO.out,hb1⟩
def gPClone:GF:=fun l=>match l with
 | [.one (.ro .u8 b)]=>some ⟨[.one (.rw 0)],[(0,.row 5 .u8 b)],some (b.length≤16777216)⟩
 |_=>none
theorem pclone_sound:CSound 50 (cfA gPClone):=cfN_sound Tryz.func50 (by kernel_rfl) rfl fun l g h hp=>by
 unfold gPClone at h
 split at h
 ·rename_i b
  cases h
  refine ⟨_,rfl,rfl,fun η w vs ⟨v1,t,e1,⟨u1,f1,h1⟩,e3⟩=> ?_⟩
  subst e3 e1
  cases List.singleton_inj.1 f1
  obtain ⟨ad,c,rfl,hr⟩:=h1.rdb
  exact clone_own w hr hp
 ·cases h
def gERoot:GF:=fun l=>match l with
 | [.agg [.ob (.x 4) a]]=>some ⟨[.agg [.ob (.x 4) (rootV a)],.one (.ob .int (rootC a))],[],none⟩
 |_=>none
theorem eroot_sound:CSound 112 (cfA gERoot):=cfV_sound Tryz.func112 (by kernel_rfl) rfl fun l g h hp=>by
 unfold gERoot at h
 split at h
 ·rename_i a
  cases h
  refine ⟨rfl,rfl,fun η w vs ⟨v1,t,e1,h1,e3⟩=> ?_⟩
  subst e3 e1
  obtain ⟨f,rfl,hf⟩:=fe_in h1
  refine (rootM (f:=f) (x:=a) hf w).mono fun e w' ⟨h,he,hh,hb⟩=>⟨_,he,hb,fun nx ηc=> ?_⟩
  exact ⟨_,rfl,_,_,rfl,fe_out hh (rootV a) rfl,_,_,rfl,rfl,rfl⟩
 ·cases h
set_option maxRecDepth 10000
structure Q4 where
 x:F
 y:F
 z:F
 t:F
@[reducible] def Q4.av (q:Q4):AV:= .agg [.ob (.x 4) q.x,.ob (.x 4) q.y,.ob (.x 4) q.z,.ob (.x 4) q.t]
def nil4:Q4:=⟨0,0,0,0⟩
def pt4 (x y:F):Q4:=⟨x,y,fn 1,xMul x y⟩
def rdy4 (q:Q4):Q4:=if q.z=0 then pt4 0 (fn 1) else q
def sum4 (a b:Q4) (more:F):Q4:=
 let m:=xMul (xSub a.y a.x) (xSub b.y b.x)
 let n:=xMul (xAdd a.y a.x) (xAdd b.y b.x)
 let c:=xMul (xMul a.t more) b.t
 let z:=xMul a.z b.z
 let z:=xAdd z z
 let e:=xSub n m
 let f:=xSub z c
 let g:=xAdd z c
 let h:=xAdd n m
 ⟨xMul e f,xMul g h,xMul f g,xMul e h⟩
def mul4 (more:F) (a:Q4) (n:Nat):Nat→Q4
 |0=>rdy4 nil4
 |j+1=>if sBit n (252-(j:Int))=1 then sum4 (sum4 (mul4 more a n j) (mul4 more a n j) more) a more else sum4 (mul4 more a n j) (mul4 more a n j) more
def LQ0:List (Nat×CF):= [(26,cfA gPEq),(50,cfA gPClone),(71,cfA gPCat),(106,cfA gESmall),(107,cfA gEMul),(108,cfA gESub),(110,cfA gEAdd),(111,cfA gEInv),(112,cfA gERoot),(113,cfA gESame),(115,cfA gEPick),(116,cfA gENeg),(118,cfA gSWide),(119,cfA gSBytes),(126,cfA gSBit),(170,cfA gEOf),(171,cfA gEBytes),(178,cfA gPLittle)]
theorem LQ0ok:∀p∈LQ0,CSound p.1 p.2:=ctCons peq_sound<|ctCons pclone_sound<|ctCons pcat_sound<|ctCons esmall_sound<|ctCons emul_sound<|ctCons esub_sound<|ctCons eadd_sound<|ctCons einv_sound<|ctCons eroot_sound<|ctCons esame_sound<|ctCons epick_sound<|ctCons eneg_sound<|ctCons swide_sound<|ctCons sbytes_sound<|ctCons sbit_sound<|ctCons eof_sound<|ctCons ebytes_sound<|ctCons plittle_sound fun p hp=>by cases hp
theorem OPQ0:OpsOk TYQ (ctOf LQ0):=opsOk TYQok (ctOk LQ0ok)
theorem vcED:vc TYQ (ctOf LQ0) Tryz.f109.ntmps (bodyOf Tryz.f109) ⟨mkSl 0 [],[],2000⟩ (retR TYQ Tryz.f109.ntmps [.cell 0 114] [.agg [.ob (.x 4) dE]] []):=by
 refine ⟨⟨rfl,?_⟩,trivial⟩
 show [dE]= [xMul (xNeg (fn 121665)) (finv (fn 121666))]
 have h1:=dE_eq
 have h2:fn 121666*finv (fn 121666)=1:=finv_mul (by decide +kernel)
 have h3:(fn 121665+1:F)=fn 121666:=by decide +kernel
 rw [h3] at h1
 unfold xMul xNeg
 rw [←h1]
 generalize finv (fn 121666)=i at h2 ⊢
 generalize (fn 121666:F)=w at h2 ⊢
 generalize dE=d
 refine congrArg (fun z=> [z]) ?_
 grind
theorem vcPoint (x y:F):vc TYQ (ctOf LQ0) Tryz.f114.ntmps (bodyOf Tryz.f114) ⟨mkSl 0 [.agg [.ob (.x 4) x],.agg [.ob (.x 4) y]],[],2000⟩ (retR TYQ Tryz.f114.ntmps [.cell 4 116] [(pt4 x y).av] []):=⟨⟨rfl,rfl⟩,⟨rfl,rfl⟩,⟨rfl,rfl⟩,⟨rfl,rfl⟩,trivial⟩
theorem vcSum4 (a b:Q4) (d:F):vc TYQ (ctOf LQ0) Tryz.f125.ntmps (bodyOf Tryz.f125) ⟨mkSl 0 [a.av,b.av,.agg [.ob (.x 4) d]],[],2000⟩ (retR TYQ Tryz.f125.ntmps [.cell 6 116] [(sum4 a b d).av] []):=⟨⟨rfl,rfl⟩,⟨rfl,rfl⟩,⟨rfl,rfl⟩,⟨rfl,rfl⟩,trivial⟩
theorem vcTwice:vc TYQ (ctOf LQ0) Tryz.f124.ntmps (bodyOf Tryz.f124) ⟨mkSl 0 [],[],2000⟩ (retR TYQ Tryz.f124.ntmps [.cell 0 114] [.agg [.ob (.x 4) dE2]] []):=by
 refine ⟨⟨rfl,?_⟩,trivial⟩
 refine congrArg (fun z=> [z]) ?_
 show dE2=ofB [89,241,178,38,148,155,214,235,86,177,131,130,154,20,224,0,48,209,243,238,242,128,142,25,231,252,223,86,220,217,6,36]
 decide +kernel
def gED:GF:=fun l=>match l with
 | []=>some ⟨[.agg [.ob (.x 4) dE]],[],none⟩
 |_=>none
theorem ed_sound:CSound 109 (cfA gED):=cfR_sound TYQok OPQ0 Tryz.func109 (by kernel_rfl) rfl (rs:= [.cell 0 114]) Tryz.results109 fun l g h hp=>by
 unfold gED at h
 split at h
 ·cases h;exact ⟨Nat.le_of_ble_eq_true rfl,rfl,rfl,rfl,vcED⟩
 ·cases h
def gTwice:GF:=fun l=>match l with
 | []=>some ⟨[.agg [.ob (.x 4) dE2]],[],none⟩
 |_=>none
theorem twice_sound:CSound 124 (cfA gTwice):=cfR_sound TYQok OPQ0 Tryz.func124 (by kernel_rfl) rfl (rs:= [.cell 0 114]) Tryz.results124 fun l g h hp=>by
 unfold gTwice at h
 split at h
 ·cases h;exact ⟨Nat.le_of_ble_eq_true rfl,rfl,rfl,rfl,vcTwice⟩
 ·cases h
def gPoint:GF:=fun l=>match l with
 | [.agg [.ob (.x 4) x],.agg [.ob (.x 4) y]]=>some ⟨[(pt4 x y).av],[],none⟩
 |_=>none
theorem point_sound:CSound 114 (cfA gPoint):=cfR_sound TYQok OPQ0 Tryz.func114 (by kernel_rfl) rfl (rs:= [.cell 4 116]) Tryz.results114 fun l g h hp=>by
 unfold gPoint at h
 split at h
 ·cases h;exact ⟨Nat.le_of_ble_eq_true rfl,rfl,rfl,rfl,vcPoint _ _⟩
 ·cases h
def gSum4:GF:=fun l=>match l with
 | [.agg [.ob (.x 4) x,.ob (.x 4) y,.ob (.x 4) z,.ob (.x 4) t],.agg [.ob (.x 4) u,.ob (.x 4) v,.ob (.x 4) w,.ob (.x 4) s],.agg [.ob (.x 4) d]]=>some ⟨[(sum4 ⟨x,y,z,t⟩ ⟨u,v,w,s⟩ d).av],[],none⟩
 |_=>none
theorem sum4_sound:CSound 125 (cfA gSum4):=cfR_sound TYQok OPQ0 Tryz.func125 (by kernel_rfl) rfl (rs:= [.cell 6 116]) Tryz.results125 fun l g h hp=>by
 unfold gSum4 at h
 split at h
 ·cases h;exact ⟨Nat.le_of_ble_eq_true rfl,rfl,rfl,rfl,vcSum4 ⟨_,_,_,_⟩ ⟨_,_,_,_⟩ _⟩
 ·cases h
def LQ1:List (Nat×CF):=(109,cfA gED)::(114,cfA gPoint)::(124,cfA gTwice)::(125,cfA gSum4)::LQ0
theorem LQ1ok:∀p∈LQ1,CSound p.1 p.2:=ctCons ed_sound<|ctCons point_sound<|ctCons twice_sound<|ctCons sum4_sound LQ0ok
theorem OPQ1:OpsOk TYQ (ctOf LQ1):=opsOk TYQok (ctOk LQ1ok)
theorem vcReady (q:Q4):vc TYQ (ctOf LQ1) Tryz.f123.ntmps (bodyOf Tryz.f123) ⟨mkSl 0 [q.av],[],2000⟩ (retR TYQ Tryz.f123.ntmps [.cell 2 116] [(rdy4 q).av] []):=by
 refine ⟨fun h=> ?_,fun h=> ?_⟩
 ·have h:q.z=0:=of_decide_eq_true h
  rw [rdy4,if_pos h]
  exact ⟨⟨rfl,rfl⟩,⟨rfl,rfl⟩,⟨rfl,rfl⟩,⟨rfl,rfl⟩,trivial⟩
 ·have h:¬q.z=0:=of_decide_eq_false h
  rw [rdy4,if_neg h]
  exact ⟨⟨rfl,rfl⟩,⟨rfl,rfl⟩,⟨rfl,rfl⟩,⟨rfl,rfl⟩,trivial⟩
def gReady:GF:=fun l=>match l with
 | [.agg [.ob (.x 4) x,.ob (.x 4) y,.ob (.x 4) z,.ob (.x 4) t]]=>some ⟨[(rdy4 ⟨x,y,z,t⟩).av],[],none⟩
 |_=>none
theorem ready_sound:CSound 123 (cfA gReady):=cfR_sound TYQok OPQ1 Tryz.func123 (by kernel_rfl) rfl (rs:= [.cell 2 116]) Tryz.results123 fun l g h hp=>by
 unfold gReady at h
 split at h
 ·cases h;exact ⟨Nat.le_of_ble_eq_true rfl,rfl,rfl,rfl,vcReady ⟨_,_,_,_⟩⟩
 ·cases h
def LQ2:List (Nat×CF):=(123,cfA gReady)::LQ1
theorem LQ2ok:∀p∈LQ2,CSound p.1 p.2:=ctCons ready_sound LQ1ok
theorem OPQ2:OpsOk TYQ (ctOf LQ2):=opsOk TYQok (ctOk LQ2ok)
theorem vcEAdd4 (a b:Q4):vc TYQ (ctOf LQ2) Tryz.f75.ntmps (bodyOf Tryz.f75) ⟨mkSl 0 [a.av,b.av],[],2000⟩ (retR TYQ Tryz.f75.ntmps [.cell 4 116] [(sum4 (rdy4 a) (rdy4 b) dE2).av] []):=⟨⟨rfl,rfl⟩,⟨rfl,rfl⟩,⟨rfl,rfl⟩,⟨rfl,rfl⟩,trivial⟩
def same4 (a b:Q4):Bool:=feEq (xMul a.x b.z) (xMul b.x a.z)&&feEq (xMul a.y b.z) (xMul b.y a.z)
theorem vcSame4 (a b:Q4):vc TYQ (ctOf LQ2) Tryz.f74.ntmps (bodyOf Tryz.f74) ⟨mkSl 0 [a.av,b.av],[],2000⟩ (retR TYQ Tryz.f74.ntmps [.tmp 4] [.one (.ob .bool (same4 (rdy4 a) (rdy4 b)))] []):=by
 refine ⟨fun h=>⟨h,?_,trivial⟩,fun h=>⟨h,?_,trivial⟩⟩
 ·show [same4 (rdy4 a) (rdy4 b)]= [feEq (xMul (rdy4 a).y (rdy4 b).z) (xMul (rdy4 b).y (rdy4 a).z)]
  rw [same4,show feEq (xMul (rdy4 a).x (rdy4 b).z) (xMul (rdy4 b).x (rdy4 a).z)=true from h,Bool.true_and]
 ·show [same4 (rdy4 a) (rdy4 b)]= [false]
  rw [same4,show feEq (xMul (rdy4 a).x (rdy4 b).z) (xMul (rdy4 b).x (rdy4 a).z)=false from h,Bool.false_and]
theorem vcMul4 (a:Q4) (n:Nat):vc TYQ (ctOf LQ2) Tryz.f73.ntmps (bodyOf Tryz.f73) ⟨mkSl 0 [a.av,.agg [.ob (.x 2) n]],[],2000⟩ (retR TYQ Tryz.f73.ntmps [.cell 4 116] [(mul4 dE2 (rdy4 a) n 253).av] []):=by
 refine Or.inr ⟨{j:Nat // j≤253},fun j=>⟨[(7,.one (.ob .int (252-(j.val:Int))))],[(2176,.blk 116 [.ob (.x 4) (mul4 dE2 (rdy4 a) n j.val).x,.ob (.x 4) (mul4 dE2 (rdy4 a) n j.val).y,.ob (.x 4) (mul4 dE2 (rdy4 a) n j.val).z,.ob (.x 4) (mul4 dE2 (rdy4 a) n j.val).t])]⟩,fun j=>253-j.val,⟨0,by omega⟩,?_⟩
 refine ⟨rfl,⟨rfl,rfl⟩,⟨rfl,rfl⟩,⟨rfl,rfl⟩,⟨rfl,rfl⟩,fun j=>⟨fun h2=> ?_,fun h2=> ?_⟩⟩
 ·have h2:=of_decide_eq_true h2
  have hj:=j.2
  refine ⟨by omega,fun h3=> ?_,fun h3=> ?_⟩
  ·have h3:=of_decide_eq_true h3
   refine sd<|sj ⟨j.val+1,by omega⟩ ?_
   have e:mul4 dE2 (rdy4 a) n (j.val+1)=sum4 (sum4 (mul4 dE2 (rdy4 a) n j.val) (mul4 dE2 (rdy4 a) n j.val) dE2) (rdy4 a) dE2:=by rw [mul4,if_pos h3]
   exact sr (hp:=congrArg (fun z:Int=> [z]) (show (252:Int)-((j.val+1:Nat):Int)=252-(j.val:Int)-1 by omega)) ⟨⟨rfl,congrArg (fun q:Q4=> [q.x]) e⟩,⟨rfl,congrArg (fun q:Q4=> [q.y]) e⟩,⟨rfl,congrArg (fun q:Q4=> [q.z]) e⟩,⟨rfl,congrArg (fun q:Q4=> [q.t]) e⟩,trivial⟩
  ·have h3:=of_decide_eq_false h3
   refine sd<|sj ⟨j.val+1,by omega⟩ ?_
   have e:mul4 dE2 (rdy4 a) n (j.val+1)=sum4 (mul4 dE2 (rdy4 a) n j.val) (mul4 dE2 (rdy4 a) n j.val) dE2:=by rw [mul4,if_neg h3]
   exact sr (hp:=congrArg (fun z:Int=> [z]) (show (252:Int)-((j.val+1:Nat):Int)=252-(j.val:Int)-1 by omega)) ⟨⟨rfl,congrArg (fun q:Q4=> [q.x]) e⟩,⟨rfl,congrArg (fun q:Q4=> [q.y]) e⟩,⟨rfl,congrArg (fun q:Q4=> [q.z]) e⟩,⟨rfl,congrArg (fun q:Q4=> [q.t]) e⟩,trivial⟩
 ·have h2:=of_decide_eq_false h2
  have hj:=j.2
  rw [show j.val=253 by omega]
  exact ⟨⟨rfl,rfl⟩,⟨rfl,rfl⟩,⟨rfl,rfl⟩,⟨rfl,rfl⟩,trivial⟩
def gMul4:GF:=fun l=>match l with
 | [.agg [.ob (.x 4) x,.ob (.x 4) y,.ob (.x 4) z,.ob (.x 4) t],.agg [.ob (.x 2) n]]=>some ⟨[(mul4 dE2 (rdy4 ⟨x,y,z,t⟩) n 253).av],[],none⟩
 |_=>none
theorem mul4_sound:CSound 73 (cfA gMul4):=cfR_sound TYQok OPQ2 Tryz.func73 (by kernel_rfl) rfl (rs:= [.cell 4 116]) Tryz.results73 fun l g h hp=>by
 unfold gMul4 at h
 split at h
 ·cases h;exact ⟨Nat.le_of_ble_eq_true rfl,rfl,rfl,rfl,vcMul4 ⟨_,_,_,_⟩ _⟩
 ·cases h
def gEAdd4:GF:=fun l=>match l with
 | [.agg [.ob (.x 4) x,.ob (.x 4) y,.ob (.x 4) z,.ob (.x 4) t],.agg [.ob (.x 4) u,.ob (.x 4) v,.ob (.x 4) w,.ob (.x 4) s]]=>some ⟨[(sum4 (rdy4 ⟨x,y,z,t⟩) (rdy4 ⟨u,v,w,s⟩) dE2).av],[],none⟩
 |_=>none
theorem eadd4_sound:CSound 75 (cfA gEAdd4):=cfR_sound TYQok OPQ2 Tryz.func75 (by kernel_rfl) rfl (rs:= [.cell 4 116]) Tryz.results75 fun l g h hp=>by
 unfold gEAdd4 at h
 split at h
 ·cases h;exact ⟨Nat.le_of_ble_eq_true rfl,rfl,rfl,rfl,vcEAdd4 ⟨_,_,_,_⟩ ⟨_,_,_,_⟩⟩
 ·cases h
def gSame4:GF:=fun l=>match l with
 | [.agg [.ob (.x 4) x,.ob (.x 4) y,.ob (.x 4) z,.ob (.x 4) t],.agg [.ob (.x 4) u,.ob (.x 4) v,.ob (.x 4) w,.ob (.x 4) s]]=>some ⟨[.one (.ob .bool (same4 (rdy4 ⟨x,y,z,t⟩) (rdy4 ⟨u,v,w,s⟩)))],[],none⟩
 |_=>none
theorem same4_sound:CSound 74 (cfA gSame4):=cfR_sound TYQok OPQ2 Tryz.func74 (by kernel_rfl) rfl (rs:= [.tmp 4]) Tryz.results74 fun l g h hp=>by
 unfold gSame4 at h
 split at h
 ·cases h;exact ⟨Nat.le_of_ble_eq_true rfl,rfl,rfl,rfl,vcSame4 ⟨_,_,_,_⟩ ⟨_,_,_,_⟩⟩
 ·cases h
def LQ3:List (Nat×CF):=(73,cfA gMul4)::(74,cfA gSame4)::(75,cfA gEAdd4)::LQ2
theorem LQ3ok:∀p∈LQ3,CSound p.1 p.2:=ctCons mul4_sound<|ctCons same4_sound<|ctCons eadd4_sound LQ2ok
theorem OPQ3:OpsOk TYQ (ctOf LQ3):=opsOk TYQok (ctOk LQ3ok)
theorem clr_ok {b:List UInt8} (h:b.length=32):(clr b).length=32∧leN (clr b)=lowN b:=⟨by rw [clr_len,h],leN_clr h⟩
def Ok3 (q:Q3) (P:EP):Prop:=Prep P q.x q.y q.z
def Ok4 (q:Q4) (P:EP):Prop:=Pext P q.x q.y q.z q.t
theorem zero3_ok:Ok3 zero3 Cp.zero:=by
 have h:=Prep.zero (c:=cuE)
 rw [←F1] at h
 exact h
theorem add3_ok {a b:Q3} {P Q:EP} (h:Ok3 a P) (h':Ok3 b Q):Ok3 (add3 dE a b) (P.add Q):=Prep.add h h'
theorem sBit_nat (n k:Nat) (h:k≤255):sBit n (k:Int)=((n/2^k%2:Nat):Int):=by
 rw [sBit,if_pos (by omega),Int.toNat_natCast]
theorem mul3_ok {a:Q3} {P:EP} (h:Ok3 a P) (n:Nat) (hn:n<2^256):∀j,j≤256→Ok3 (mul3 dE a n j) (Cp.mul (n/2^(256-j)) P)
 |0,_=>by
  rw [Nat.sub_zero,Nat.div_eq_of_lt hn]
  exact zero3_ok
 |j+1,hj=>by
  have ih:=mul3_ok h n hn j (by omega)
  obtain ⟨k,hk⟩:∃k,k=255-j:=⟨_,rfl⟩
  have e1:(255:Int)-(j:Int)=(k:Int):=by omega
  rw [mul3,e1,sBit_nat n k (by omega),show 256-(j+1)=k by omega,mul_digit]
  rw [show 256-j=k+1 by omega] at ih
  by_cases hb:n/2^k%2=1
  ·rw [if_pos hb,if_pos (by rw [hb];rfl)]
   exact add3_ok (add3_ok ih ih) h
  ·rw [if_neg hb,if_neg (by omega)]
   exact add3_ok ih ih
theorem mul3_all {a:Q3} {P:EP} (h:Ok3 a P) (n:Nat) (hn:n<2^256):Ok3 (mul3 dE a n 256) (Cp.mul n P):=by
 have:=mul3_ok h n hn 256 (by omega)
 rwa [Nat.sub_self,Nat.pow_zero,Nat.div_one] at this
theorem enc2_ok (P:EP):enc2 P.x P.y=encP P:=by
 unfold enc2
 split
 ·rename_i h;exact enc_odd h
 ·rename_i h;exact enc_even h
theorem enc3_ok {q:Q3} {P:EP} (h:Ok3 q P):enc2 (xMul q.x (finv q.z)) (xMul q.y (finv q.z))=encP P:=by
 have h1:q.z*finv q.z=1:=finv_mul h.z
 have ex:xMul q.x (finv q.z)=P.x:=by
  unfold xMul
  rw [h.x]
  generalize finv q.z=i at h1 ⊢
  generalize q.z=z at h1 ⊢
  generalize P.x=x
  grind
 have ey:xMul q.y (finv q.z)=P.y:=by
  unfold xMul
  rw [h.y]
  generalize finv q.z=i at h1 ⊢
  generalize q.z=z at h1 ⊢
  generalize P.y=x
  grind
 rw [ex,ey]
 exact enc2_ok P
def q3 (P:EP):Q3:=⟨P.x,P.y,fn 1⟩
theorem q3_ok (P:EP):Ok3 (q3 P) P:=by
 have h:=Prep.one P
 rw [←F1] at h
 exact h
theorem sum4_ok {a b:Q4} {P Q:EP} (h:Ok4 a P) (h':Ok4 b Q):Ok4 (sum4 a b dE2) (P.add Q):=
 Pext.add h h' rfl rfl (by rw [dE2_eq];rfl) rfl rfl rfl rfl rfl
theorem pt4_ok (P:EP):Ok4 (pt4 P.x P.y) P:=by
 have h:=Pext.one P
 rw [←F1] at h
 exact h
theorem rdy4_ok {q:Q4} {P:EP} (h:Ok4 q P):rdy4 q=q:=by
 rw [rdy4,if_neg h.p.z]
theorem nil4_ok:Ok4 (rdy4 nil4) Cp.zero:=by
 rw [rdy4,if_pos (show nil4.z=0 from rfl)]
 have h:=pt4_ok Cp.zero
 rw [F1]
 exact h
theorem mul4_ok {a:Q4} {P:EP} (h:Ok4 a P) (n:Nat) (hn:n<2^253):∀j,j≤253→Ok4 (mul4 dE2 a n j) (Cp.mul (n/2^(253-j)) P)
 |0,_=>by
  rw [Nat.sub_zero,Nat.div_eq_of_lt hn]
  exact nil4_ok
 |j+1,hj=>by
  have ih:=mul4_ok h n hn j (by omega)
  obtain ⟨k,hk⟩:∃k,k=252-j:=⟨_,rfl⟩
  have e1:(252:Int)-(j:Int)=(k:Int):=by omega
  rw [mul4,e1,sBit_nat n k (by omega),show 253-(j+1)=k by omega,mul_digit]
  rw [show 253-j=k+1 by omega] at ih
  by_cases hb:n/2^k%2=1
  ·rw [if_pos hb,if_pos (by rw [hb];rfl)]
   exact sum4_ok (sum4_ok ih ih) h
  ·rw [if_neg hb,if_neg (by omega)]
   exact sum4_ok ih ih
theorem mul4_all {a:Q4} {P:EP} (h:Ok4 a P) (n:Nat) (hn:n<Lq):Ok4 (mul4 dE2 (rdy4 a) n 253) (Cp.mul n P):=by
 rw [rdy4_ok h]
 have:=mul4_ok h n (Nat.lt_trans hn (by decide +kernel)) 253 (by omega)
 rwa [Nat.sub_self,Nat.pow_zero,Nat.div_one] at this
theorem same4_ok {a b:Q4} {P Q:EP} (h:Ok4 a P) (h':Ok4 b Q):same4 (rdy4 a) (rdy4 b)=decide (P=Q):=by
 rw [rdy4_ok h,rdy4_ok h']
 have e:=Prep.same h.p h'.p
 rw [Bool.eq_iff_iff,decide_eq_true_iff,←e]
 simp only [same4,feEq,Bool.and_eq_true,decide_eq_true_iff]
 exact Iff.rfl
set_option maxRecDepth 10000
theorem vcEStrict (b:List UInt8):vc TYQ (ctOf LQ3) Tryz.f105.ntmps (bodyOf Tryz.f105) ⟨mkSl 0 [.one (.ro .u8 b)],[],2000⟩ (retR TYQ Tryz.f105.ntmps [.cell 2 114,.tmp 3] [.agg [.ob (.x 4) (feS b)],.one (.ob .int (feC b))] []):=by
 refine ⟨fun h=> ?_,fun h=> ?_⟩
 ·have h:(!decide (leB 32 (ofB b).val=b))=true:=h
  obtain ⟨a1,a2⟩:=okB_no (b:=b) fun k=>by
   rw [decide_eq_true ((strict_iff b).2 k)] at h
   cases h
  rw [a1,a2]
  exact ⟨⟨rfl,rfl⟩,rfl,trivial⟩
 ·have h:(!decide (leB 32 (ofB b).val=b))=false:=h
  have h3:leB 32 (ofB b).val=b:=of_decide_eq_true (by simpa using h)
  obtain ⟨a1,a2⟩:=okB_yes ((strict_iff b).1 h3)
  rw [a1,a2]
  exact ⟨⟨rfl,rfl⟩,rfl,trivial⟩
def gEStrict:GF:=fun l=>match l with
 | [.one (.ro .u8 b)]=>some ⟨[.agg [.ob (.x 4) (feS b)],.one (.ob .int (feC b))],[],none⟩
 |_=>none
theorem estrict_sound:CSound 105 (cfA gEStrict):=cfR_sound TYQok OPQ3 Tryz.func105 (by kernel_rfl) rfl (rs:= [.cell 2 114,.tmp 3]) Tryz.results105 fun l g h hp=>by
 unfold gEStrict at h
 split at h
 ·cases h;exact ⟨Nat.le_of_ble_eq_true rfl,rfl,rfl,rfl,vcEStrict _⟩
 ·cases h
def okS (b:List UInt8):Bool:=decide (b.length=32∧leN b<Lq)
def scS (b:List UInt8):Nat:=if okS b then leN b else 0
def scC (b:List UInt8):Int:=if okS b then 0 else 2
theorem okS_no {b:List UInt8} (h:¬(b.length=32∧leN b<Lq)):scS b=0∧scC b=2:=by
 have e:okS b=false:=decide_eq_false h
 unfold scS scC
 rw [e]
 exact ⟨rfl,rfl⟩
theorem okS_yes {b:List UInt8} (h:b.length=32∧leN b<Lq):scS b=sWide b∧scC b=0:=by
 have e:okS b=true:=decide_eq_true h
 unfold scS scC
 rw [e,sWide_32 h.1,Nat.mod_eq_of_lt h.2]
 exact ⟨rfl,rfl⟩
theorem sstrict_iff {b:List UInt8} (h:b.length=32):leB 32 (sWide b)=b↔b.length=32∧leN b<Lq:=by
 have h32:=Lq_lt32
 constructor
 ·intro k
  refine ⟨h,?_⟩
  have h2:=congrArg leN k
  have hl:=sWide_lt b
  rw [leN_leB,Nat.mod_eq_of_lt (Nat.lt_trans hl (by decide +kernel))] at h2
  rw [←h2];exact hl
 ·rintro ⟨_,h2⟩
  rw [sWide_32 h,Nat.mod_eq_of_lt h2,←h,leB_leN]
theorem vcSStrict (b:List UInt8):vc TYQ (ctOf LQ3) Tryz.f69.ntmps (bodyOf Tryz.f69) ⟨mkSl 0 [.one (.ro .u8 b)],[],2000⟩ (retR TYQ Tryz.f69.ntmps [.cell 2 121,.tmp 3] [.agg [.ob (.x 2) (scS b)],.one (.ob .int (scC b))] []):=by
 refine fun _=>⟨fun h=> ?_,fun h=>⟨fun h2=> ?_,fun h2=> ?_⟩⟩
 ·have h1:b.length≠32:=by have:=of_decide_eq_true h;omega
  obtain ⟨a1,a2⟩:=okS_no (b:=b) fun k=>h1 k.1
  rw [a1,a2]
  exact ⟨⟨rfl,rfl⟩,rfl,trivial⟩
 ·have h1:b.length=32:=by have:=of_decide_eq_false h;omega
  have h2:(!decide (leB 32 (sWide b)=b))=true:=h2
  obtain ⟨a1,a2⟩:=okS_no (b:=b) fun k=>by
   rw [decide_eq_true ((sstrict_iff h1).2 k)] at h2
   cases h2
  rw [a1,a2]
  exact ⟨⟨rfl,rfl⟩,rfl,trivial⟩
 ·have h1:b.length=32:=by have:=of_decide_eq_false h;omega
  have h2:(!decide (leB 32 (sWide b)=b))=false:=h2
  have h3:leB 32 (sWide b)=b:=of_decide_eq_true (by simpa using h2)
  obtain ⟨a1,a2⟩:=okS_yes ((sstrict_iff h1).1 h3)
  rw [a1,a2]
  exact ⟨⟨rfl,rfl⟩,rfl,trivial⟩
theorem scS_lt (b:List UInt8):scS b<Lq:=by
 unfold scS
 split
 ·rename_i h;exact (of_decide_eq_true h).2
 ·exact Lq_pos0
def gSStrict:GF:=fun l=>match l with
 | [.one (.ro .u8 b)]=>some ⟨[.agg [.ob (.x 2) (scS b)],.one (.ob .int (scC b))],[],none⟩
 |_=>none
theorem sstrict_sound:CSound 69 (cfA gSStrict):=cfR_sound TYQok OPQ3 Tryz.func69 (by kernel_rfl) rfl (rs:= [.cell 2 121,.tmp 3]) Tryz.results69 fun l g h hp=>by
 unfold gSStrict at h
 split at h
 ·cases h;exact ⟨Nat.le_of_ble_eq_true rfl,rfl,rfl,rfl,vcSStrict _⟩
 ·cases h
def LQ4:List (Nat×CF):=(69,cfA gSStrict)::(105,cfA gEStrict)::LQ3
theorem LQ4ok:∀p∈LQ4,CSound p.1 p.2:=ctCons sstrict_sound<|ctCons estrict_sound LQ3ok
theorem OPQ4:OpsOk TYQ (ctOf LQ4):=opsOk TYQok (ctOk LQ4ok)
def dec4 (b:List UInt8):Q4:=if decC b=0 then pt4 (decV b).x (decV b).y else nil4
def xg4 (y:F):F:=xMul (xSub (xMul y y) (fn (UInt64.ofNat 1).toNat)) (finv (xAdd (xMul (xMul y y) dE) (fn (UInt64.ofNat 1).toNat)))
theorem xg4_eq (y:F):xg4 y=xx y:=by
 show (y*y-fn 1)*finv (y*y*dE+fn 1)=(y*y-1)*finv (y*y*dE+1)
 rw [F1]
theorem dec4_no {b:List UInt8} (h:decV b=Cp.zero∧decC b=12):dec4 b=nil4∧decC b=12:=⟨by rw [dec4,h.2];rfl,h.2⟩
def pickX (o:Bool) (a b:F):F:=match o with |true=>a|false=>b
theorem pickX_eq (o:Bool) (R:F):(if o=true then -R else R)=pickX o (xNeg R) R:=by cases o<;>rfl
theorem dec4_in {b:List UInt8} {y:F} {o:Bool} (h1:b.length=32) (h2:lowN b<Pq) (hy:fn (lowN b)=y) (hr:rootC (xx y)=0) (hs:sgn b=o) (hx:¬(o=true∧rootV (xx y)=0)):dec4 b=pt4 (pickX o (xNeg (rootV (xg4 y))) (rootV (xg4 y))) y∧decC b=0:=by
 obtain ⟨a1,a2,a3⟩:=dec_yes h1 h2 hy hr hs hx
 have e:dec4 b=pt4 (decV b).x (decV b).y:=if_pos a1
 refine ⟨?_,a1⟩
 rw [e,a2,a3,xg4_eq,pickX_eq]
theorem odd_128 (c:UInt8):(c&&&UInt8.ofNat 128≠UInt8.ofNat 0)↔(c.toNat/128%2 ==1)=true:=by
 have h:∀c:Nat,c<256→(decide (UInt8.ofNat c&&&UInt8.ofNat 128≠UInt8.ofNat 0))=(c/128%2 ==1):=by decide +kernel
 have:=h c.toNat c.toNat_lt
 rw [UInt8.ofNat_toNat] at this
 rw [←this,decide_eq_true_iff]
theorem not_128 (c:UInt8):c&&& ~~~(UInt8.ofNat 128)=c&&&127:=by
 rw [show ~~~(UInt8.ofNat 128)=(127:UInt8) from by decide]
set_option maxHeartbeats 2000000 in
theorem vcDec4 (b:List UInt8):vc TYQ (ctOf LQ4) Tryz.f67.ntmps (bodyOf Tryz.f67) ⟨mkSl 0 [.one (.ro .u8 b)],[],2000⟩ (retR TYQ Tryz.f67.ntmps [.cell 2 116,.tmp 3] [(dec4 b).av,.one (.ob .int (decC b))] []):=by
 refine fun hl=>⟨fun h=> ?_,fun h=> ?_⟩
 ·have h1:b.length≠32:=by have:=of_decide_eq_true h;omega
  obtain ⟨a1,a2⟩:=dec4_no (dec_len h1)
  rw [a1,a2]
  exact ⟨⟨rfl,rfl⟩,⟨rfl,rfl⟩,⟨rfl,rfl⟩,⟨rfl,rfl⟩,rfl,trivial⟩
 ·have h1:b.length=32:=by have:=of_decide_eq_false h;omega
  clear h
  have h31:31<b.length:=by omega
  obtain ⟨c1,c2⟩:=clr_ok h1
  have ec:b.set 31 (b.getD 31 0&&& ~~~(UInt8.ofNat 128))=clr b:=by rw [not_128];rfl
  refine ⟨h31,by show b.length≤16777216;omega,h31,h31,h31,h31,fun h=> ?_,fun h=> ?_⟩
  ·have h2:¬lowN b<Pq:=fun hlt=>by
    have h:decide (feC (b.set 31 (b.getD 31 0&&& ~~~(UInt8.ofNat 128)))≠0)=true:=h
    have e:okB (clr b)=true:=decide_eq_true ⟨c1,by rw [c2];exact hlt⟩
    rw [ec,feC,e] at h
    cases h
   obtain ⟨a1,a2⟩:=dec4_no (dec_big h2)
   rw [a1,a2]
   exact ⟨⟨rfl,rfl⟩,⟨rfl,rfl⟩,⟨rfl,rfl⟩,⟨rfl,rfl⟩,rfl,trivial⟩
  ·have h2:lowN b<Pq:=by
    have h:decide (feC (b.set 31 (b.getD 31 0&&& ~~~(UInt8.ofNat 128)))≠0)=false:=h
    rw [ec,feC] at h
    cases e:okB (clr b) with
    |false=>rw [e] at h;cases h
    |true=>
     have:=of_decide_eq_true e
     rw [←c2];exact this.2
   have hy:fn (lowN b)=feS (b.set 31 (b.getD 31 0&&& ~~~(UInt8.ofNat 128))):=by
    have e:okB (clr b)=true:=decide_eq_true ⟨c1,by rw [c2];exact h2⟩
    rw [ec]
    unfold feS
    rw [e,c2]
    rfl
   clear h
   have hs:=sgn_byte h1
   have hodd:=odd_128 (b.getD 31 0)
   rw [←hs] at hodd
   obtain ⟨y,hyy⟩:∃y,y=feS (b.set 31 (b.getD 31 0&&& ~~~(UInt8.ofNat 128))):=⟨_,rfl⟩
   rw [←hyy] at hy
   refine ⟨fun h=> ?_,fun h=> ?_⟩
   ·have h3:¬rootC (xx y)=0:=by
     rw [←xg4_eq,hyy]
     exact of_decide_eq_true h
    obtain ⟨a1,a2⟩:=dec4_no (dec_root h1 h2 hy h3)
    rw [a1,a2]
    exact ⟨h,⟨rfl,rfl⟩,⟨rfl,rfl⟩,⟨rfl,rfl⟩,⟨rfl,rfl⟩,rfl,trivial⟩
   ·have h3:rootC (xx y)=0:=by
     rw [←xg4_eq,hyy]
     have:=of_decide_eq_false h
     exact Decidable.not_not.1 this
    have ho:sgn b=decide (b.getD 31 0&&&UInt8.ofNat 128≠UInt8.ofNat 0):=by
     rw [Bool.eq_iff_iff,decide_eq_true_iff]
     exact hodd.symm
    refine ⟨fun h4=>⟨h,h4,fun h5=> ?_,fun h5=> ?_⟩,fun h4=>⟨h,h4,?_⟩⟩
    ·have h5:rootV (xx y)=0:=by rw [←xg4_eq,hyy];exact of_decide_eq_true h5
     obtain ⟨a1,a2⟩:=dec4_no (dec_sgn h1 h2 hy h3 (hodd.1 (of_decide_eq_true h4)) h5)
     rw [a1,a2]
     exact ⟨⟨rfl,rfl⟩,⟨rfl,rfl⟩,⟨rfl,rfl⟩,⟨rfl,rfl⟩,rfl,trivial⟩
    ·have h5:¬rootV (xx y)=0:=by rw [←xg4_eq,hyy];exact of_decide_eq_false h5
     obtain ⟨a1,a2⟩:=dec4_in h1 h2 hy h3 ho fun k=>h5 k.2
     subst hyy
     rw [a1,a2]
     exact ⟨⟨rfl,rfl⟩,⟨rfl,rfl⟩,⟨rfl,rfl⟩,⟨rfl,rfl⟩,rfl,trivial⟩
    ·obtain ⟨a1,a2⟩:=dec4_in h1 h2 hy h3 ho fun k=>by rw [show decide (b.getD 31 0&&&UInt8.ofNat 128≠UInt8.ofNat 0)=false from h4] at k;cases k.1
     subst hyy
     rw [a1,a2]
     exact ⟨⟨rfl,rfl⟩,⟨rfl,rfl⟩,⟨rfl,rfl⟩,⟨rfl,rfl⟩,rfl,trivial⟩
def gDec4:GF:=fun l=>match l with
 | [.one (.ro .u8 b)]=>some ⟨[(dec4 b).av,.one (.ob .int (decC b))],[],none⟩
 |_=>none
theorem dec4_sound:CSound 67 (cfA gDec4):=cfR_sound TYQok OPQ4 Tryz.func67 (by kernel_rfl) rfl (rs:= [.cell 2 116,.tmp 3]) Tryz.results67 fun l g h hp=>by
 unfold gDec4 at h
 split at h
 ·cases h;exact ⟨Nat.le_of_ble_eq_true rfl,rfl,rfl,rfl,vcDec4 _⟩
 ·cases h
set_option maxRecDepth 10000
theorem rotl_int (x:UInt64) (n m:Nat) (h:64-n=m):bits BinOp.or IntKind.u64 (IntKind.u64.wrap ((x.toNat:Int)*2^m)) ((x.toNat:Int)/2^n)=((rotr x n).toNat:Int):=by
 subst h
 unfold rotr
 rw [show uo (ush x n) (usl x (64-n))=uo (usl x (64-n)) (ush x n) from UInt64.or_comm _ _,←uo_int,←usl_int,←ush_int]
theorem neg_and (n m:Nat) (h1:1≤n) (h2:n≤63) (h:64-n=m):bits BinOp.and IntKind.u64 (IntKind.u64.wrap (-(n:Int))) 63=(m:Int):=by
 have e:IntKind.u64.wrap (-(n:Int))=((18446744073709551616-n:Nat):Int):=by rw [IntKind.wrap_u64];omega
 have e2:=u64_and_nat (18446744073709551616-n) 63 (by omega) (by omega)
 rw [e]
 refine e2.trans ?_
 rw [show (63:Nat)=2^6-1 from rfl,Nat.and_two_pow_sub_one_eq_mod]
 omega
set_option maxHeartbeats 400000 in
theorem rotl_any (x:UInt64) (n:Nat) (h1:1≤n) (h2:n≤63) (w:World):Calls Tryz.prog 212 #[.int .u64 (x.toNat:Int),.int .i64 (-(n:Int))] w fun e w'=>e= .returned (.int .u64 ((rotr x n).toNat:Int))∧w=w':=by
 obtain ⟨m,hm⟩:∃m:Nat,64-n=m:=⟨_,rfl⟩
 have e1:=neg_and n m h1 h2 hm
 have HE:=Lib.hid (rotl_int x n m hm)
 have hw:IntKind.u64.wrap (64-(m:Int))=(n:Int):=by rw [IntKind.wrap_u64];omega
 have hm0:(0:Int)≤(m:Int):=by omega
 have hm1:(m:Int)≤63:=by omega
 have hn0:(0:Int)≤(n:Int):=by omega
 have hn1:(n:Int)≤63:=by omega
 clear hm h1 h2
 go_enter Tryz.func212,Tryz.ntmps212
 go_wp2
 go_ret
 exact ⟨ret_int (by rw [←HE.out,IntKind.wrap_u64]),rfl⟩
theorem rotl_call (x:UInt64) (k:Int) (hp: -63≤k∧k≤ -1) (w:World):Calls Tryz.prog 212 #[.int .u64 (x.toNat:Int),.int .i64 k] w fun e w'=>e= .returned (.int .u64 ((rotr x (-k).toNat).toNat:Int))∧w=w':=by
 obtain ⟨n,rfl⟩:∃n:Nat,k= -(n:Int):=⟨(-k).toNat,by omega⟩
 rw [Int.neg_neg,Int.toNat_natCast]
 exact rotl_any x n (by omega) (by omega) w
def gRotl:GF:=fun l=>match l with
 | [.one (.ob .u64 x),.one (.ob .int k)]=>some ⟨[.one (.ob .u64 (rotr x (-k).toNat))],[],some (InR (-63) k (-1))⟩
 |_=>none
theorem rotl_sound:CSound 212 (cfA gRotl):=cfV_sound Tryz.func212 (by kernel_rfl) rfl fun l g h hp=>by
 unfold gRotl at h
 split at h
 ·rename_i x k
  cases h
  refine ⟨rfl,rfl,fun η w vs ⟨v1,t,e1,h1,v2,t2,e2,h2,e3⟩=> ?_⟩
  subst e3 e2 e1
  cases List.singleton_inj.1 (show [v1]= [_] from h1)
  cases List.singleton_inj.1 (show [v2]= [_] from h2)
  exact (rotl_call x k hp w).mono fun e w' ⟨he,hb⟩=>⟨_,he,by subst hb;exact Below.refl _ _,fun _ _=>rfl⟩
 ·cases h
theorem sdl {p q:Prop} (hq:q) (hp:p:=by first |omega|exact And.intro (by omega) (by omega)|(simp only [List.length_set];omega)|exact And.intro (by omega) (by rw [List.length_set];omega)|(refine And.intro (And.intro ?_ ?_) ?_<;>omega)):p∧q:=⟨hp,hq⟩
def rv8 (a b c d e f g h:UInt8):Nat→List UInt8
 |0=> [a,b,c,d,e,f,g,h]
 |1=> [h,b,c,d,e,f,g,a]
 |2=> [h,g,c,d,e,f,b,a]
 |3=> [h,g,f,d,e,c,b,a]
 |_=> [h,g,f,e,d,c,b,a]
theorem rv8_len (a b c d e f g h:UInt8):∀i,(rv8 a b c d e f g h i).length=8
 |0|1|2|3|_+4=>rfl
theorem rv8_swp (a b c d e f g h:UInt8) {i:Nat} (hi:i<4):rv8 a b c d e f g h (i+1)=((rv8 a b c d e f g h i).set (i:Int).toNat ((rv8 a b c d e f g h i).getD (7-(i:Int)).toNat 0)).set (7-(i:Int)).toNat ((rv8 a b c d e f g h i).getD (i:Int).toNat 0):=by
 have:i=0∨i=1∨i=2∨i=3:=by omega
 rcases this with rfl|rfl|rfl|rfl<;>rfl
theorem vcRev8 (a b c d e f g h:UInt8):vc TYQ (ctOf []) Tryz.f186.ntmps (bodyOf Tryz.f186) ⟨mkSl 0 [.one (.rw 1000)],hpOf 1000 [.row 5 .u8 [a,b,c,d,e,f,g,h]],2000⟩ (retB TYQ Tryz.f186.ntmps [] [] [(1000,.row 5 .u8 [h,g,f,e,d,c,b,a])] [.row 5 .u8 [a,b,c,d,e,f,g,h]] []):=by
 refine ⟨⟨by show (-9223372036854775808:Int)≤8-1;omega,by show (8:Int)-1<9223372036854775808;omega⟩,fun _=>Or.inr ⟨{i:Nat // i≤4},fun i=>⟨[(2,.one (.ob .int (i.val:Int))),(3,.one (.ob .int (7-(i.val:Int))))],[(1000,.row 5 .u8 (rv8 a b c d e f g h i.val))]⟩,fun i=>4-i.val,⟨0,by omega⟩,?_⟩⟩
 refine ⟨rfl,rfl,rfl,fun i=>⟨fun h2=> ?_,fun h2=> ?_⟩⟩
 ·have h2:=of_decide_eq_true h2
  have hi:=i.2
  have hl:=rv8_len a b c d e f g h i.val
  repeat refine sdl ?_
  refine sj ⟨i.val+1,by omega⟩ ?_
  refine sr (hp:=congrArg (fun z:Int=> [z]) (by show ((i.val+1:Nat):Int)=(i.val:Int)+1;omega))<|sr (hp:=congrArg (fun z:Int=> [z]) (by show 7-((i.val+1:Nat):Int)=7-(i.val:Int)-1;omega)) ⟨rv8_swp a b c d e f g h (by omega),trivial⟩
 ·have h2:=of_decide_eq_false h2
  have hi:=i.2
  have e:i.val=4:=by omega
  rw [e]
  exact ⟨rfl,trivial⟩
theorem vcGet64 (b:List UInt8):vc TYQ (ctOf []) Tryz.f211.ntmps (bodyOf Tryz.f211) ⟨mkSl 0 [.one (.ro .u8 b)],[],2000⟩ (retR TYQ Tryz.f211.ntmps [.tmp 2] [.one (.ob .u64 (gb b 8))] []):=by
 refine Or.inr ⟨{i:Nat // i≤8},fun i=>⟨[(4,.one (.ob .int (i.val:Int))),(2,.one (.ob .u64 (gb b i.val)))],[]⟩,fun i=>8-i.val,⟨0,Nat.zero_le _⟩,?_⟩
 refine ⟨rfl,rfl,fun i=>⟨fun h1=> ?_,fun h1=> ?_⟩⟩
 ·have h1:=of_decide_eq_true h1
  have hi:=i.2
  refine fun _=>⟨fun h2=> ?_,fun h2=> ?_⟩
  ·have h2:=of_decide_eq_true h2
   repeat refine sd ?_
   refine sj ⟨i.val+1,by omega⟩<|sr (hp:= ?_)<|sr (hp:= ?_) trivial
   ·show [gb b (i.val+1)]= [usl (gb b i.val) 8|||(b.getD i.val 0).toUInt64]
    rw [gb,if_pos (by omega)]
   ·show [((i.val+1:Nat):Int)]= [(i.val:Int)+1];simp
  ·have h2:=of_decide_eq_false h2
   repeat refine sd ?_
   refine sj ⟨i.val+1,by omega⟩<|sr (hp:= ?_)<|sr (hp:= ?_) trivial
   ·show [gb b (i.val+1)]= [usl (gb b i.val) 8]
    rw [gb,if_neg (by omega)]
   ·show [((i.val+1:Nat):Int)]= [(i.val:Int)+1];simp
 ·have h1:=of_decide_eq_false h1
  have hi:=i.2
  refine ⟨?_,trivial⟩
  show [gb b 8]= [gb b i.val]
  rw [show i.val=8 by omega]
end Go.Proofs.YtknlbpjcjdenbaaGreat
