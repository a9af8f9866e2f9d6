/- What BB rests on, part 2 of 5: my own texts, put together (merge.py). -/
import Derived.Deep.RegionHeld3
import Derived.WalkKit
import Derived.ProofKit
import Derived.Lib.Hide
import Derived.OpenShut
import Derived.Deep.MidRow
import Derived.Test.YtnlhpncaldcllaaGreatRows
import Derived.WalkSpells
import Derived.StillTactics
import Derived.Laws.Pointers
import Derived.Laws.CopyOwn
import Derived.Laws.AppendOwnNone
import Derived.RowKit3
import Derived.BigQuiet
import Derived.Deep.QuietTactic
import Derived.Deep.LoopGhost
import Derived.Deep.DeepFit
import Derived.WalkLawsBesides
import Derived.Shelf.Spec.BitsCarry
import Derived.Laws.IdiomStrings
import Derived.Maps.RangeWalk
import Derived.Great.BuildSlice
import Derived.Lib.AppendZerosOnto
import Derived.Deep.DeepCutAuto
import Derived.Lib.SliceRun
import Derived.ShutString
import Derived.ChangeOld
import Derived.Test.YtnlhpncaldcllaaGreatZBBA
set_option maxRecDepth 100000
namespace Go.Proofs.YtnlhpncaldcllaaGreat
open Go Go.RowKit
section
variable {η:aY} {A:Nat→Prop} {w:World}
theorem Cl.H.len {x:Cl} {cs:List Value} (h:x.H η A w cs):cs.length=x.n:=by
 cases x
 case ob k x=>have:=k.rp.len _ _ h;rw [k.rp_n] at this;exact this
 case vec k n l=>have:=h.2.len;rw [h.1,k.rp_n,Nat.mul_comm] at this;exact this
 case any=>obtain ⟨v,rfl,_⟩:=h;rfl
 case un=>cases h;rfl
 case cv=>obtain ⟨rfl,_⟩:=h;rfl
 case ptr=>obtain ⟨g,_,rfl⟩:=h;rfl
 case pix=>obtain ⟨g,_,rfl⟩:=h;rfl
 case pro=>obtain ⟨g,o,us,rfl,_⟩:=h;rfl
 case sl=>obtain ⟨_,g,_,rfl⟩:=h;rfl
 case rw=>obtain ⟨v,_,rfl,_⟩:=h;rfl
 case sub=>obtain ⟨v,a,c,_,rfl,_⟩:=h;rfl
 case ro=>obtain ⟨v,rfl,_⟩:=h;rfl
 case bb=>obtain ⟨a,c,rfl,_⟩:=h;rfl
 case pbb=>obtain ⟨g,o,v,rfl,_⟩:=h;rfl
 case ln=>obtain ⟨rfl,_⟩:=h;rfl
 case mp=>obtain ⟨rfl,_⟩:=h;rfl
 case rv=>obtain ⟨rfl,_⟩:=h;rfl
 case fv=>obtain ⟨us,vs,rfl,_⟩:=h;rfl
theorem aO.append:∀ {l m:List Cl} {cs ds:List Value},aO η A w l cs→aO η A w m ds→aO η A w (l++m) (cs++ds)
 | [],_,_,_,h,k=>by cases h;exact k
 |_::_,_,_,_,⟨h,t,e,hx,hr⟩,k=>⟨h,t++_,by rw [e,List.append_assoc],hx,hr.append k⟩
theorem bU {a b:Nat} (h:Nat.ble a b=true):a≤b:=Nat.le_of_ble_eq_true h
theorem Ad {a b:Nat} (h:Nat.ble a b=false):b<a:=by
 rcases Nat.lt_or_ge b a with h1|h1
 ·exact h1
 ·rw [Nat.ble_eq_true_of_le h1] at h;cases h
theorem fe:∀ {l:List Cl} {n:Nat} {r:List Cl},d7 l n=some r→∀ {cs:List Value},aO η A w l cs→n≤cs.length∧aO η A w r (cs.drop n)
 |l,0,r,h,cs,hc=>by
  have:l=r:=by cases l<;>(simp only [d7,Option.some.injEq] at h;exact h)
  subst this
  exact ⟨Nat.zero_le _,by simpa using hc⟩
 | [],n+1,r,h,cs,hc=>by cases h
 |x::l,n+1,r,h,cs,⟨hd,t,e,hx,hr⟩=>by
  have hlen:=hx.len
  subst e
  unfold d7 at h
  cases e1:Nat.ble x.n (n+1) with
  |true=>
   rw [e1] at h
   obtain ⟨h1,h2⟩:=fe h hr
   have:=bU e1
   refine ⟨by simp;omega,?_⟩
   rw [List.drop_append,List.drop_of_length_le (by omega),List.nil_append,hlen];exact h2
  |false=>
   rw [e1] at h
   have hn:=Ad e1
   cases x<;>simp only at h<;>first |(cases h;done)|skip
   rename_i k m q
   cases e2:Nat.beq k.n 1 with
   |false=>rw [e2] at h;cases h
   |true=>
    rw [e2] at h
    have hk:=aL e2
    cases h
    obtain ⟨g1,g2⟩:=hx
    simp only [Cl.n,hk,Nat.mul_one] at hn hlen
    refine ⟨by simp;omega,hd.drop (n+1),t,by rw [List.drop_append_of_le_length (by omega)],⟨by simp;omega,?_⟩,hr⟩
    have:=g2.drop (n+1)
    rw [k.rp_n,hk,Nat.one_mul] at this;exact this
theorem hZ:∀ {l:List Cl} {n:Nat} {r:List Cl},fI l n=some r→∀ {cs:List Value},aO η A w l cs→n≤cs.length∧aO η A w r (cs.take n)
 |l,0,r,h,cs,hc=>by
  have: []=r:=by cases l<;>(simp only [fI,Option.some.injEq] at h;exact h)
  subst this
  exact ⟨Nat.zero_le _,rfl⟩
 | [],n+1,r,h,cs,hc=>by cases h
 |x::l,n+1,r,h,cs,⟨hd,t,e,hx,hr⟩=>by
  have hlen:=hx.len
  subst e
  unfold fI at h
  cases e1:Nat.ble x.n (n+1) with
  |true=>
   rw [e1] at h
   simp only at h
   have hle:=bU e1
   cases e2:fI l (n+1-x.n) with
   |none=>rw [e2] at h;cases h
   |some q=>
    rw [e2] at h
    cases h
    obtain ⟨h1,h2⟩:=hZ e2 hr
    refine ⟨by simp;omega,hd,t.take (n+1-x.n),?_,hx,h2⟩
    rw [List.take_append,List.take_of_length_le (by omega),hlen]
  |false=>
   rw [e1] at h
   have hn:=Ad e1
   cases x<;>simp only at h<;>first |(cases h;done)|skip
   rename_i k m q
   cases e2:Nat.beq k.n 1 with
   |false=>rw [e2] at h;cases h
   |true=>
    rw [e2] at h
    have hk:=aL e2
    cases h
    obtain ⟨g1,g2⟩:=hx
    simp only [Cl.n,hk,Nat.mul_one] at hn hlen
    refine ⟨by simp;omega,hd.take (n+1),[],?_,⟨by simp;omega,?_⟩,rfl⟩
    ·rw [List.take_append_of_le_length (by omega),List.append_nil]
    ·have:=g2.take (n+1)
     rw [k.rp_n,hk,Nat.one_mul] at this;exact this
theorem aO.len:∀ {l:List Cl} {cs:List Value},aO η A w l cs→cs.length=ql l
 | [],_,h=>by cases h;rfl
 |_::_,_,⟨h,t,e,hx,hr⟩=>by subst e;rw [List.length_append,hx.len,hr.len];rfl
theorem mc:∀ {l:List Cl} {o n:Nat} {new r:List Cl},oO l o n new=some r→∀ {cs ds:List Value},aO η A w l cs→aO η A w new ds→(o+n≤cs.length∧ds.length=n)∧aO η A w r (cs.take o++ds++cs.drop (o+n))
 |l,0,n,new,r,h,cs,ds,hc,hn=>by
  have h':(match Nat.beq (ql new) n with |true=>(match d7 l n with |some r=>some (new++r)|none=>none)|false=>none)=some r:=by cases l<;>exact h
  cases e0:Nat.beq (ql new) n with
  |false=>rw [e0] at h';cases h'
  |true=>
  rw [e0] at h'
  simp only at h'
  cases e:d7 l n with
  |none=>rw [e] at h';cases h'
  |some q=>
   rw [e] at h'
   cases h'
   obtain ⟨h1,h2⟩:=fe e hc
   exact ⟨⟨by omega,hn.len.trans (aL e0)⟩,by rw [Nat.zero_add,List.take_zero,List.nil_append];exact hn.append h2⟩
 | [],o+1,n,new,r,h,cs,ds,hc,hn=>by cases h
 |x::l,o+1,n,new,r,h,cs,ds,⟨hd,t,e,hx,hr⟩,hn=>by
  have hlen:=hx.len
  subst e
  unfold oO at h
  cases e1:Nat.ble x.n (o+1) with
  |false=>rw [e1] at h;cases h
  |true=>
   rw [e1] at h
   simp only at h
   have hle:=bU e1
   cases e2:oO l (o+1-x.n) n new with
   |none=>rw [e2] at h;cases h
   |some q=>
    rw [e2] at h
    cases h
    obtain ⟨⟨h1,h3⟩,h2⟩:=mc e2 hr hn
    refine ⟨⟨by simp;omega,h3⟩,hd,_,?_,hx,h2⟩
    rw [List.take_append,List.take_of_length_le (by omega),hlen,List.drop_append,List.drop_of_length_le (by omega),List.nil_append,hlen,show o+1+n-x.n=o+1-x.n+n by omega]
    simp
theorem lr:∀ {l:List Cl} {o:Nat} {x:Cl},wZ l o=some x→∀ {cs:List Value},aO η A w l cs→o+x.n≤cs.length∧x.H η A w ((cs.drop o).take x.n)∧∀ {y:Cl} {r:List Cl},tK l o y=some r→∀ {ds:List Value},y.H η A w ds→aO η A w r (cs.take o++ds++cs.drop (o+x.n))
 | [],_,_,h,_,_=>by cases h
 |x::l,0,z,h,_,⟨hd,t,e,hx,hr⟩=>by
  cases h
  have hlen:=hx.len
  subst e
  refine ⟨by simp;omega,by rw [List.drop_zero,List.take_append,List.take_of_length_le (by omega),hlen,Nat.sub_self,List.take_zero,List.append_nil];exact hx,fun {y r} h {ds} hy=> ?_⟩
  cases h
  exact ⟨ds,t,by rw [List.take_zero,Nat.zero_add,List.drop_append,List.drop_of_length_le (by omega),hlen,Nat.sub_self];simp,hy,hr⟩
 |x::l,o+1,z,h,_,⟨hd,t,e,hx,hr⟩=>by
  have hlen:=hx.len
  subst e
  unfold wZ at h
  cases e1:Nat.ble x.n (o+1) with
  |false=>rw [e1] at h;cases h
  |true=>
   rw [e1] at h
   have hle:=bU e1
   obtain ⟨h1,h2,h3⟩:=lr h hr
   refine ⟨by simp;omega,by rw [List.drop_append,List.drop_of_length_le (by omega),List.nil_append,hlen];exact h2,fun {y r} h {ds} hy=> ?_⟩
   unfold tK at h
   rw [e1] at h
   simp only at h
   cases e2:tK l (o+1-x.n) y with
   |none=>rw [e2] at h;cases h
   |some q=>
    rw [e2] at h
    cases h
    refine ⟨hd,_,?_,hx,h3 e2 hy⟩
    rw [List.take_append,List.take_of_length_le (by omega),hlen,List.drop_append,List.drop_of_length_le (by omega),List.nil_append,hlen,show o+1+z.n-x.n=o+1-x.n+z.n by omega]
    simp
theorem Kd.sc_n {k:Kd} (h:k.sc=true):k.n=1:=by cases k<;>first |rfl|cases h
theorem gJ {k:Kd} (hk:k.n=1):∀ {l:List k.T} {cs:List Value},aU k.rp l cs→∀ {i:Nat},i<l.length→∃v,cs[i]?=some v∧k.rp.rep (l.getD i k.df) [v]
 | [],_,_,i,hi=>by simp at hi
 |x::l,_,⟨h,r,hx,e,hr⟩,i,hi=>by
  obtain ⟨v,rfl,_⟩:=Kd.one_rep hk hx
  subst e
  cases i with
  |zero=>exact ⟨v,rfl,by simpa using hx⟩
  |succ i=>
   obtain ⟨u,h1,h2⟩:=gJ hk hr (i:=i) (by simpa using hi)
   exact ⟨u,by simpa using h1,by simpa using h2⟩
theorem gK {k:Kd} (hk:k.n=1):∀ {l:List k.T} {cs:List Value},aU k.rp l cs→∀ {i:Nat} {x:k.T} {v:Value},k.rp.rep x [v]→aU k.rp (l.set i x) (cs.set i v)
 | [],_,h,i,x,v,hx=>by cases h;simp [aU]
 |y::l,_,⟨h,r,hy,e,hr⟩,i,x,v,hx=>by
  obtain ⟨u,rfl,_⟩:=Kd.one_rep hk hy
  subst e
  cases i with
  |zero=>exact ⟨[v],r,hx,by simp,hr⟩
  |succ i=>exact ⟨[u],_,hy,by simp,gK hk hr hx⟩
theorem b5 {k:Kd} (hk:k.n=1) {l:List k.T} {cs:List Value} (h:aU k.rp l cs):cs.length=l.length:=by
 have:=h.len;rw [k.rp_n,hk,Nat.one_mul] at this;exact this
theorem iU {a b:Nat} (h:Nat.blt a b=true):a<b:=by simpa using h
theorem Ae {a b:Nat} (h:Nat.blt a b=false):b≤a:=by
 rcases Nat.lt_or_ge a b with h1|h1
 ·have:Nat.blt a b=true:=by simp [h1]
  rw [this] at h;cases h
 ·exact h1
theorem jt:∀ {l:List Cl} {o:Nat} {x:Cl},mb l o=some x→∀ {cs:List Value},aO η A w l cs→∃v,cs[o]?=some v∧x.H η A w [v]
 | [],_,_,h,_,_=>by cases h
 |x::l,o,z,h,_,⟨hd,t,e,hx,hr⟩=>by
  have hlen:=hx.len
  subst e
  have hgen:(match (generalizing:=false) o with
    |0=>match Nat.beq x.n 1 with |true=>some x|false=>Ag x
    |o+1=>match Nat.ble x.n (o+1) with
     |true=>mb l (o+1-x.n)
     |false=>none)=some z→∃v,(hd++t)[o]?=some v∧z.H η A w [v]:=fun h=>by
   cases o with
   |zero=>
    simp only at h
    cases e1:Nat.beq x.n 1 with
    |false=>
     rw [e1] at h
     replace h:Ag x=some z:=h
     unfold Ag at h
     split at h
     ·rename_i y _
      cases h
      obtain ⟨_,rfl⟩:=hx
      have:=NM (Fin.val (n:=Pq) y) 0
      refine ⟨_,rfl,?_⟩
      show [Value.int .u64 _]= [Value.int .u64 _]
      rw [UInt64.toNat_ofNat',Nat.mod_eq_of_lt (by omega)]
     ·cases h
    |true=>
     rw [e1] at h
     cases h
     have hn:=aL e1
     rw [hn] at hlen
     obtain ⟨v,rfl⟩:=List.length_eq_one_iff.1 hlen
     exact ⟨v,rfl,hx⟩
   |succ o=>
    simp only at h
    cases e1:Nat.ble x.n (o+1) with
    |false=>rw [e1] at h;cases h
    |true=>
     rw [e1] at h
     have hle:=bU e1
     obtain ⟨v,h1,h2⟩:=jt h hr
     exact ⟨v,by rw [List.getElem?_append_right (by omega),hlen];exact h1,h2⟩
  cases x
  case vec k n q=>
   unfold mb at h
   simp only at h
   cases e1:k.sc with
   |false=>rw [e1] at h;cases h
   |true=>
    rw [e1] at h
    simp only at h
    have hk:=Kd.sc_n e1
    have hq:=b5 hk hx.2
    cases e2:Nat.blt o n with
    |true=>
     rw [e2] at h
     cases h
     have ho:=iU e2
     obtain ⟨v,h1,h2⟩:=gJ hk hx.2 (i:=o) (by rw [hx.1];exact ho)
     exact ⟨v,by rw [List.getElem?_append_left (by rw [hq,hx.1];exact ho)];exact h1,h2⟩
    |false=>
     rw [e2] at h
     have ho:=Ae e2
     obtain ⟨v,h1,h2⟩:=jt h hr
     exact ⟨v,by rw [List.getElem?_append_right (by rw [hq,hx.1];exact ho),hq,hx.1];exact h1,h2⟩
  all_goals exact hgen h
theorem kb:∀ {l:List Cl} {o:Nat} {y:Cl} {r:List Cl},di l o y=some r→∀ {cs:List Value} {v:Value},aO η A w l cs→y.H η A w [v]→o<cs.length∧aO η A w r (cs.set o v)
 | [],_,_,_,h,_,_,_,_=>by cases h
 |x::l,o,y,r,h,_,v,⟨hd,t,e,hx,hr⟩,hy=>by
  have hlen:=hx.len
  subst e
  have hgen:(match (generalizing:=false) o with
    |0=>match Nat.beq x.n 1 with |true=>some (y::l)|false=>none
    |o+1=>match Nat.ble x.n (o+1) with
     |true=>match di l (o+1-x.n) y with |some l=>some (x::l)|none=>none
     |false=>none)=some r→o<(hd++t).length∧aO η A w r ((hd++t).set o v):=fun h=>by
   cases o with
   |zero=>
    simp only at h
    cases e1:Nat.beq x.n 1 with
    |false=>rw [e1] at h;cases h
    |true=>
     rw [e1] at h
     cases h
     have hn:=aL e1
     rw [hn] at hlen
     obtain ⟨u,rfl⟩:=List.length_eq_one_iff.1 hlen
     exact ⟨by simp,[v],t,by simp,hy,hr⟩
   |succ o=>
    simp only at h
    cases e1:Nat.ble x.n (o+1) with
    |false=>rw [e1] at h;cases h
    |true=>
     rw [e1] at h
     simp only at h
     have hle:=bU e1
     cases e2:di l (o+1-x.n) y with
     |none=>rw [e2] at h;cases h
     |some q=>
      rw [e2] at h
      cases h
      obtain ⟨h1,h2⟩:=kb e2 hr hy
      exact ⟨by simp;omega,hd,_,by rw [List.set_append_right _ _ (by omega),hlen],hx,h2⟩
  have hvec:∀ {k:Kd} {n:Nat} {q:List k.T} {z:k.T},k.n=1→(Cl.vec k n q).H η A w hd→k.rp.rep z [v]→(match Nat.blt o n with
    |true=>some (.vec k n (q.set o z)::l)
    |false=>match di l (o-n) y with |some l=>some (.vec k n q::l)|none=>none)=some r→o<(hd++t).length∧aO η A w r ((hd++t).set o v):=fun {k n q z} hk hx hz h=>by
   have hq:=b5 hk hx.2
   have hqn:=hx.1
   cases e2:Nat.blt o n with
   |true=>
    rw [e2] at h
    cases h
    have ho:=iU e2
    refine ⟨by simp;omega,hd.set o v,t,by rw [List.set_append_left _ _ (by omega)],⟨by simp [hqn],gK hk hx.2 hz⟩,hr⟩
   |false=>
    rw [e2] at h
    simp only at h
    have ho:=Ae e2
    cases e3:di l (o-n) y with
    |none=>rw [e3] at h;cases h
    |some p=>
     rw [e3] at h
     cases h
     obtain ⟨h1,h2⟩:=kb e3 hr hy
     exact ⟨by simp;omega,hd,_,by rw [List.set_append_right _ _ (by omega),hq,hqn],hx,h2⟩
  cases x
  case vec k n q=>
   unfold di at h
   cases y
   case ob k2 z=>
    cases k<;>cases k2<;>first |exact hvec rfl hx hy h|exact hgen h
   all_goals (cases k<;>exact hgen h)
  all_goals
   unfold di at h
   exact hgen h
end
def qx (d:TypeDesc):TI→Prop
 | .k .u8=>d= .int .u8| .k .u16=>d= .int .u16| .k .u32=>d= .int .u32| .k .u64=>d= .int .u64| .k .int=>d= .int .i64
 | .k .bool=>d= .bool| .k .str=>d= .string| .k (.x _)=>False
 | .ptr=>∃e,d= .pointer e
 | .fn=>d.isRow=false
 | .sl e=>d= .slice e
 | .arr n e=>d= .array n e
 | .st fs=>∃fl,d= .struct fl∧fl.toList.map (fun f=>(f.offset,f.type))=fs
 | .oth=>True
structure s9 (ty:Nat→TE) (t:Nat) (i:TypeInfo) (d:TypeDesc) (z:Value):Prop where
 info:Tryz.prog.info? t=some i
 und:Tryz.prog.underlying t=some d
 desc:qx d (ty t).ti
 size:i.size=(ty t).size
 zero:i.zero=some z
 cells:∀η A w,aO η A w (ty t).zero z.cells.toList
 one:∀v∈z.cells.toList,v.oneCell'=true
 kz:∀k,(ty t).ti= .k k→k.rp.rep k.df z.cells.toList
 zs:z.cells.size=(ty t).size
 ks:∀k,(ty t).ti= .k k→(ty t).size=k.n
 bytes:i.bytes≤4096
def a8 (ty:Nat→TE):Prop:=∀t,(ty t).ti= .oth∨∃i d z,s9 ty t i d z
theorem b8 {α:Type} {ty:Nat→TE} (hT:a8 ty) {t:Nat} {r:R α} {sl:Nat→List AV} {hp:Nat→Option Ch} {ds:List Bool} {a:α} {rd:List cu} {qs:List (Bool×Bool)} (h:(kn ty t r).run sl hp ds= .ok a rd qs):(∃i d z,s9 ty t i d z)∧r.run sl hp ds= .ok a rd qs:=by
 rcases hT t with h1|h1
 ·unfold kn at h;rw [h1] at h;cases h
 ·refine ⟨h1,?_⟩
  unfold kn at h
  split at h
  ·cases h
  ·exact h
section
variable {ty:Nat→TE} {t:Nat} {i:TypeInfo} {d:TypeDesc} {z:Value}
theorem s9.sizeOf (h:s9 ty t i d z) (w:World):(sizeOf t).run Tryz.prog w= .ok (ty t).size w:=by
 simp [Go.sizeOf,typeInfo,h.info,h.size]
theorem s9.isAgg (h:s9 ty t i d z) (hn:(ty t).ti≠ .oth) (w:World):(isAgg t).run Tryz.prog w= .ok (ty t).isAgg w∧d.isRow=(ty t).isAgg:=by
 have hd:=h.desc
 have e:d.isRow=(ty t).isAgg:=by
  unfold TE.isAgg
  cases ht:(ty t).ti with
  |oth=>exact absurd ht hn
  |k k=>rw [ht] at hd;cases k<;>first |(cases hd;rfl)|exact hd.elim
  |ptr=>rw [ht] at hd;obtain ⟨_,rfl⟩:=hd;rfl
  |fn=>rw [ht] at hd;exact hd
  |sl e=>rw [ht] at hd;cases hd;rfl
  |arr n e=>rw [ht] at hd;cases hd;rfl
  |st fs=>rw [ht] at hd;obtain ⟨_,rfl,_⟩:=hd;rfl
 refine ⟨?_,e⟩
 rw [←e]
 unfold Go.isAgg
 rw [Sem.run_bind,run_underlying h.und w]
 cases d<;>simp
end
structure bX (H:Nat→Option Ch) (η:aY) (w:World):Prop where
 chunk:∀b c,H b=some c→c.H η (ay H η) w b
 apart:∀b b' g,b≠b'→H b≠none→H b'≠none→bf η b=some g→bf η b'≠some g
structure bj (H:Nat→Option Ch) (η:aY) (w:World) (nx:Nat) (res:aG) (v:Value) (w':World) (η':aY):Prop where
 out:bF η' (ay (bi res.upd H) η') w' res.out v
 hp:bX (bi res.upd H) η' w'
 fw:Fw H η w (bi res.upd H) η' w'
 env:∀b,b<nx∨nx+16≤b→η' b=η b
 fact:aW res.fact
def OpDone (H:Nat→Option Ch) (η:aY) (w:World) (nx:Nat) (res:aG) (o:Oper) (a:Act):Prop:=
 (∃nv v w' η',(execOp a.eval o).run Tryz.prog w= .ok nv w'∧(nv= .value v∨(nv= .skip∧v=undef))∧bj H η w nx res v w' η')∨
 ∃f args,(execOp a.eval o).run Tryz.prog w= .ok (.enter f args) w∧Calls Tryz.prog f args w fun e w'=>∃v η',e= .returned v∧bj H η w nx res v w' η'
section
variable {H:Nat→Option Ch} {η:aY} {w:World} {nx:Nat}
theorem bj.pure (hH:bX H η w) {out:List AV} {v:Value} (ho:bF η (ay H η) w out v) {pre fact:Option Prop} (hf:aW fact):bj H η w nx ⟨out,[],pre,fact⟩ v w η:=
 ⟨ho,hH,Fw.refl _ _ _,fun _ _=>rfl,hf⟩
theorem bj.new (hH:bX H η w) (hn:H nx=none) (hfree:∀b,nx≤b→b<nx+16→η b=none) {w':World} (hb:Below w.heap.size w w') {ref:Value} (hr:∀g,qL ref=some g→w.heap.size≤g) {c:Ch} {out:List AV} {v:Value} {pre:Option Prop}
  (hc:∀η' A',(∀b u,η b=some u→η' b=some u)→(∀g,g<w.heap.size→ay H η g→A' g)→η' nx=some ref→c.H η' A' w' nx∧bF η' A' w' out v):
  ∃η',bj H η w nx ⟨out,[(nx,some c)],pre,none⟩ v w' η':=by
 have h0:η nx=none:=hfree nx (Nat.le_refl _) (by omega)
 let η':aY:=fun b=>if b=nx then some ref else η b
 have he:∀b u,η b=some u→η' b=some u:=fun b u hu=>by
  show (if b=nx then some ref else η b)=some u
  rw [if_neg (by rintro rfl;rw [h0] at hu;cases hu)];exact hu
 have hne:∀b,b≠nx→η' b=η b:=fun b hb=>by show (if b=nx then some ref else η b)=η b;rw [if_neg hb]
 have hnx:η' nx=some ref:=by show (if nx=nx then some ref else η nx)=_;rw [if_pos rfl]
 have hupd:∀b,bi [(nx,some c)] H b=if b=nx then some c else H b:=fun b=>rfl
 have hfp:∀b g,H b≠none→bf η b=some g→g<w.heap.size:=fun b g hb hg=>by
  cases e:H b with
  |none=>exact absurd e hb
  |some c=>
   have:=hH.chunk b c e
   cases c with
   |blk E l=>
    obtain ⟨g',cs,h1,h2,_⟩:=this
    unfold bf at hg;rw [h1] at hg;cases hg;exact h2.lt
   |row E k l=>
    obtain ⟨u,cs,h1,h2,h3⟩:=this
    rcases h3.2 with ⟨rfl,_⟩|⟨g',cap,cur,rfl,_,h4,_⟩
    ·unfold bf at hg;rw [h1] at hg;cases hg
    ·unfold bf at hg;rw [h1] at hg;cases hg;exact (Array.getElem?_eq_some_iff.1 h4).1
 have hA:∀g,g<w.heap.size→ay H η g→ay (bi [(nx,some c)] H) η' g:=fun g hg ha b hb=>by
  by_cases e:b=nx
  ·subst e;unfold bf;rw [hnx];exact fun h=>by have:=hr g h;omega
  ·rw [hupd,if_neg e] at hb
   unfold bf;rw [hne b e];exact ha b hb
 have hfw:Fw H η w (bi [(nx,some c)] H) η' w':=⟨hb.os,hb.tape,hb.output,hb.size,he,fun g hg ha=>⟨hb.block g hg,hA g hg ha⟩⟩
 obtain ⟨h1,h2⟩:=hc η' (ay (bi [(nx,some c)] H) η') he hA hnx
 refine ⟨η',h2,⟨fun b c' hb'=> ?_,fun b b' g hbb hb1 hb2 hg=> ?_⟩,hfw,fun b hb=>hne b (by omega),trivial⟩
 ·rw [hupd] at hb'
  by_cases e:b=nx
  ·subst e;rw [if_pos rfl] at hb';cases hb';exact h1
  ·rw [if_neg e] at hb'
   exact (hH.chunk b c' hb').later hfw.lt fun g hg=>hb.block g (hfp b g (by rw [hb'];simp) hg)
 ·rw [hupd] at hb1 hb2
  by_cases e:b=nx
  ·subst e
   rw [if_neg (Ne.symm hbb)] at hb2
   unfold bf at hg ⊢
   rw [hnx] at hg
   rw [hne b' (Ne.symm hbb)]
   have:=hr g hg
   intro h
   have:=hfp b' g hb2 h
   omega
  ·rw [if_neg e] at hb1
   unfold bf at hg ⊢
   rw [hne b e] at hg
   by_cases e':b'=nx
   ·subst e';rw [hnx];intro h;have:=hr g h;have:=hfp b g hb1 hg;omega
   ·rw [if_neg e'] at hb2
    rw [hne b' e']
    exact hH.apart b b' g hbb hb1 hb2 hg
theorem bj.set (hH:bX H η w) {b g:Nat} {c c':Ch} (hb:H b=some c) (hg:bf η b=some g) {w':World} (ho:w'.os=w.os) (ht:w'.tape=w.tape) (hu:w'.output=w.output) (hz:w.heap.size=w'.heap.size) (hw:∀x,x≠g→w'.heap[x]?=w.heap[x]?)
  (hc:∀A',(∀g,ay H η g→A' g)→Lt η (ay H η) w η A' w'→c'.H η A' w' b) {pre:Option Prop}:bj H η w nx ⟨[],[(b,some c')],pre,none⟩ undef w' η:=by
 have hupd:∀x,bi [(b,some c')] H x=if x=b then some c' else H x:=fun b=>rfl
 have hA:∀g',ay H η g'→ay (bi [(b,some c')] H) η g':=fun g' ha x hx=>by
  rw [hupd] at hx
  by_cases e:x=b
  ·subst e;exact ha x (by rw [hb];simp)
  ·rw [if_neg e] at hx;exact ha x hx
 have hfw:Fw H η w (bi [(b,some c')] H) η w':=⟨ho,ht,hu,by omega,fun _ _ h=>h,fun g' _ ha=>⟨hw g' fun e=>ha b (by rw [hb];simp) (by rw [hg,e]),hA g' ha⟩⟩
 refine ⟨trivial,⟨fun x cx hx=> ?_,fun x x' g' hxx hx1 hx2 hgx=> ?_⟩,hfw,fun _ _=>rfl,trivial⟩
 ·rw [hupd] at hx
  by_cases e:x=b
  ·subst e;rw [if_pos rfl] at hx;cases hx;exact hc _ hA ⟨fun _ _ h=>h,fun g' hg' ha=>hfw.anon g' hg' ha⟩
  ·rw [if_neg e] at hx
   exact (hH.chunk x cx hx).later hfw.lt fun g' hg'=>hw g' fun e2=>by
    subst e2
    exact hH.apart x b g' e (by rw [hx];simp) (by rw [hb];simp) hg' hg
 ·rw [hupd] at hx1 hx2
  refine hH.apart x x' g' hxx ?_ ?_ hgx
  ·by_cases e:x=b
   ·subst e;rw [hb];simp
   ·rw [if_neg e] at hx1;exact hx1
  ·by_cases e:x'=b
   ·subst e;rw [hb];simp
   ·rw [if_neg e] at hx2;exact hx2
end
section
variable {ty:Nat→TE} {sl:Nat→List AV} {H:Nat→Option Ch} {η:aY} {w:World} {nx N:Nat} {a:Act} {o:Oper} {ds:List Bool} {res:aG} {rd:List cu} {qs:List (Bool×Bool)}
theorem aE.done {r:R aG} {ev:World→Result Value} (h:aE r ev) (hr:r.run sl H ds= .ok res rd qs) (hp:aW res.pre) (hH:bX H η w) (hex:∀v,ev w= .ok v w→(execOp a.eval o).run Tryz.prog w= .ok (.value v) w):OpDone H η w nx res o a:=by
 obtain ⟨h1,h2,_,h4⟩:=h _ _ _ _ _ _ hr hp
 obtain ⟨v,hv,hout⟩:=h4 w
 obtain ⟨out,upd,pre,fact⟩:=res
 simp only at h1 h2
 subst h1 h2
 exact .inl ⟨_,v,w,η,hex v hv,.inl rfl,.pure hH (hout _ _) trivial⟩
theorem au {x:Cl} (h:(aw x).run sl H ds= .ok res rd qs):res=⟨[.one x],[],none,none⟩:=by
 simp only [aw,R.run,RR.ok.injEq] at h;exact h.1.symm
theorem a_ {x:Cl} {p:Prop} (h:(bC x p).run sl H ds= .ok res rd qs):res=⟨[.one x],[],some p,none⟩:=by
 simp only [bC,R.run,RR.ok.injEq] at h;exact h.1.symm
theorem aC {r:aG} (h:(R.pure r).run sl H ds= .ok res rd qs):res=r:=by
 simp only [R.run,RR.ok.injEq] at h;exact h.1.symm
theorem OpDone.val (hH:bX H η w) {x:Cl} {v:Value} {pre:Option Prop} (hx:x.H η (ay H η) w [v]) (hex:(execOp a.eval o).run Tryz.prog w= .ok (.value v) w):OpDone H η w nx ⟨[.one x],[],pre,none⟩ o a:=
 .inl ⟨_,v,w,η,hex,.inl rfl,.pure (out:= [.one x]) (v:=v) hH hx trivial⟩
theorem JH {t:Nat} (ho:o.op= .move (.tmp t)) (hS:eH sl H N η a w) (h:(R.slot t fun l=>match l with | []=> .fail|a::r=> .pure ⟨a::r,[],none,none⟩:R aG).run sl H ds= .ok res rd qs):OpDone H η w nx res o a:=by
 obtain ⟨rd',h⟩:=fy h
 have hs:=hS.slot t
 split at h
 ·cases h
 ·rename_i x r e
  rw [e] at hs
  have:=aC h
  subst this
  refine .inl ⟨_,a.eval (.tmp t),w,η,?_,.inl rfl,.pure (out:=x::r) (v:=a.eval (.tmp t)) ⟨hS.chunk,hS.apart⟩ hs trivial⟩
  unfold execOp
  simp [ho]
theorem EO {x:Operand} (ho:o.op= .move x∨o.op= .assign x) (hS:eH sl H N η a w) (h:(db x fun a=> .pure ⟨[a],[],none,none⟩:R aG).run sl H ds= .ok res rd qs):OpDone H η w nx res o a:=by
 obtain ⟨av,rd',h,hv⟩:=bc h hS.slot
 have:=aC h
 subst this
 refine .inl ⟨_,a.eval x,w,η,?_,.inl rfl,.pure (out:= [av]) (v:=a.eval x) ⟨hS.chunk,hS.apart⟩ hv trivial⟩
 unfold execOp
 rcases ho with ho|ho<;>simp [ho]
end
section
variable {ty:Nat→TE} {sl:Nat→List AV} {H:Nat→Option Ch} {η:aY} {w:World} {nx N:Nat} {a:Act} {o:Oper} {ds:List Bool} {res:aG} {rd:List cu} {qs:List (Bool×Bool)}
theorem eH.hpOk (h:eH sl H N η a w):bX H η w:=⟨h.chunk,h.apart⟩
theorem ft {nb:Nat} {x:Cl} {c:Ch} {p:Option Prop} (h:(sq nb x c p).run sl H ds= .ok res rd qs):H nb=none∧res=⟨[.one x],[(nb,some c)],p,none⟩:=by
 obtain ⟨rd',h⟩:=bl (show (R.hp nb _).run sl H ds=_ from h)
 cases e:H nb with
 |none=>rw [e] at h;exact ⟨rfl,aC h⟩
 |some c=>rw [e] at h;cases h
theorem zo {t:Nat} {i:TypeInfo} {z:Value} (h1:Tryz.prog.info? t=some i) (h2:i.zero=some z):(Instr.alloc t true (.tuple #[])).run Tryz.prog w= .ok (.pointer (some ⟨w.heap.size,0,none⟩)) (w.alloc (.cells z.cells t)):=by
 simp [Instr.alloc,zeroValue,typeInfo,h1,h2,newVar,newRow,newObj,Sem.run]
theorem rQ (E:Nat) (cs:List Value):ao (w.alloc (.cells cs.toArray E)) w.heap.size cs E:=by
 have:=ao.new w cs.toArray E;simpa using this
theorem JC {t:Nat} (hT:a8 ty) (ho:o.op= .alloc t) (hS:eH sl H N η a w) (hfree:∀b,nx≤b→b<nx+16→η b=none) (h:(kn ty t (sq nx (.ptr nx 0) (.blk t (ty t).zero) none)).run sl H ds= .ok res rd qs):OpDone H η w nx res o a:=by
 obtain ⟨⟨i,d,z,hK⟩,h⟩:=b8 hT h
 obtain ⟨hn,rfl⟩:=ft h
 obtain ⟨η',hR⟩:=bj.new (nx:=nx) (ref:= .pointer (some ⟨w.heap.size,0,none⟩)) (c:= .blk t (ty t).zero) (out:= [.one (.ptr nx 0)]) (v:= .pointer (some ⟨w.heap.size,0,none⟩)) (pre:=none) hS.hpOk hn hfree (w':=w.alloc (.cells z.cells t)) ((Below.refl _ _).alloc (Nat.le_refl _) _) (fun g hg=>by cases hg;exact Nat.le_refl _)
  (fun η' A' he hA hnx=>⟨⟨_,z.cells.toList,hnx,rQ t z.cells.toList,hK.cells _ _ _,hK.one⟩,_,hnx,rfl⟩)
 refine .inl ⟨_,_,_,η',?_,.inl rfl,hR⟩
 unfold execOp
 simp only [ho]
 rw [Sem.run_bind,zo hK.info hK.zero]
 simp
theorem Cl.H.one {A:Nat→Prop} {x:Cl} (hx:x≠ .un) {cs:List Value} (h:x.H η A w cs):∀v∈cs,v.oneCell'=true:=by
 cases x
 case un=>exact absurd rfl hx
 case ob k x=>exact k.rp.one _ _ h
 case vec k n l=>exact h.2.one
 case any=>obtain ⟨v,rfl,hv⟩:=h;simpa using hv
 case cv=>obtain ⟨rfl,hv⟩:=h;simpa using hv
 case ptr=>obtain ⟨g,_,rfl⟩:=h;simp [Value.oneCell']
 case pix=>obtain ⟨g,_,rfl⟩:=h;simp [Value.oneCell']
 case pro=>obtain ⟨g,o,us,rfl,_⟩:=h;simp [Value.oneCell']
 case sl=>obtain ⟨_,g,_,rfl⟩:=h;simp [Value.oneCell']
 case rw=>obtain ⟨v,_,rfl,hv⟩:=h;simpa using hv
 case sub=>obtain ⟨v,a,c,_,rfl,_⟩:=h;simp [Value.oneCell']
 case ro=>obtain ⟨v,rfl,a,c,rfl,_⟩:=h;simp [Value.oneCell']
 case bb=>obtain ⟨a,c,rfl,_⟩:=h;simp [Value.oneCell']
 case pbb=>obtain ⟨g,o,v,rfl,_⟩:=h;simp [Value.oneCell']
 case ln=>obtain ⟨rfl,⟨a,c,rfl⟩,_⟩:=h;simp [Value.oneCell']
 case mp=>obtain ⟨rfl,g,m,D,rfl,_⟩:=h;simp [Value.oneCell']
 case rv=>obtain ⟨rfl,a,c,rfl,_⟩:=h;simp [Value.oneCell']
 case fv=>obtain ⟨us,vs,rfl,_⟩:=h;simp [Value.oneCell']
theorem kY {v:Value} (h:v.oneCell'=true):v.cells= #[v]:=by cases v<;>first |rfl|cases h
theorem dh {b g:Nat} {E:Nat} {l:List Cl} (hS:bX H η w) (hb:H b=some (.blk E l)) (hg:η b=some (.pointer (some ⟨g,0,none⟩))):∃cs,ao w g cs E∧aO η (ay H η) w l cs∧∀v∈cs,v.oneCell'=true:=by
 obtain ⟨g',cs,h1,h2,h3,h4⟩:=hS.chunk b _ hb
 rw [hg] at h1;cases h1
 exact ⟨cs,h2,h3,h4⟩
theorem ao.range {g E q n:Nat} {cs:List Value} (h:ao w g cs E):w.rangeAt g q ((cs.drop q).take n):=fun j v hv=>by
 rw [h.cell]
 rw [List.getElem?_take] at hv
 split at hv
 ·rw [List.getElem?_drop] at hv;exact hv
 ·cases hv
theorem fx {t:Nat} {i:TypeInfo} {d:TypeDesc} {z:Value} (hK:s9 ty t i d z) (hn:(ty t).ti≠ .oth) (ha:(ty t).isAgg=false) {g q:Nat} {v:Value} (hc:w.cell? ⟨g,q,none⟩=some v):(Instr.loadAt t (.pointer (some ⟨g,q,none⟩))).run Tryz.prog w= .ok v w:=by
 have:=(hK.isAgg hn w).1
 rw [ha] at this
 simp only [Instr.loadAt,Instr.sureAddr,Sem.run_bind,Sem.run_pure,Result.andThen_ok,loadVar,this]
 simp [load,Sem.run,hc]
theorem CZ {t:Nat} {i:TypeInfo} {d:TypeDesc} {z:Value} (hK:s9 ty t i d z) (hn:(ty t).ti≠ .oth) (ha:(ty t).isAgg=true) {g q:Nat} {cs:List Value} (hc:w.rangeAt g q cs) (hl:cs.length=(ty t).size):(Instr.loadAt t (.pointer (some ⟨g,q,none⟩))).run Tryz.prog w= .ok (.agg cs.toArray) w:=by
 have h2:=(hK.isAgg hn w).2
 rw [ha] at h2
 exact run_loadAt_mid w g q t cs d hc hK.und h2 (by rw [hK.info];simp [hK.size,hl])
theorem JW {t:Nat} {x:Operand} (ho:o.op= .load t x) {v:Value} (h:(Instr.loadAt t (a.eval x)).run Tryz.prog w= .ok v w):(execOp a.eval o).run Tryz.prog w= .ok (.value v) w:=by
 unfold execOp
 simp only [ho]
 rw [Sem.run_bind,h]
 simp
theorem yE {t:Nat} {α:Type} {r:R α} {x:α} (h:(kn ty t r).run sl H ds= .ok x rd qs):(ty t).ti≠ .oth:=by
 intro e
 unfold kn at h
 rw [e] at h;cases h
theorem AP {t:Nat} {av:AV} {v0:Value} (hT:a8 ty) (hH:bX H η w) (h:(nl ty t av).run sl H ds= .ok res rd qs) (hp:aW res.pre) (hv:av.H η (ay H η) w v0):∃out pre v,res=⟨out,[],pre,none⟩∧(Instr.loadAt t v0).run Tryz.prog w= .ok v w∧bF η (ay H η) w out v:=by
 unfold nl at h
 have hn:=yE h
 obtain ⟨⟨i,d,z,hK⟩,h9⟩:=b8 hT h
 clear h
 have h:=h9
 clear h9
 split at h
 ·-- a place in a block
  rename_i b q
  obtain ⟨g,hg,hv⟩:=hv
  obtain ⟨_,h9⟩:=bl h
  clear h
  have h:=h9
  clear h9
  split at h
  ·rename_i E l hb
   obtain ⟨cs,hB,hc,h1⟩:=dh hH hb hg
   split at h
   ·rename_i ha
    split at h
    ·rename_i r e1
     split at h
     ·rename_i u e2
      obtain ⟨z1,z2⟩:=fe e1 hc
      obtain ⟨z3,z4⟩:=hZ e2 z2
      have:=aC h
      subst this
      refine ⟨[.agg u],none,_,rfl,by rw [ai hv];exact CZ hK hn ha hB.range (by rw [List.length_take];omega),⟨_,rfl,z4,fun v hv=>h1 v (List.mem_of_mem_drop (List.mem_of_mem_take hv))⟩⟩
     ·cases h
    ·cases h
   ·rename_i ha
    split at h
    ·rename_i y e1
     obtain ⟨v,z1,z2⟩:=jt e1 hc
     have:=au h
     subst this
     exact ⟨_,_,_,rfl,(by rw [ai hv];exact fx hK hn ha (by rw [hB.cell];exact z1)),z2⟩
    ·cases h
  ·cases h
 ·rename_i b q j
  obtain ⟨g,hg,hv⟩:=hv
  obtain ⟨_,h9⟩:=bl h
  clear h
  have h:=h9
  clear h9
  split at h
  ·rename_i E l hb
   split at h
   ·rename_i k n l' e1
    split at h
    ·rename_i hk ha
     have:=a_ h
     subst this
     have hk1:=Kd.sc_n hk
     obtain ⟨g',cs,h1,hB,hc,_⟩:=hH.chunk b _ hb
     have:g'=g:=by unfold bf at hg;rw [h1] at hg;cases hg;rfl
     subst this
     obtain ⟨z1,z2,_⟩:=lr e1 hc
     have hlen:=b5 hk1 z2.2
     obtain ⟨v,y1,y2⟩:=gJ hk1 z2.2 (i:=j) (by rw [z2.1];exact hp)
     exact ⟨_,_,_,rfl,(by rw [ai hv];exact fx hK hn ha (by
      rw [hB.cell]
      rw [List.getElem?_take] at y1
      split at y1
      ·rw [List.getElem?_drop] at y1;exact y1
      ·cases y1)),y2⟩
    ·cases h
   ·cases h
  ·rename_i E k l hb
   split at h
   ·rename_i hk hq ha
    have:=a_ h
    subst this
    have hk1:=Kd.sc_n hk
    have hq0:=aL hq
    subst hq0
    obtain ⟨v',cs,h1,h2,h3⟩:=hH.chunk b _ hb
    rcases gX h2 h3 with ⟨_,rfl⟩|⟨g',c,e,_,_,hr⟩
    ·simp at hp;exact absurd hp (by simp [aW])
    ·have:g'=g:=by unfold bf at hg;rw [h1,e] at hg;cases hg;rfl
     subst this
     obtain ⟨v,y1,y2⟩:=gJ hk1 h2 (i:=j) hp
     exact ⟨_,_,_,rfl,(by rw [ai hv];exact fx hK hn ha (hr _ _ y1)),y2⟩
   ·cases h
  ·cases h
 ·rename_i k y
  obtain ⟨g,q,us,hv,hA,hr,hc⟩:=hv
  split at h
  ·rename_i hk ha
   have:=au h
   subst this
   obtain ⟨v,rfl,_⟩:=Kd.one_rep (Kd.sc_n hk) hr
   exact ⟨_,_,_,rfl,(by rw [ai hv];exact fx hK hn ha (by have:=hc 0 v rfl;rw [Nat.add_zero] at this;exact this)),hr⟩
  ·cases h
 ·rename_i l
  obtain ⟨g,q,v,hv,hA,hc,hr⟩:=hv
  split at h
  ·rename_i ha
   have:=au h
   subst this
   exact ⟨_,_,_,rfl,(by rw [ai hv];exact fx hK hn ha hc),⟨v,rfl,hr⟩⟩
  ·cases h
 ·cases h
theorem NQ {t:Nat} {x:Operand} (hT:a8 ty) (ho:o.op= .load t x) (hS:eH sl H N η a w) (h:(db x fun a=>nl ty t a:R aG).run sl H ds= .ok res rd qs) (hp:aW res.pre):OpDone H η w nx res o a:=by
 obtain ⟨av,rd',h,hv⟩:=bc h hS.slot
 obtain ⟨out,pre,v,rfl,h1,h2⟩:=AP hT hS.hpOk h hp hv
 exact .inl ⟨_,v,w,η,JW ho h1,.inl rfl,.pure hS.hpOk h2 trivial⟩
end
theorem l8 {g:Nat} {E:TypeId}:∀(cs:List Value) (o:Nat) (w:World) (old:List Value),ao w g old E→o+cs.length≤old.length→ao (w.setCells g o cs) g (old.take o++cs++old.drop (o+cs.length)) E
 | [],o,w,old,h,_=>by simpa [World.setCells] using h
 |v::r,o,w,old,h,hl=>by
  simp only [List.length_cons] at hl
  have h2:=l8 r (o+1) _ _ (h.set o v) (by rw [List.length_set];omega)
  have e:(old.set o v).take (o+1)++r++(old.set o v).drop (o+1+r.length)=old.take o++(v::r)++old.drop (o+(v::r).length):=by
   rw [List.take_set,List.drop_set_of_lt (by omega),List.take_add_one,List.getElem?_eq_getElem (by omega)]
   simp only [Option.toList_some,List.length_cons]
   rw [List.set_append_right _ _ (by rw [List.length_take];omega),List.length_take,Nat.min_eq_left (by omega),Nat.sub_self]
   simp [Nat.add_assoc,Nat.add_comm 1]
  rw [e] at h2
  exact h2
theorem ao.there {w:World} {g E:Nat} {cs:List Value} (h:ao w g cs E) {o n:Nat} (hn:o+n≤cs.length):w.there g o n:=fun j hj=>by
 rw [h.cell,List.getElem?_eq_getElem (by omega)]
 exact ⟨rfl,h.frozen _⟩
section
variable {ty:Nat→TE} {sl:Nat→List AV} {H:Nat→Option Ch} {η:aY} {w:World} {nx N:Nat} {a:Act} {o:Oper} {ds:List Bool} {res:aG} {rd:List cu} {qs:List (Bool×Bool)}
theorem ii:∀ {l:List Cl},li l=true→∀ {A:Nat→Prop} {cs:List Value},aO η A w l cs→∀v∈cs,v.oneCell'=true
 | [],_,_,_,h,v,hv=>by cases h;cases hv
 |x::r,hl,_,_,⟨hd,t,e,hx,hr⟩,v,hv=>by
  subst e
  have hne:x≠ .un:=by rintro rfl;cases hl
  have hl':li r=true:=by cases x<;>first |exact hl|exact absurd rfl hne
  rcases List.mem_append.1 hv with h|h
  ·exact hx.one hne v h
  ·exact ii hl' hr v h
theorem AV.cells {A:Nat→Prop} {x:AV} {v:Value} (h:x.H η A w v) (hn:li (dU x)=true):∃cs:List Value,v.cells=cs.toArray∧aO η A w (dU x) cs∧∀u∈cs,u.oneCell'=true:=by
 cases x with
 |one x=>
  have hc:aO η A w [x] [v]:=⟨[v],[],rfl,h,rfl⟩
  have h1:=ii hn hc
  exact ⟨[v],kY (h1 v (by simp)),hc,h1⟩
 |agg l=>
  obtain ⟨cs,rfl,hc,h1⟩:=h
  exact ⟨cs,rfl,hc,h1⟩
theorem QN {t:Nat} {x:Operand} (ho:o.op= .box t x) (hS:eH sl H N η a w) (hfree:∀b,nx≤b→b<nx+16→η b=none) (h:(db x fun a=>match li (dU a) with |true=>sq nx (.ptr nx 0) (.blk t (dU a)) none|false=> .fail:R aG).run sl H ds= .ok res rd qs):OpDone H η w nx res o a:=by
 obtain ⟨av,rd',h,hv⟩:=bc h hS.slot
 split at h
 ·rename_i hu
  obtain ⟨hn,rfl⟩:=ft h
  obtain ⟨cs,e,hc,h1⟩:=AV.cells hv hu
  obtain ⟨η',hR⟩:=bj.new (nx:=nx) (ref:= .pointer (some ⟨w.heap.size,0,none⟩)) (c:= .blk t (dU av)) (out:= [.one (.ptr nx 0)]) (v:= .pointer (some ⟨w.heap.size,0,none⟩)) (pre:=none) hS.hpOk hn hfree (w':=w.alloc (.cells cs.toArray t)) ((Below.refl _ _).alloc (Nat.le_refl _) _) (fun g hg=>by cases hg;exact Nat.le_refl _)
   (fun η' A' he hA hnx=>⟨⟨_,cs,hnx,rQ t cs,hc.later ⟨he,fun g hg ha=>⟨Below.heap_alloc _ _ _ hg,hA g hg ha⟩⟩,h1⟩,_,hnx,rfl⟩)
  refine .inl ⟨_,_,_,η',?_,.inl rfl,hR⟩
  unfold execOp
  simp only [ho,Instr.box,newVar,newRow,newObj,e]
  rfl
 ·cases h
theorem jx {t:Nat} {x y:Operand} (ho:o.op= .store t x y) {w':World} (h:(Instr.storeAt t (a.eval x) (a.eval y)).run Tryz.prog w= .ok () w'):(execOp a.eval o).run Tryz.prog w= .ok .skip w':=by
 unfold execOp
 simp only [ho]
 rw [Sem.run_bind,h]
 simp
theorem jh {t:Nat} {i:TypeInfo} {d:TypeDesc} {z:Value} (hK:s9 ty t i d z) (h1:(ty t).size=1) {g q E:Nat} {cs:List Value} {v:Value} (hv:v.oneCell'=true) (hB:ao w g cs E) (hq:q<cs.length):
  (Instr.storeAt t (.pointer (some ⟨g,q,none⟩)) v).run Tryz.prog w= .ok () (w.setCell ⟨g,q,none⟩ v):=by
 have hs:=hK.sizeOf w
 rw [h1] at hs
 have hc:w.cell? ⟨g,q,none⟩=some cs[q]:=by rw [hB.cell,List.getElem?_eq_getElem hq]
 have hf:=hB.frozen q
 simp only [Instr.storeAt,Instr.sureAddr,Sem.run_bind,Sem.run_pure,Result.andThen_ok,storeVar,kY hv,hs]
 simp [storeCells,run_store Tryz.prog w ⟨g,q,none⟩ v _ hv,hc,hf,Addr.add]
theorem eZ {g q x:Nat} (h:x≠g) (v:Value):(w.setCell ⟨g,q,none⟩ v).heap[x]?=w.heap[x]?:=Below.heap_setCell _ _ _ _ h
theorem jP {b:Nat} {c:Ch} {p:Option Prop} (h:(G1 b c p).run sl H ds= .ok res rd qs):res=⟨[],[(b,some c)],p,none⟩:=aC h
theorem Bp {k:Kd} {l m:List k.T} {j:Nat} {x:Cl} (h:nK k l j x=some m) {A:Nat→Prop} {v:Value} (hx:x.H η A w [v]) {cs:List Value} (hl:aU k.rp l cs):aU k.rp m (cs.set j v)∧m.length=l.length∧k.n=1∧v.oneCell'=true:=by
 cases k<;>(try (unfold nK at h;cases h;done))
 all_goals
  cases x
  case ob k2 z=>
   cases k2<;>first
    |(unfold nK at h;cases h;done)
    |(simp only [nK,Option.some.injEq] at h;subst h;exact ⟨gK rfl hl hx,by simp,rfl,(Kd.rp _).one _ _ hx v (by simp)⟩)
  case cv u=>
   cases u<;>first
    |(unfold nK at h;cases h;done)
    |(simp only [nK,Option.some.injEq] at h;subst h;exact ⟨gK (k:= .bool) rfl hl hx.1,by simp,rfl,by rw [ai hx.1];rfl⟩)
    |(rename_i ik z;cases ik<;>first |(unfold nK at h;cases h;done)|(simp only [nK,Option.some.injEq] at h;subst h;exact ⟨gK (k:= .int) rfl hl hx.1,by simp,rfl,by rw [ai hx.1];rfl⟩))
  all_goals (unfold nK at h;cases h)
theorem JJ {t:Nat} {x y:Operand} (hT:a8 ty) (ho:o.op= .store t x y) (hS:eH sl H N η a w) (h:(db x fun a=>db y fun v=>r7 ty t a v:R aG).run sl H ds= .ok res rd qs) (hp:aW res.pre):OpDone H η w nx res o a:=by
 obtain ⟨av,rd1,h1,hv⟩:=bc h hS.slot
 obtain ⟨bv,rd2,h2,hw⟩:=bc h1 hS.slot
 unfold r7 at h2
 obtain ⟨⟨i,d,z,hK⟩,h3⟩:=b8 hT h2
 clear h h1 h2
 split at h3
 ·rename_i b q
  obtain ⟨g,hg,hv⟩:=hv
  obtain ⟨_,h4⟩:=bl h3
  clear h3
  split at h4
  ·rename_i E l hb
   obtain ⟨cs,hB,hc,h1⟩:=dh hS.hpOk hb hg
   have hfp:bf η b=some g:=by unfold bf;rw [hg];rfl
   split at h4
   ·rename_i ha
    split at h4
    ·rename_i u
     split at h4
     ·rename_i l' e1
      have:=jP h4
      subst this
      obtain ⟨us,e2,hu,hu1⟩:=hw
      obtain ⟨⟨z1,hl⟩,z2⟩:=mc e1 hc hu
      have hrun:=run_storeAt_mid (P:=Tryz.prog) w g q t us.toArray (by simpa using hB.there (by rw [hl];exact z1)) (by rw [hK.info];simp [hK.size,hl]) (all_oneCell_toArray hu1)
      refine .inl ⟨_,undef,_,η,jx ho (by rw [ai hv,e2];exact hrun),.inr ⟨rfl,rfl⟩,bj.set (c':= .blk E l') hS.hpOk hb hfp ?_ ?_ ?_ (dB _ _ _ _).symm (fun x hx=>dw _ _ _ _ _ hx) fun A' hA hL=>⟨g,_,hg,l8 us q w cs hB (by omega),?_,?_⟩⟩
      ·exact (aS (Nat.zero_le _) _ _ _ (Below.refl 0 w)).os
      ·exact (aS (Nat.zero_le _) _ _ _ (Below.refl 0 w)).tape
      ·exact (aS (Nat.zero_le _) _ _ _ (Below.refl 0 w)).output
      ·rw [hl];exact z2.later hL
      ·intro v hv
       rcases List.mem_append.1 hv with hv|hv
       ·rcases List.mem_append.1 hv with hv|hv
        ·exact h1 v (List.mem_of_mem_take hv)
        ·exact hu1 v hv
       ·exact h1 v (List.mem_of_mem_drop hv)
     ·cases h4
    ·cases h4
   ·rename_i ha
    split at h4
    ·rename_i u h5
     split at h4
     ·rename_i hun
      split at h4
      ·rename_i l' e1
       have:=jP h4
       subst this
       obtain ⟨z1,z2⟩:=kb e1 hc hw
       have hone:(a.eval y).oneCell'=true:=ii hun (A:=ay H η) (cs:= [a.eval y]) ⟨[a.eval y],[],rfl,hw,rfl⟩ _ (by simp)
       refine .inl ⟨_,undef,_,η,jx ho (by rw [ai hv];exact jh hK (aL h5) hone hB z1),.inr ⟨rfl,rfl⟩,bj.set (c':= .blk E l') (w':=w.setCell ⟨g,q,none⟩ (a.eval y)) hS.hpOk hb hfp rfl rfl rfl (by simp [World.setCell]) (fun x hx=>eZ hx _) fun A' hA hL=>⟨g,_,hg,hB.set q _,z2.later hL,?_⟩⟩
       intro v hv
       rcases List.mem_or_eq_of_mem_set hv with hv|rfl
       ·exact h1 v hv
       ·exact hone
      ·cases h4
     ·cases h4
    ·cases h4
  ·cases h4
 ·rename_i b q j
  obtain ⟨g,hg,hv⟩:=hv
  obtain ⟨_,h4⟩:=bl h3
  clear h3
  split at h4
  ·rename_i E l hb
   split at h4
   ·rename_i k n q' u e1
    split at h4
    ·rename_i h5
     split at h4
     ·rename_i q2 e2
      split at h4
      ·rename_i l' e3
       have:=jP h4
       subst this
       obtain ⟨g',cs,y1,hB,hc,y4⟩:=hS.chunk b _ hb
       have:g'=g:=by unfold bf at hg;rw [y1] at hg;cases hg;rfl
       subst this
       obtain ⟨z1,z2,z3⟩:=lr e1 hc
       obtain ⟨x1,x2,x3,x4⟩:=Bp e2 hw z2.2
       have hj:j<n:=hp
       have hlen:=b5 x3 z2.2
       have hz:=z3 e3 (ds:=((cs.drop q).take (Cl.vec k n q').n).set j (a.eval y)) ⟨x2.trans z2.1,x1⟩
       have hn:(Cl.vec k n q').n=n:=by simp [Cl.n,x3]
       rw [hn] at hz z1
       have hlist:cs.take q++((cs.drop q).take n).set j (a.eval y)++cs.drop (q+n)=cs.set (q+j) (a.eval y):=by
        apply List.ext_getElem?
        intro m
        rw [List.getElem?_set]
        by_cases hm:m<q
        ·rw [List.append_assoc,List.getElem?_append_left (by simp;omega),List.getElem?_take,if_pos hm,if_neg (by omega)]
        ·by_cases hm2:m<q+n
         ·rw [List.append_assoc,List.getElem?_append_right (by simp;omega),List.getElem?_append_left (by simp;omega),List.getElem?_set]
          have e5:m-(cs.take q).length=m-q:=by simp;omega
          rw [e5]
          by_cases hmj:q+j=m
          ·rw [if_pos (by omega),if_pos hmj,if_pos (by simp;omega),if_pos (by omega)]
          ·rw [if_neg (by omega),if_neg hmj,List.getElem?_take,if_pos (by omega),List.getElem?_drop,show q+(m-q)=m by omega]
         ·rw [List.getElem?_append_right (by simp;omega),if_neg (by omega),List.getElem?_drop]
          congr 1
          simp;omega
       rw [hlist] at hz
       refine .inl ⟨_,undef,_,η,jx ho (by rw [ai hv];exact jh hK (aL h5) x4 hB (q:=q+j) (by omega)),.inr ⟨rfl,rfl⟩,bj.set (c':= .blk E l') (w':=w.setCell ⟨g',q+j,none⟩ (a.eval y)) hS.hpOk hb hg rfl rfl rfl (by simp [World.setCell]) (fun x hx=>eZ hx _) fun A' hA hL=>⟨g',_,y1,hB.set (q+j) _,hz.later hL,?_⟩⟩
       intro v hv
       rcases List.mem_or_eq_of_mem_set hv with hv|rfl
       ·exact y4 v hv
       ·exact x4
      ·cases h4
     ·cases h4
    ·cases h4
   ·cases h4
  ·rename_i E k l hb
   split at h4
   ·rename_i u
    split at h4
    ·rename_i h5 h6
     split at h4
     ·rename_i m e2
      have:=jP h4
      subst this
      have hq0:=aL h6
      subst hq0
      obtain ⟨v',cs,y1,y2,y3⟩:=hS.chunk b _ hb
      obtain ⟨x1,x2,x3,x4⟩:=Bp e2 hw y2
      have hj:j<l.length:=hp
      have hlen:=b5 x3 y2
      rcases y3 with ⟨y3,y4⟩
      rcases y4 with ⟨_,y5⟩|⟨g',cap,cur,rfl,_,hh,c1,c2,c3,c4⟩
      ·omega
      ·have:g'=g:=by unfold bf at hg;rw [y1] at hg;cases hg;rfl
       subst this
       rw [x3,Nat.mul_one] at c3 c4
       have hB:ao w g' cur.toList E:=by unfold ao;simpa using hh
       have hcl:cur.toList.length=cap:=by simpa using c3
       refine .inl ⟨_,undef,_,η,jx ho (by rw [ai hv];exact jh hK (aL h5) x4 hB (q:=0+j) (by omega)),.inr ⟨rfl,rfl⟩,bj.set (c':= .row E k m) (w':=w.setCell ⟨g',0+j,none⟩ (a.eval y)) hS.hpOk hb hg rfl rfl rfl (by simp [World.setCell]) (fun x hx=>eZ hx _) fun A' hA hL=>⟨_,_,y1,x1,?_⟩⟩
       have hB2:=hB.set (0+j) (a.eval y)
       rw [Nat.zero_add] at hB2 ⊢
       refine ⟨by rw [List.length_set,y3,x2],.inr ⟨g',cap,(cur.toList.set j (a.eval y)).toArray,by rw [x2],Nat.zero_le _,hB2,by omega,c2,by rw [x3];simp;omega,?_⟩⟩
       rw [x3,Nat.mul_one,x2]
       show (cur.toList.set j (a.eval y)).take l.length=_
       rw [List.take_set,c4]
     ·cases h4
    ·cases h4
   ·cases h4
  ·cases h4
 ·cases h3
end
section
variable {ty:Nat→TE} {sl:Nat→List AV} {H:Nat→Option Ch} {η:aY} {w:World} {nx N:Nat} {a:Act} {o:Oper} {ds:List Bool} {res:aG} {rd:List cu} {qs:List (Bool×Bool)}
theorem i8 {i:AV} {lit:Nat→R aG} {sym:Int→R aG} (h:(Kg i lit sym).run sl H ds= .ok res rd qs) {A:Nat→Prop} {v:Value} (hi:i.H η A w v):
  (∃k:Nat,v= .int .i64 (k:Int)∧(lit k).run sl H ds= .ok res rd qs)∨∃kd z,v= .int kd z∧(sym z).run sl H ds= .ok res rd qs:=by
 unfold Kg at h
 split at h
 ·rename_i z e
  have:=a9 e hi
  cases z with
  |ofNat n=>exact .inl ⟨n,this,h⟩
  |negSucc n=>cases h
 ·rename_i z e
  exact .inr ⟨_,_,a9 e hi,h⟩
 ·rename_i y _ _ e
  obtain ⟨k,hk⟩:=dm y
  exact .inr ⟨k,_,by rw [cL (a9 e hi),hk],h⟩
 ·cases h
theorem bY {t:Nat} {x y:Operand} (ho:o.op= .indexAddr t x y) {v:Value} (h:(Instr.indexAt t (a.eval x) (a.eval y)).run Tryz.prog w= .ok v w):(execOp a.eval o).run Tryz.prog w= .ok (.value v) w:=by
 unfold execOp
 simp only [ho]
 rw [Sem.run_bind,h]
 simp
theorem wc {t e:Nat} (h:Tryz.prog.underlying t=some (.slice e)):Tryz.prog.elem t=e∧Tryz.prog.underlying t=some (.slice (Tryz.prog.elem t)):=by
 have:Tryz.prog.elem t=e:=by simp [Program.elem,h]
 exact ⟨this,by rw [this];exact h⟩
theorem Bm {t e n:Nat} (hu:Tryz.prog.underlying t=some (.array n e)) {s:Nat} (hs:(sizeOf e).run Tryz.prog w= .ok s w) {ad:Addr} {kd:IntKind} {z:Int} (h0:0≤z) (h1:z<n):(Instr.indexAt t (.pointer (some ad)) (.int kd z)).run Tryz.prog w= .ok (.pointer (some (ad.add (z.toNat*s)))) w:=by
 have e1:Tryz.prog.arrayLen t=n:=by simp [Program.arrayLen,hu]
 have e2:Tryz.prog.elem t=e:=by simp [Program.elem,hu]
 rw [run_indexAt_array w t ad kd z (by rw [e1,e2];exact hu),e1,e2,if_pos ⟨h0,h1⟩,hs];rfl
theorem ix {t e n c:Nat} (hu:Tryz.prog.underlying t=some (.slice e)) {s:Nat} (hs:(sizeOf e).run Tryz.prog w= .ok s w) {ad:Addr} {kd:IntKind} {z:Int} (h0:0≤z) (h1:z<n):(Instr.indexAt t (.slice (some ad) n c) (.int kd z)).run Tryz.prog w= .ok (.pointer (some (ad.add (z.toNat*s)))) w:=by
 obtain ⟨e1,e2⟩:=wc hu
 rw [run_indexAt_slice w t ad n c kd z e2,e1,if_pos ⟨h0,h1⟩,hs];rfl
theorem dc (g q j:Nat):(⟨g,q,none⟩:Addr).add j=⟨g,q+j,none⟩:=Addr.add_mid g q j
theorem cZ {t e:Nat} (hT:a8 ty) (h:(ty t).ti= .sl e):Tryz.prog.underlying t=some (.slice e):=by
 rcases hT t with h1|⟨i,d,z,hK⟩
 ·rw [h] at h1;cases h1
 ·have:=hK.desc;rw [h] at this;rw [hK.und,this]
theorem j1 {t n e:Nat} (hT:a8 ty) (h:(ty t).ti= .arr n e):Tryz.prog.underlying t=some (.array n e):=by
 rcases hT t with h1|⟨i,d,z,hK⟩
 ·rw [h] at h1;cases h1
 ·have:=hK.desc;rw [h] at this;rw [hK.und,this]
theorem JG {t:Nat} {x y:Operand} (hT:a8 ty) (ho:o.op= .indexAddr t x y) (hS:eH sl H N η a w) (h:(db x fun a=>db y fun i=>gQ ty t a i:R aG).run sl H ds= .ok res rd qs) (hp:aW res.pre):OpDone H η w nx res o a:=by
 obtain ⟨av,rd1,h1,hv⟩:=bc h hS.slot
 obtain ⟨iv,rd2,h2,hw⟩:=bc h1 hS.slot
 clear h h1
 unfold gQ at h2
 split at h2
 ·rename_i b q
  split at h2
  ·rename_i n e ht
   obtain ⟨⟨i,d,z,hK⟩,h3⟩:=b8 hT h2
   clear h2
   have hu:=j1 hT ht
   obtain ⟨g,hg,hv⟩:=hv
   rcases i8 h3 hw with ⟨k,hi,h4⟩|⟨kd,z',hi,h4⟩
   ·split at h4
    ·rename_i hk
     have:=au h4
     subst this
     have hk':=iU hk
     exact .val hS.hpOk ⟨g,hg,rfl⟩ (bY ho (by rw [ai hv,hi,Bm hu (hK.sizeOf w) (by omega) (by omega),dc,Int.toNat_natCast]))
    ·cases h4
   ·split at h4
    ·rename_i hs
     have:=a_ h4
     subst this
     have hk:0≤z'∧z'<n:=hp
     exact .val hS.hpOk ⟨g,by unfold bf;rw [hg];rfl,rfl⟩ (bY ho (by rw [ai hv,hi,Bm hu (hK.sizeOf w) hk.1 hk.2,dc,aL hs,Nat.mul_one]))
    ·cases h4
  ·cases h2
 ·rename_i b q n c
  split at h2
  ·rename_i e ht
   obtain ⟨⟨i,d,z,hK⟩,h3⟩:=b8 hT h2
   clear h2
   have hu:=cZ hT ht
   obtain ⟨_,g,hg,hv⟩:=hv
   rcases i8 h3 hw with ⟨k,hi,h4⟩|⟨kd,z',hi,h4⟩
   ·split at h4
    ·rename_i hk
     have:=au h4
     subst this
     have hk':=iU hk
     exact .val hS.hpOk ⟨g,hg,rfl⟩ (bY ho (by rw [ai hv,hi,ix hu (hK.sizeOf w) (by omega) (by omega),dc,Int.toNat_natCast]))
    ·cases h4
   ·split at h4
    ·rename_i hs
     have:=a_ h4
     subst this
     have hk:0≤z'∧z'<n:=hp
     exact .val hS.hpOk ⟨g,by unfold bf;rw [hg];rfl,rfl⟩ (bY ho (by rw [ai hv,hi,ix hu (hK.sizeOf w) hk.1 hk.2,dc,aL hs,Nat.mul_one]))
    ·cases h4
  ·cases h2
 ·rename_i b
  split at h2
  ·rename_i e ht
   obtain ⟨⟨i,d,z,hK⟩,h3⟩:=b8 hT h2
   clear h2
   have hu:=cZ hT ht
   split at h3
   ·rename_i hs
    obtain ⟨_,h4⟩:=bl h3
    clear h3
    split at h4
    ·rename_i E k l hb
     obtain ⟨v,hv1,hv2,_⟩:=hv
     obtain ⟨v',cs,y1,y2,y3⟩:=hS.chunk b _ hb
     rw [hv1] at y1;cases y1
     have key:∀(j:Nat) (kd:IntKind) (z:Int),z=(j:Int)→j<l.length→(Instr.indexAt t (a.eval x) (.int kd z)).run Tryz.prog w= .ok (.pointer (some ⟨((bf η b).getD 0),0+j,none⟩)) w∧∃g,bf η b=some g:=fun j kd z hz hj=>by
      subst hz
      rcases gX y2 y3 with ⟨_,rfl⟩|⟨g',c,e1,_,_,_⟩
      ·simp at hj
      ·have hf:bf η b=some g':=by unfold bf;rw [hv1,e1];rfl
       refine ⟨?_,g',hf⟩
       rw [ai hv2,e1,ix hu (hK.sizeOf w) (by omega) (by omega),dc,aL hs,Nat.mul_one,hf,Int.toNat_natCast];rfl
     rcases i8 h4 hw with ⟨j,hi,h5⟩|⟨kd,z',hi,h5⟩
     ·have:=a_ h5
      subst this
      obtain ⟨r,g,hf⟩:=key j .i64 j rfl hp
      rw [hf] at r
      exact .val hS.hpOk ⟨g,hf,rfl⟩ (bY ho (by rw [hi];exact r))
     ·have:=a_ h5
      subst this
      have hk:0≤z'∧z'<l.length:=hp
      obtain ⟨r,g,hf⟩:=key z'.toNat kd z' (by omega) (by omega)
      rw [hf] at r
      exact .val hS.hpOk ⟨g,hf,rfl⟩ (bY ho (by rw [hi];exact r))
    ·cases h4
   ·cases h3
  ·cases h2
 ·rename_i b lo n
  split at h2
  ·rename_i e ht
   obtain ⟨⟨i,d,z,hK⟩,h3⟩:=b8 hT h2
   clear h2
   have hu:=cZ hT ht
   split at h3
   ·rename_i hs
    obtain ⟨v,ad,c,y1,y2,_,_,_,y3⟩:=hv
    have key:∀(j:Nat) (kd:IntKind) (z:Int),z=(j:Int)→j<n→∃g,bf η b=some g∧(Instr.indexAt t (a.eval x) (.int kd z)).run Tryz.prog w= .ok (.pointer (some ⟨g,0+(lo+j),none⟩)) w:=fun j kd z hz hj=>by
     subst hz
     obtain ⟨g,N,C,e1,e2,_⟩:=y3 (by omega)
     refine ⟨g,by unfold bf;rw [y1,e1];rfl,?_⟩
     rw [ai y2,e2,ix hu (hK.sizeOf w) (by omega) (by omega),dc,aL hs,Nat.mul_one,Int.toNat_natCast,Nat.zero_add]
    rcases i8 h3 hw with ⟨j,hi,h5⟩|⟨kd,z',hi,h5⟩
    ·have:=a_ h5
     subst this
     obtain ⟨g,hf,r⟩:=key j .i64 j rfl hp
     exact .val hS.hpOk ⟨g,hf,rfl⟩ (bY ho (by rw [hi];exact r))
    ·have:=a_ h5
     subst this
     have hk:0≤z'∧z'<n:=hp
     obtain ⟨g,hf,r⟩:=key z'.toNat kd z' (by omega) (by omega)
     exact .val hS.hpOk ⟨g,hf,rfl⟩ (bY ho (by rw [hi];exact r))
   ·cases h3
  ·cases h2
 ·rename_i k l
  split at h2
  ·rename_i e ht
   obtain ⟨⟨i,d,z,hK⟩,h3⟩:=b8 hT h2
   clear h2
   have hu:=cZ hT ht
   split at h3
   ·rename_i hs
    obtain ⟨v,y1,ad,c,y2,_,_,_,y3⟩:=hv
    have key:∀(j:Nat) (kd:IntKind) (z:Int),z=(j:Int)→j<l.length→∃v,(Instr.indexAt t (a.eval x) (.int kd z)).run Tryz.prog w= .ok v w∧(Cl.pro k (l.getD j k.df)).H η (ay H η) w [v]:=fun j kd z hz hj=>by
     subst hz
     obtain ⟨g,q,cs,e1,hA,hc,hr⟩:=y3 (by omega)
     refine ⟨.pointer (some ⟨g,q+j*k.n,none⟩),?_,?_⟩
     ·rw [ai y1,y2,e1,ix hu (hK.sizeOf w) (by omega) (by omega),dc,aL hs,Int.toNat_natCast]
     ·have hd:=(hc.drop j)
      rw [List.drop_eq_getElem_cons hj] at hd
      obtain ⟨us,r,hx,e2,_⟩:=hd
      refine ⟨g,q+j*k.n,us,rfl,hA,by rw [List.getD_eq_getElem?_getD,List.getElem?_eq_getElem hj];exact hx,fun m u hm=> ?_⟩
      have hmu:m<us.length:=(List.getElem?_eq_some_iff.1 hm).1
      have:=hr (k.rp.n*j+m) u (by
       have h9:(cs.drop (k.rp.n*j))[m]?=some u:=by rw [e2,List.getElem?_append_left hmu];exact hm
       rw [List.getElem?_drop] at h9;exact h9)
      rw [k.rp_n] at this
      rw [show q+j*k.n+m=q+(k.n*j+m) by rw [Nat.mul_comm];omega];exact this
    rcases i8 h3 hw with ⟨j,hi,h5⟩|⟨kd,z',hi,h5⟩
    ·have:=a_ h5
     subst this
     obtain ⟨v,r,hx⟩:=key j .i64 j rfl hp
     exact .val hS.hpOk hx (bY ho (by rw [hi];exact r))
    ·have:=a_ h5
     subst this
     have hk:0≤z'∧z'<l.length:=hp
     obtain ⟨v,r,hx⟩:=key z'.toNat kd z' (by omega) (by omega)
     exact .val hS.hpOk hx (bY ho (by rw [hi];exact r))
   ·cases h3
  ·cases h2
 ·rename_i l
  split at h2
  ·rename_i e ht
   obtain ⟨⟨i,d,z,hK⟩,h3⟩:=b8 hT h2
   clear h2
   have hu:=cZ hT ht
   split at h3
   ·rename_i hs
    obtain ⟨ad,c,y1,_,_,_,y3⟩:=hv
    have key:∀(j:Nat) (kd:IntKind) (z:Int),z=(j:Int)→j<l.length→∃v,(Instr.indexAt t (a.eval x) (.int kd z)).run Tryz.prog w= .ok v w∧(Cl.pbb (l.getD j [])).H η (ay H η) w [v]:=fun j kd z hz hj=>by
     subst hz
     obtain ⟨g,q,us,e1,hA,hr,hlen,hall⟩:=y3 (by omega)
     refine ⟨.pointer (some ⟨g,q+j,none⟩),?_,g,q+j,us[j]'(by omega),rfl,hA,hr j _ (List.getElem?_eq_getElem (by omega)),?_⟩
     ·rw [ai y1,e1,ix hu (hK.sizeOf w) (by omega) (by omega),dc,aL hs,Nat.mul_one,Int.toNat_natCast]
     ·rw [List.getD_eq_getElem?_getD,List.getElem?_eq_getElem hj];exact hall j hj (by omega)
    rcases i8 h3 hw with ⟨j,hi,h5⟩|⟨kd,z',hi,h5⟩
    ·have:=a_ h5
     subst this
     obtain ⟨v,r,hx⟩:=key j .i64 j rfl hp
     exact .val hS.hpOk hx (bY ho (by rw [hi];exact r))
    ·have:=a_ h5
     subst this
     have hk:0≤z'∧z'<l.length:=hp
     obtain ⟨v,r,hx⟩:=key z'.toNat kd z' (by omega) (by omega)
     exact .val hS.hpOk hx (bY ho (by rw [hi];exact r))
   ·cases h3
  ·cases h2
 ·cases h2
end
section
variable {ty:Nat→TE} {sl:Nat→List AV} {H:Nat→Option Ch} {η:aY} {w:World} {nx N:Nat} {a:Act} {o:Oper} {ds:List Bool} {res:aG} {rd:List cu} {qs:List (Bool×Bool)}
theorem E5 {ev:Sem Value} {v:Value} (hop:execOp a.eval o=(do let x←ev;pure (.value x):Sem Next)) (h:ev.run Tryz.prog w= .ok v w):(execOp a.eval o).run Tryz.prog w= .ok (.value v) w:=by
 rw [hop,Sem.run_bind,h];simp
theorem zE {t:Nat} {fs:List (Nat×Nat)} (hT:a8 ty) (h:(ty t).ti= .st fs):∃fl,Tryz.prog.underlying t=some (.struct fl)∧fl.toList.map (fun f=>(f.offset,f.type))=fs:=by
 rcases hT t with h1|⟨i,d,z,hK⟩
 ·rw [h] at h1;cases h1
 ·have:=hK.desc;rw [h] at this
  obtain ⟨fl,e,e2⟩:=this
  exact ⟨fl,by rw [hK.und,e],e2⟩
theorem vY {fl:Array Field} {fs:List (Nat×Nat)} (h:fl.toList.map (fun f=>(f.offset,f.type))=fs) {f off u:Nat} (hf:fs[f]?=some (off,u)):∃x,fl[f]?=some x∧x.offset=off∧x.type=u:=by
 rw [←h,List.getElem?_map] at hf
 cases e:fl.toList[f]? with
 |none=>rw [e] at hf;cases hf
 |some x=>
  rw [e] at hf
  simp only [Option.map_some,Option.some.injEq,Prod.mk.injEq] at hf
  exact ⟨x,by simpa using e,hf.1,hf.2⟩
theorem tR {t f:Nat} {x:Operand} (hT:a8 ty) (ho:o.op= .fieldAddr t x f) (hS:eH sl H N η a w) (h:(db x fun a=>match a,(ty t).ti with
  | .one (.ptr b o),.st fs=>kn ty t (match fs[f]? with
   |some (off,u)=>kn ty u (match Nat.blt 0 (ty u).size with |true=>aw (.ptr b (o+off))|false=> .fail)
   |none=> .fail)
  |_,_=> .fail:R aG).run sl H ds= .ok res rd qs):OpDone H η w nx res o a:=by
 obtain ⟨av,rd1,h1,hv⟩:=bc h hS.slot
 clear h
 split at h1
 ·rename_i b q fs ht
  obtain ⟨_,h2⟩:=b8 hT h1
  clear h1
  obtain ⟨fl,hu,hfl⟩:=zE hT ht
  split at h2
  ·rename_i off u hf
   obtain ⟨⟨i,d,z,hK⟩,h3⟩:=b8 hT h2
   clear h2
   split at h3
   ·rename_i hs
    have:=au h3
    subst this
    obtain ⟨g,hg,hv⟩:=hv
    obtain ⟨fd,e1,e2,e3⟩:=vY hfl hf
    have hs':=iU hs
    refine .val hS.hpOk ⟨g,hg,rfl⟩ (E5 (ev:=Instr.fieldAt t (a.eval x) f) (by unfold execOp;simp only [ho]) ?_)
    rw [ai hv]
    have hsz:=hK.sizeOf w
    rw [←e3] at hsz
    unfold Instr.fieldAt
    rw [Sem.run_bind,run_underlying hu]
    simp only [Result.andThen_ok,e1]
    simp only [Instr.sureAddr,Sem.run_bind,Sem.run_pure,Result.andThen_ok,fieldPlace,hsz]
    rw [if_neg (by rw [e3];omega)]
    simp [dc,e2]
   ·cases h3
  ·cases h2
 ·cases h1
theorem QO {x:Operand} (ho:o.op= .nilCheck x) (hS:eH sl H N η a w) (h:(db x fun a=>match a with
  | .one (.ptr b o)=>aw (.ptr b o)
  |_=> .fail:R aG).run sl H ds= .ok res rd qs):OpDone H η w nx res o a:=by
 obtain ⟨av,rd1,h1,hv⟩:=bc h hS.slot
 split at h1
 ·rename_i b q
  have:=au h1
  subst this
  have hx:=hv
  obtain ⟨g,hg,hv⟩:=hv
  refine .val hS.hpOk hx ?_
  unfold execOp
  simp only [ho,ai hv]
  rfl
 ·cases h1
theorem Dj {b:Bool} {l:List Cl} (h:(we b l).run sl H ds= .ok res rd qs):(b=true∧res=⟨[.agg l],[],none,none⟩)∨(b=false∧∃x,l= [x]∧x.n=1∧res=⟨[.one x],[],none,none⟩):=by
 unfold we at h
 cases b with
 |true=>exact .inl ⟨rfl,aC h⟩
 |false=>
  simp only at h
  split at h
  ·rename_i x
   split at h
   ·rename_i hn;exact .inr ⟨rfl,x,rfl,aL hn,au h⟩
   ·cases h
  ·cases h
theorem vO {u:Nat} {i:TypeInfo} {d:TypeDesc} {z:Value} (hK:s9 ty u i d z) (hn:(ty u).ti≠ .oth) {cs:List Value} {off:Nat} (hl:off+(ty u).size≤cs.length):
  ((ty u).isAgg=true→(part u cs.toArray off).run Tryz.prog w= .ok (.agg ((cs.drop off).take (ty u).size).toArray) w)∧((ty u).isAgg=false→∀v,cs[off]?=some v→(part u cs.toArray off).run Tryz.prog w= .ok v w):=by
 obtain ⟨h1,h2⟩:=hK.isAgg hn w
 refine ⟨fun ha=> ?_,fun ha v hv=> ?_⟩
 ·rw [ha] at h1
  unfold part
  rw [Sem.run_bind,h1]
  simp only [Result.andThen_ok,if_true]
  rw [Sem.run_bind,hK.sizeOf]
  simp [List.take_drop]
 ·rw [ha] at h1
  unfold part
  rw [Sem.run_bind,h1]
  simp [hv]
theorem JF {t f:Nat} {x:Operand} (hT:a8 ty) (ho:o.op= .field t x f) (hS:eH sl H N η a w) (h:(db x fun a=>match a,(ty t).ti with
  | .agg l,.st fs=>match fs[f]? with
   |some (off,u)=>kn ty u (match d7 l off with
    |some r=>match fI r (ty u).size with
     |some q=>we (ty u).isAgg q
     |none=> .fail
    |none=> .fail)
   |none=> .fail
  |_,_=> .fail:R aG).run sl H ds= .ok res rd qs):OpDone H η w nx res o a:=by
 obtain ⟨av,rd1,h1,hv⟩:=bc h hS.slot
 clear h
 split at h1
 ·rename_i l fs ht
  obtain ⟨fl,hu,hfl⟩:=zE hT ht
  split at h1
  ·rename_i off u hf
   have hn:=yE h1
   obtain ⟨⟨i,d,z,hK⟩,h3⟩:=b8 hT h1
   clear h1
   obtain ⟨fd,e1,e2,e3⟩:=vY hfl hf
   obtain ⟨cs,hv,hc,hone⟩:=hv
   split at h3
   ·rename_i r y1
    split at h3
    ·rename_i q y2
     obtain ⟨z1,z2⟩:=fe y1 hc
     obtain ⟨z3,z4⟩:=hZ y2 z2
     rw [List.length_drop] at z3
     obtain ⟨p1,p2⟩:=vO (w:=w) hK hn (cs:=cs) (off:=off) (by omega)
     have hex:∀v,(part u cs.toArray off).run Tryz.prog w= .ok v w→(execOp a.eval o).run Tryz.prog w= .ok (.value v) w:=fun v hv'=>by
      refine E5 (ev:=Instr.field t (a.eval x) f) (by unfold execOp;simp only [ho]) ?_
      rw [hv]
      unfold Instr.field
      rw [Sem.run_bind,run_underlying hu]
      simp only [Result.andThen_ok,e1]
      simp only [asAgg,Sem.run_bind,Sem.run_pure,Result.andThen_ok,e2,e3,hv']
     rcases Dj h3 with ⟨ha,rfl⟩|⟨ha,y,rfl,hy1,rfl⟩
     ·exact .inl ⟨_,_,w,η,hex _ (p1 ha),.inl rfl,.pure (out:= [.agg q]) hS.hpOk ⟨_,rfl,z4,fun v hv=>hone v (List.mem_of_mem_drop (List.mem_of_mem_take hv))⟩ trivial⟩
     ·obtain ⟨h9,t9,e9,hy,hr⟩:=z4
      cases hr
      rw [List.append_nil] at e9
      have hlen:=hy.len
      rw [hy1] at hlen
      obtain ⟨v,rfl⟩:=List.length_eq_one_iff.1 hlen
      refine .val hS.hpOk hy (hex v (p2 ha v ?_))
      have:((cs.drop off).take (ty u).size)[0]?=some v:=by rw [e9];rfl
      rw [List.getElem?_take] at this
      split at this
      ·rw [List.getElem?_drop] at this;exact this
      ·cases this
    ·cases h3
   ·cases h3
  ·cases h1
 ·cases h1
theorem BW {t j:Nat} (ho:o.op= .extract (.tmp t) j) (hS:eH sl H N η a w) (h:(R.slot t fun l=>match l with
  |_::_::_=>(match l[j]? with
   |some a=> .pure ⟨[a],[],none,none⟩
   |none=> .fail)
  |_=> .fail:R aG).run sl H ds= .ok res rd qs):OpDone H η w nx res o a:=by
 obtain ⟨_,h1⟩:=fy h
 have hs:=hS.slot t
 split at h1
 ·rename_i x y r e
  rw [e] at hs
  split at h1
  ·rename_i av e2
   have:=aC h1
   subst this
   rw [e] at e2
   obtain ⟨vs,e3,hv⟩:=hs
   have key:∀(l:List AV) (vs:List Value) (j:Nat),bp η (ay H η) w l vs→l[j]?=some av→∃v,vs[j]?=some v∧av.H η (ay H η) w v:=by
    intro l
    induction l with
    |nil=>intro vs j _ h;simp at h
    |cons x r ih=>
     rintro _ j ⟨v,tl,rfl,k1,h2⟩ h
     cases j with
     |zero=>simp at h;subst h;exact ⟨v,rfl,k1⟩
     |succ j=>
      obtain ⟨u,g1,g2⟩:=ih tl j h2 (by simpa using h)
      exact ⟨u,by simpa using g1,g2⟩
   obtain ⟨v,g1,g2⟩:=key _ vs j hv e2
   refine .inl ⟨_,v,w,η,E5 (ev:=Instr.extract (a.eval (.tmp t)) j) (by unfold execOp;simp only [ho]) ?_,.inl rfl,.pure (out:= [av]) hS.hpOk g2 trivial⟩
   show (Instr.extract (a.tmps.getD t undef) j).run Tryz.prog w=_
   rw [e3]
   unfold Instr.extract
   simp [g1]
  ·cases h1
 ·cases h1
end
section
variable {ty:Nat→TE} {sl:Nat→List AV} {H:Nat→Option Ch} {η:aY} {w:World} {nx N:Nat} {a:Act} {o:Oper} {ds:List Bool} {res:aG} {rd:List cu} {qs:List (Bool×Bool)}
theorem r9 {α:Type} {x:Option Operand} {k:Option AV→R α} {r:α} (h:(yZ x k).run sl H ds= .ok r rd qs) (hs:∀t,bF η (ay H η) w (sl t) (a.tmps.getD t undef)):
  ∃av rd',(k av).run sl H ds= .ok r rd' qs∧((x=none∧av=none)∨∃y b,x=some y∧av=some b∧b.H η (ay H η) w (a.eval y)):=by
 cases x with
 |none=>exact ⟨none,rd,h,.inl ⟨rfl,rfl⟩⟩
 |some y=>
  obtain ⟨b,rd',h,hb⟩:=bc (show (db y fun a=>k (some a)).run sl H ds=_ from h) hs
  exact ⟨some b,rd',h,.inr ⟨y,b,rfl,rfl,hb⟩⟩
theorem Be {x:Option Operand} {av:Option AV} {k:Option Nm→R aG} (h:(KO av k).run sl H ds= .ok res rd qs) (hx:(x=none∧av=none)∨∃y b,x=some y∧av=some b∧b.H η (ay H η) w (a.eval y)):
  ∃n,(k n).run sl H ds= .ok res rd qs∧x.map a.eval=n.map jK:=by
 rcases hx with ⟨rfl,rfl⟩|⟨y,b,rfl,rfl,hb⟩
 ·exact ⟨none,h,rfl⟩
 ·unfold KO at h
  simp only at h
  split at h
  ·rename_i n e;exact ⟨some n,h,by simp [cL (a9 e hb)]⟩
  ·cases h
def yv:Option Nm→Nat→Nat|none,n=>n|some h,_=>h.toInt.toNat
def Tb (lo:Option Nm) (n c:Nat):Option Nm→Prop|none=>yG lo n|some h=>yG (some h) c∧yG lo h.toInt.toNat
theorem jX {t e s:Nat} (hu:Tryz.prog.underlying t=some (.slice e)) (hs:(sizeOf e).run Tryz.prog w= .ok s w) {ad:Option Addr} {n c:Nat} (hnc:n≤c) {lo hi:Option Nm} (h:Tb lo n c hi):
  (Instr.sliceAt t (.slice ad n c) (lo.map jK) (hi.map jK) none).run Tryz.prog w= .ok (sliced ad (jG lo) (yv hi n) c s) w:=by
 obtain ⟨e1,e2⟩:=wc hu
 rw [run_sliceAt_slice w t _ _ _ _ e2]
 have hs':(sizeOf (Tryz.prog.elem t)).run Tryz.prog w= .ok s w:=by rw [e1];exact hs
 have hh:=h
 clear h
 cases lo with
 |none=>
  cases hi with
  |none=>
   simp only [Option.map_none]
   rw [run_slice_all w t ad n c e2,hs'];rfl
  |some u=>
   obtain ⟨k,hk⟩:=dm u
   obtain ⟨h1,h2⟩:=hh.1
   simp only [Option.map_none,Option.map_some,hk]
   rw [run_slice_h w t ad n c e2 k _ h1 h2,hs'];rfl
 |some l=>
  obtain ⟨k,hk⟩:=dm l
  cases hi with
  |none=>
   obtain ⟨h1,h2⟩:=hh
   simp only [Option.map_none,Option.map_some,hk]
   rw [run_slice_l w t ad n c e2 k _ h1 h2,hs'];rfl
  |some u=>
   obtain ⟨k',hk'⟩:=dm u
   obtain ⟨⟨h1,h2⟩,h3,h4⟩:=hh
   simp only [Option.map_some,hk,hk']
   rw [run_slice_lh w t ad n c e2 k k' _ _ h3 (by omega) h2,hs'];rfl
theorem eG.part {k:Kd} {l:List k.T} {n c:Nat} {ad:Option Addr} {A:Nat→Prop} (h:eG A w k l (.slice ad n c)) {x y:Nat} (hy:y≤n) (hx:x≤y):eG A w k ((l.take y).drop x) (sliced ad x y c k.n):=by
 obtain ⟨ad',c',h1,h2,h3,h4,h5⟩:=h
 cases h1
 have hlen:((l.take y).drop x).length=y-x:=by rw [List.length_drop,List.length_take];omega
 unfold sliced
 refine ⟨_,_,by rw [hlen],by omega,by omega,fun he=> ?_,fun hn=> ?_⟩
 ·split at he
  ·rename_i e;omega
  ·cases ad with
   |none=>have:=h4 rfl;omega
   |some _=>cases he
 ·obtain ⟨g,q,cs,e,hA,hc,hr⟩:=h5 (by omega)
  have hcx:¬c=x:=by omega
  refine ⟨g,q+x*k.n,(cs.take (k.n*y)).drop (k.n*x),?_,hA,?_,fun j v hv=> ?_⟩
  ·rw [if_neg hcx,e];simp [dc]
  ·have:=(hc.take y).drop x
   rw [k.rp_n] at this;exact this
  ·rw [List.getElem?_drop,List.getElem?_take] at hv
   split at hv
   ·have:=hr _ v hv
    rw [show q+x*k.n+j=q+(k.n*x+j) by rw [Nat.mul_comm];omega];exact this
   ·cases hv
theorem JI {t:Nat} {x:Operand} {lo hi mx:Option Operand} (hT:a8 ty) (ho:o.op= .slice t x lo hi mx) (hS:eH sl H N η a w) (h:(db x fun a=>yZ lo fun lo=>yZ hi fun hi=>yZ mx fun mx=>rZ ty t a lo hi mx:R aG).run sl H ds= .ok res rd qs) (hp:aW res.pre):OpDone H η w nx res o a:=by
 obtain ⟨av,rd1,h1,hv⟩:=bc h hS.slot
 obtain ⟨lv,rd2,h2,hlo⟩:=r9 h1 hS.slot
 obtain ⟨hv',rd3,h3,hhi⟩:=r9 h2 hS.slot
 obtain ⟨mv,rd4,h4,hmx⟩:=r9 h3 hS.slot
 clear h h1 h2 h3
 unfold rZ at h4
 obtain ⟨l,h5,el⟩:=Be h4 hlo
 obtain ⟨u,h6,eu⟩:=Be h5 hhi
 clear h4 h5
 have hex:∀v,(Instr.sliceAt t (a.eval x) (l.map jK) (u.map jK) (mx.map a.eval)).run Tryz.prog w= .ok v w→(execOp a.eval o).run Tryz.prog w= .ok (.value v) w:=fun v hv=>by
  refine E5 (ev:=Instr.sliceAt t (a.eval x) (lo.map a.eval) (hi.map a.eval) (mx.map a.eval)) (by unfold execOp;simp only [ho]) ?_
  rw [el,eu];exact hv
 have hmn:mv=none→mx=none:=fun e=>by rcases hmx with ⟨h,_⟩|⟨_,_,_,h,_⟩<;>first |exact h|(rw [e] at h;cases h)
 split at h6
 ·rename_i b q
  split at h6
  ·rename_i n e ht
   obtain ⟨⟨i,d,z,hK⟩,h7⟩:=b8 hT h6
   clear h6
   have hu:=j1 hT ht
   obtain ⟨g,hg,hv⟩:=hv
   have e1:Tryz.prog.arrayLen t=n:=by simp [Program.arrayLen,hu]
   have e2:Tryz.prog.elem t=e:=by simp [Program.elem,hu]
   have hu':Tryz.prog.underlying t=some (.array (Tryz.prog.arrayLen t) (Tryz.prog.elem t)):=by rw [e1,e2];exact hu
   split at h7
   ·have:=au h7
    subst this
    refine .val hS.hpOk (v:= .slice (some ⟨g,q,none⟩) n n) ⟨Nat.le_refl _,g,hg,rfl⟩ (hex _ ?_)
    rw [hmn rfl,ai hv]
    show (Instr.sliceAt t (.pointer (some ⟨g,q,none⟩)) none none none).run Tryz.prog w=_
    rw [run_sliceAt_array_all w t ⟨g,q,none⟩ hu',e1,e2,hK.sizeOf]
    simp [slicedAt,Result.andThen,Addr.add]
   ·rename_i j
    split at h7
    ·rename_i hj hs
     have:=au h7
     subst this
     have hj':=iU hj
     refine .val hS.hpOk (v:= .slice (some ⟨g,q+j,none⟩) (n-j) (n-j)) ⟨Nat.le_refl _,g,hg,rfl⟩ (hex _ ?_)
     rw [hmn rfl,ai hv]
     show (Instr.sliceAt t (.pointer (some ⟨g,q,none⟩)) (some (.int .i64 (j:Int))) none none).run Tryz.prog w=_
     rw [run_sliceAt_array_l w t ⟨g,q,none⟩ hu' _ _ (by omega) (by rw [e1];omega),e1,e2,hK.sizeOf,aL hs]
     simp only [slicedAt,Result.andThen,Int.toNat_natCast,Nat.mul_one,dc]
     rw [if_neg (by omega)]
    ·cases h7
   ·cases h7
  ·cases h6
 ·rename_i b
  split at h6
  ·rename_i e ht
   obtain ⟨⟨i,d,z,hK⟩,h7⟩:=b8 hT h6
   clear h6
   have hu:=cZ hT ht
   split at h7
   ·rename_i hs
    have hs1:=hK.sizeOf w
    rw [aL hs] at hs1
    obtain ⟨_,h8⟩:=bl h7
    clear h7
    split at h8
    ·rename_i E k q hb
     obtain ⟨v,y1,y2,_⟩:=hv
     obtain ⟨v',cs,z1,z2,z3⟩:=hS.chunk b _ hb
     rw [y1] at z1;cases z1
     have key:∀(hi':Nat),Tb l q.length q.length u→hi'=yv u q.length→∃v,(Instr.sliceAt t (a.eval x) (l.map jK) (u.map jK) none).run Tryz.prog w= .ok v w∧(Cl.sub b (jG l) (hi'-jG l)).H η (ay H η) w [v]:=fun hi' hpre hh=>by
      subst hh
      have hle:yv u q.length≤q.length∧jG l≤yv u q.length:=by
       cases u with
       |none=>
        refine ⟨Nat.le_refl _,?_⟩
        cases l with
        |none=>exact Nat.zero_le _
        |some l=>obtain ⟨g1,g2⟩:=hpre;simp only [jG,yv];omega
       |some u=>
        obtain ⟨⟨g1,g2⟩,g3⟩:=hpre
        refine ⟨by simp only [yv];omega,?_⟩
        cases l with
        |none=>exact Nat.zero_le _
        |some l=>obtain ⟨g4,g5⟩:=g3;simp only [jG,yv];omega
      rcases gX z2 z3 with ⟨rfl,rfl⟩|⟨g,c,rfl,c1,c2,hr⟩
      ·refine ⟨sliced none (jG l) (yv u 0) 0 1,by rw [ai y2];exact jX (n:=0) (c:=0) hu hs1 (Nat.le_refl 0) hpre,_,_,_,y1,rfl,?_⟩
       simp only [List.length_nil] at hle ⊢
       refine ⟨by omega,by simp,fun _=>by omega,fun h=>by omega⟩
      ·refine ⟨_,by rw [ai y2];exact jX hu hs1 c1 (by
        cases u with
        |none=>exact hpre
        |some u=>exact ⟨⟨hpre.1.1,by have:=hpre.1.2;omega⟩,hpre.2⟩),_,_,_,y1,rfl,?_⟩
       refine ⟨by omega,by omega,fun he=> ?_,fun hn=>⟨g,_,_,rfl,?_,by omega⟩⟩
       ·split at he
        ·rename_i e;omega
        ·cases he
       ·rw [if_neg (by omega)]
        simp [dc]
     split at h8
     ·split at h8
      ·split at h8
       ·have:=a_ h8
        subst this
        obtain ⟨v,r,hx⟩:=key q.length hp rfl
        exact .val hS.hpOk hx (hex v (by rw [hmn rfl];exact r))
       ·cases h8
      ·rename_i h'
       split at h8
       ·have:=a_ h8
        subst this
        obtain ⟨v,r,hx⟩:=key h'.toInt.toNat hp rfl
        exact .val hS.hpOk hx (hex v (by rw [hmn rfl];exact r))
       ·cases h8
     ·cases h8
    ·cases h8
   ·cases h7
  ·cases h6
 ·rename_i b s n
  split at h6
  ·rename_i e ht
   obtain ⟨⟨i,d,z,hK⟩,h7⟩:=b8 hT h6
   clear h6
   have hu:=cZ hT ht
   split at h7
   ·rename_i hs
    have hs1:=hK.sizeOf w
    rw [aL hs] at hs1
    obtain ⟨v,ad,c,y1,y2,c1,c2,c3,c4⟩:=hv
    have key:∀(hi':Nat),Tb l n n u→hi'=yv u n→∃v,(Instr.sliceAt t (a.eval x) (l.map jK) (u.map jK) none).run Tryz.prog w= .ok v w∧(Cl.sub b (s+jG l) (hi'-jG l)).H η (ay H η) w [v]:=fun hi' hpre hh=>by
     subst hh
     have hle:yv u n≤n∧jG l≤yv u n:=by
      cases u with
      |none=>
       refine ⟨Nat.le_refl _,?_⟩
       cases l with
       |none=>exact Nat.zero_le _
       |some l=>obtain ⟨g1,g2⟩:=hpre;simp only [jG,yv];omega
      |some u=>
       obtain ⟨⟨g1,g2⟩,g3⟩:=hpre
       refine ⟨by simp only [yv];omega,?_⟩
       cases l with
       |none=>exact Nat.zero_le _
       |some l=>obtain ⟨g4,g5⟩:=g3;simp only [jG,yv];omega
     refine ⟨_,by rw [ai y2];exact jX hu hs1 c1 (by
       cases u with
       |none=>exact hpre
       |some u=>exact ⟨⟨hpre.1.1,by have:=hpre.1.2;omega⟩,hpre.2⟩),_,_,_,y1,rfl,?_⟩
     refine ⟨by omega,by omega,fun he=> ?_,fun hn=> ?_⟩
     ·split at he
      ·rename_i e;omega
      ·cases ad with
       |none=>have:=c3 rfl;omega
       |some _=>cases he
     ·obtain ⟨g,N',C,e1,e2,e3⟩:=c4 (by omega)
      refine ⟨g,N',C,e1,?_,by omega⟩
      rw [if_neg (by omega),e2]
      simp [dc]
    split at h7
    ·split at h7
     ·have:=a_ h7
      subst this
      obtain ⟨v,r,hx⟩:=key n hp rfl
      exact .val hS.hpOk hx (hex v (by rw [hmn rfl];exact r))
     ·cases h7
    ·rename_i h'
     split at h7
     ·have:=a_ h7
      subst this
      obtain ⟨v,r,hx⟩:=key h'.toInt.toNat hp rfl
      exact .val hS.hpOk hx (hex v (by rw [hmn rfl];exact r))
     ·cases h7
   ·cases h7
  ·cases h6
 ·rename_i k q
  split at h6
  ·rename_i e ht
   obtain ⟨⟨i,d,z,hK⟩,h7⟩:=b8 hT h6
   clear h6
   have hu:=cZ hT ht
   split at h7
   ·rename_i hs
    have hs1:=hK.sizeOf w
    rw [aL hs] at hs1
    obtain ⟨v,y1,hr⟩:=hv
    obtain ⟨ad,c,y2,c1,c2,c3,c4⟩:=hr
    have hr:eG (ay H η) w k q (.slice ad q.length c):=⟨ad,c,rfl,c1,c2,c3,c4⟩
    split at h7
    ·split at h7
     ·have:=a_ h7
      subst this
      have hl:jG l≤q.length:=by
       cases l with
       |none=>exact Nat.zero_le _
       |some l=>obtain ⟨g1,g2⟩:=hp;simp only [jG];omega
      refine .val hS.hpOk (v:=sliced ad (jG l) q.length c k.n) ⟨_,rfl,?_⟩ (hex _ (by rw [hmn rfl,ai y1,y2];exact jX hu hs1 c1 (hi:=none) hp))
      have:=hr.part (x:=jG l) (Nat.le_refl _) hl
      rw [List.take_length] at this;exact this
     ·cases h7
    ·rename_i h'
     split at h7
     ·have:=a_ h7
      subst this
      obtain ⟨⟨g1,g2⟩,g3⟩:=hp
      have hl:jG l≤h'.toInt.toNat:=by
       cases l with
       |none=>exact Nat.zero_le _
       |some l=>obtain ⟨g4,g5⟩:=g3;simp only [jG,yv];omega
      exact .val hS.hpOk (v:=sliced ad (jG l) h'.toInt.toNat c k.n) ⟨_,rfl,hr.part (by omega) hl⟩ (hex _ (by rw [hmn rfl,ai y1,y2];exact jX hu hs1 c1 (hi:=some h') ⟨⟨g1,by omega⟩,g3⟩))
     ·cases h7
   ·cases h7
  ·cases h6
 ·cases h6
end
section
variable {ty:Nat→TE} {sl:Nat→List AV} {H:Nat→Option Ch} {η:aY} {w:World} {nx N:Nat} {a:Act} {o:Oper} {ds:List Bool} {res:aG} {rd:List cu} {qs:List (Bool×Bool)}
theorem OpDone.valF (hH:bX H η w) {x:Cl} {v:Value} {pre:Option Prop} {p:Prop} (hp:p) (hx:x.H η (ay H η) w [v]) (hex:(execOp a.eval o).run Tryz.prog w= .ok (.value v) w):OpDone H η w nx ⟨[.one x],[],pre,some p⟩ o a:=
 .inl ⟨_,v,w,η,hex,.inl rfl,.pure (out:= [.one x]) (v:=v) hH hx hp⟩
theorem eG.slice {k:Kd} {l:List k.T} {v:Value} {A:Nat→Prop} (h:eG A w k l v):∃ad c,v= .slice ad l.length c∧l.length≤maxLen:=by
 obtain ⟨ad,c,h1,h2,h3,_⟩:=h
 exact ⟨ad,c,h1,by omega⟩
theorem pD {E:Nat} {k:Kd} {l:List k.T} {b:Nat} {v:Value} (hH:bX H η w) (hb:H b=some (.row E k l)) (hv:η b=some v):∃ad c,v= .slice ad l.length c∧l.length≤maxLen:=by
 obtain ⟨v',cs,y1,y2,y3⟩:=hH.chunk b _ hb
 rw [hv] at y1;cases y1
 rcases gX y2 y3 with ⟨rfl,rfl⟩|⟨g,c,rfl,c1,c2,_⟩
 ·exact ⟨none,0,rfl,by simp⟩
 ·exact ⟨_,c,rfl,by omega⟩
theorem Ot {t:Nat} {x:AV} {v:Value} (hT:a8 ty) (hH:bX H η w) (hx:x.H η (ay H η) w v) (hex:∀u,(Builtin.len_ #[t] o.type #[v]).run Tryz.prog w= .ok u w→(execOp a.eval o).run Tryz.prog w= .ok (.value u) w) (h:(GB ty t x).run sl H ds= .ok res rd qs):OpDone H η w nx res o a:=by
 unfold GB at h
 split at h
 ·rename_i e ht
  have hu:=cZ hT ht
  have hrun:∀ad n c,(Builtin.len_ #[t] o.type #[.slice ad n c]).run Tryz.prog w= .ok (.int .i64 (n:Int)) w:=fun ad n c=>by
   simp [Builtin.len_,run_underlying hu,goInt]
  split at h
  ·have:=au h
   subst this
   obtain ⟨_,g,_,hv⟩:=hx
   exact .val hH ⟨rfl,rfl⟩ (hex _ (by rw [ai hv];exact hrun _ _ _))
  ·have:=au h
   subst this
   exact .val hH ⟨rfl,rfl⟩ (hex _ (by rw [ai hx.1];exact hrun _ _ _))
  ·obtain ⟨_,h1⟩:=bl h
   split at h1
   ·rename_i E k l hb
    have:=aC h1
    subst this
    obtain ⟨u,hu1,hu2,_⟩:=hx
    obtain ⟨ad,c,e1,e2⟩:=pD hH hb hu1
    exact .valF hH e2 rfl (hex _ (by rw [ai hu2,e1];exact hrun _ _ _))
   ·cases h1
  ·have:=aC h
   subst this
   obtain ⟨u,ad,c,_,hv,h1,h2,_⟩:=hx
   exact .valF hH (by omega) rfl (hex _ (by rw [ai hv];exact hrun _ _ _))
  ·have:=aC h
   subst this
   obtain ⟨u,hv,hr⟩:=hx
   obtain ⟨ad,c,e1,e2⟩:=hr.slice
   exact .valF hH e2 rfl (hex _ (by rw [ai hv,e1];exact hrun _ _ _))
  ·have:=aC h
   subst this
   obtain ⟨ad,c,hv,h1,h2,_⟩:=hx
   exact .valF hH (by omega) rfl (hex _ (by rw [ai hv];exact hrun _ _ _))
  ·have:=aC h
   subst this
   obtain ⟨hv,⟨ad,c,e⟩,h1⟩:=hx
   exact .valF hH h1 rfl (hex _ (by rw [ai hv,e];exact hrun _ _ _))
  ·cases h
 ·rename_i ht
  have hu:Tryz.prog.underlying t=some .string:=by
   rcases hT t with h1|⟨i,d,z,hK⟩
   ·rw [ht] at h1;cases h1
   ·have:=hK.desc;rw [ht] at this;rw [hK.und,this]
  split at h
  ·rename_i s
   have:=au h
   subst this
   have hv: [v]= [Value.string s]:=hx
   exact .val hH (v:= .int .i64 (s.size:Int)) rfl (hex _ (by rw [ai hv];simp [Builtin.len_,run_underlying hu,goInt]))
  ·cases h
 ·rename_i n e ht
  have hu:=j1 hT ht
  have:=au h
  subst this
  refine .val hH ⟨rfl,rfl⟩ (hex _ ?_)
  unfold Builtin.len_
  simp only [List.getElem?_toArray,List.getElem?_cons_zero]
  rw [Sem.run_bind,run_underlying hu]
  cases v<;>rfl
 ·cases h
theorem lX {x:AV} {k:AV→R aG} (h:(oG x k).run sl H ds= .ok res rd qs) (hH:bX H η w) {v:Value} (hx:x.H η (ay H η) w v):
  ∃y rd',(k y).run sl H ds= .ok res rd' qs∧(y=x∨∃q l,y= .one (.ro q l)∧eG (fun _=>True) w q l v):=by
 unfold oG at h
 split at h
 ·exact ⟨_,_,h,.inr ⟨.u8,[],rfl,by rw [ai hx.1];exact yT .u8⟩⟩
 ·obtain ⟨hv,a,c,q1,q2,q3,q4,q5⟩:=hx
  exact ⟨_,_,h,.inr ⟨.u8,_,rfl,by rw [ai hv];exact ⟨a,c,q1,q2,q3,q4,fun hn=>by obtain ⟨g,o,cs,e1,_,e2⟩:=q5 hn;exact ⟨g,o,cs,e1,trivial,e2⟩⟩⟩⟩
 ·rename_i b
  obtain ⟨rd',h1⟩:=bl h
  split at h1
  ·rename_i E q l hb
   obtain ⟨u,hu1,hu2,_⟩:=hx
   obtain ⟨u',e1,hr⟩:=sB (hH.chunk b _ hb) (A':=fun _=>True) (fun _ _=>trivial)
   rw [hu1] at e1;cases e1
   exact ⟨_,_,h1,.inr ⟨q,l,rfl,by rw [ai hu2];exact hr⟩⟩
  ·cases h1
 ·rename_i b lo n
  obtain ⟨rd',h1⟩:=bl h
  split at h1
  ·rename_i E q l hb
   split at h1
   ·rename_i g1
    obtain ⟨u,e1,hr⟩:=sQ (aL g1) (hH.chunk b _ hb) hx (A':=fun _=>True) (fun _ _=>trivial)
    exact ⟨_,_,h1,.inr ⟨q,_,rfl,by rw [ai e1];exact hr⟩⟩
   ·cases h1
  ·cases h1
 ·rename_i b p n c
  obtain ⟨rd',h1⟩:=bl h
  split at h1
  ·rename_i E l hb
   split at h1
   ·rename_i q m l' e1
    split at h1
    ·rename_i hn hc'
     have:=aL hn
     subst this
     have hc':=bU hc'
     obtain ⟨hnc,g,hg,hv⟩:=hx
     obtain ⟨cs,hB,hc,h1c⟩:=dh hH hb hg
     obtain ⟨z1,z2,_⟩:=lr e1 hc
     obtain ⟨z3,z4⟩:l'.length=n∧aU q.rp l' ((cs.drop p).take (Cl.vec q n l').n):=z2
     subst z3
     refine ⟨_,_,h1,.inr ⟨q,l',rfl,some ⟨g,p,none⟩,c,ai hv,hnc,?_,fun h=>(by cases h),fun _=>⟨g,p,_,rfl,trivial,z4,hB.range⟩⟩⟩
     simp only [maxLen]
     omega
    ·cases h1
   ·split at h1
    ·rename_i q m l' hno
     split at h1
     ·rename_i e1 e2 e3
      have e1:=aL e1
      have e2:=bU e2
      have e3:=bU e3
      obtain ⟨hnc,g,hg,hv⟩:=hx
      obtain ⟨cs,hB,hc,h1c⟩:=dh hH hb hg
      obtain ⟨c1,c2,rfl,⟨z3,z4⟩,rfl⟩:=hc
      rw [List.append_nil] at hB
      have z5:=(z4.drop p).take n
      rw [Kd.rp_n,e1,Nat.one_mul,Nat.one_mul] at z5
      have hlen:((l'.drop p).take n).length=n:=by rw [List.length_take,List.length_drop];omega
      refine ⟨_,_,h1,.inr ⟨q,_,rfl,some ⟨g,p,none⟩,c,by rw [hlen];exact ai hv,by rw [hlen];exact hnc,?_,fun h=>(by cases h),fun _=>⟨g,p,_,rfl,trivial,z5,hB.range⟩⟩⟩
      simp only [maxLen]
      omega
     ·cases h1
    ·cases h1
  ·cases h1
 ·exact ⟨_,_,h,.inl rfl⟩
end
section
variable {ty:Nat→TE} {sl:Nat→List AV} {H:Nat→Option Ch} {η:aY} {w:World} {nx N:Nat} {a:Act} {o:Oper} {ds:List Bool} {res:aG} {rd:List cu} {qs:List (Bool×Bool)}
theorem bj.re (hH:bX H η w) {b:Nat} {c0:Ch} (hb:H b=some c0) (hn:H nx=none) (hfree:∀b,nx≤b→b<nx+16→η b=none) {v:Value} (hv:η b=some v) {w':World} (hg:w.grownBy w' v.ownBlock) (hvo:v.ownBlock=qL v) {v':Value} (hr:∀g,qL v'=some g→qL v=some g∨w.heap.size≤g) {c:Ch} {out:List AV} {pre:Option Prop}
  (hc:∀η' A',η' nx=some v'→c.H η' A' w' nx∧bF η' A' w' out v'):
  ∃η',bj H η w nx ⟨out,[(b,none),(nx,some c)],pre,none⟩ v' w' η':=by
 have h0:η nx=none:=hfree nx (Nat.le_refl _) (by omega)
 have hbn:b≠nx:=by rintro rfl;rw [hb] at hn;cases hn
 let η':aY:=fun x=>if x=nx then some v' else η x
 have he:∀b u,η b=some u→η' b=some u:=fun b u hu=>by
  show (if b=nx then some v' else η b)=some u
  rw [if_neg (by rintro rfl;rw [h0] at hu;cases hu)];exact hu
 have hne:∀b,b≠nx→η' b=η b:=fun b hb=>by show (if b=nx then some v' else η b)=η b;rw [if_neg hb]
 have hnx:η' nx=some v':=by show (if nx=nx then some v' else η nx)=_;rw [if_pos rfl]
 have hupd:∀x,bi [(b,none),(nx,some c)] H x=if x=nx then some c else if x=b then none else H x:=fun x=>rfl
 have hfpb:bf η b=qL v:=by unfold bf;rw [hv];rfl
 have hfp:∀x g,H x≠none→bf η x=some g→g<w.heap.size:=fun x g hx hg=>by
  cases e:H x with
  |none=>exact absurd e hx
  |some cx=>
   have:=hH.chunk x cx e
   cases cx with
   |blk E l=>
    obtain ⟨g',cs,h1,h2,_⟩:=this
    unfold bf at hg;rw [h1] at hg;cases hg;exact h2.lt
   |row E k l=>
    obtain ⟨u,cs,h1,h2,h3⟩:=this
    rcases h3.2 with ⟨rfl,_⟩|⟨g',cap,cur,rfl,_,h4,_⟩
    ·unfold bf at hg;rw [h1] at hg;cases hg
    ·unfold bf at hg;rw [h1] at hg;cases hg;exact (Array.getElem?_eq_some_iff.1 h4).1
 have hA:∀g,g<w.heap.size→ay H η g→ay (bi [(b,none),(nx,some c)] H) η' g:=fun g hg ha x hx=>by
  rw [hupd] at hx
  by_cases e:x=nx
  ·subst e;unfold bf;rw [hnx]
   intro h
   rcases hr g h with h|h
   ·exact ha b (by rw [hb];simp) (by rw [hfpb];exact h)
   ·omega
  ·rw [if_neg e] at hx
   by_cases e2:x=b
   ·subst e2;simp at hx
   ·rw [if_neg e2] at hx
    unfold bf;rw [hne x e];exact ha x hx
 have hblk:∀g,g<w.heap.size→qL v≠some g→w'.heap[g]?=w.heap[g]?:=fun g h1 h2=>hg.block g h1 (by rw [hvo];exact fun h=>h2 h.symm)
 have hfw:Fw H η w (bi [(b,none),(nx,some c)] H) η' w':=⟨hg.os,hg.tape,hg.output,hg.size,he,fun g hgl ha=>⟨hblk g hgl (by rw [←hfpb];exact ha b (by rw [hb];simp)),hA g hgl ha⟩⟩
 obtain ⟨h1,h2⟩:=hc η' (ay (bi [(b,none),(nx,some c)] H) η') hnx
 have hold:∀x,x≠nx→bi [(b,none),(nx,some c)] H x≠none→x≠b∧H x≠none:=fun x e hx=>by
  rw [hupd,if_neg e] at hx
  by_cases e2:x=b
  ·subst e2;simp at hx
  ·rw [if_neg e2] at hx;exact ⟨e2,hx⟩
 have hnew:∀x g,x≠nx→bi [(b,none),(nx,some c)] H x≠none→bf η x=some g→qL v'≠some g:=fun x g e hx hgx h=>by
  obtain ⟨e2,hx2⟩:=hold x e hx
  rcases hr g h with h|h
  ·exact hH.apart x b g e2 hx2 (by rw [hb];simp) hgx (by rw [hfpb];exact h)
  ·have:=hfp x g hx2 hgx;omega
 refine ⟨η',h2,⟨fun x cx hx=> ?_,fun x y g hxy hx hy hgx=> ?_⟩,hfw,fun x hx=>hne x (by omega),trivial⟩
 ·by_cases e:x=nx
  ·subst e;rw [hupd,if_pos rfl] at hx;cases hx;exact h1
  ·obtain ⟨e2,_⟩:=hold x e (by rw [hx];simp)
   rw [hupd,if_neg e,if_neg e2] at hx
   exact (hH.chunk x cx hx).later hfw.lt fun g hgx=>hblk g (hfp x g (by rw [hx];simp) hgx) fun h=>hH.apart x b g e2 (by rw [hx];simp) (by rw [hb];simp) hgx (by rw [hfpb];exact h)
 ·unfold bf at hgx ⊢
  by_cases e:x=nx
  ·subst e
   rw [hnx] at hgx
   rw [hne y (Ne.symm hxy)]
   intro h
   exact hnew y g (Ne.symm hxy) hy h hgx
  ·rw [hne x e] at hgx
   by_cases e2:y=nx
   ·subst e2;rw [hnx];exact hnew x g e hx hgx
   ·rw [hne y e2]
    exact hH.apart x y g hxy (hold x e hx).2 (hold y e2 hy).2 hgx
theorem zZ {k q:Kd} {l r:List k.T} {m:List q.T} (h:I5 k q l m=some r):k.n=1∧q.n=1∧r.length=l.length+m.length∧∀ {cs ds:List Value},aU k.rp l cs→aU q.rp m ds→aU k.rp r (cs++ds):=by
 cases k<;>cases q<;>simp only [I5,Option.some.injEq,reduceCtorEq] at h
 all_goals
  subst h
  exact ⟨rfl,rfl,List.length_append,fun h1 h2=>h1.app h2⟩
theorem sf {e n:Nat} {v:Value} {m:Nat} {xs:List Value} (h:w.ownsRow 0 e n v m xs):v.oneCell'=true:=by
 rcases h.2 with ⟨rfl,_⟩|⟨g,cap,cur,rfl,_⟩<;>rfl
theorem GK {e n:Nat} {v:Value} {m:Nat} {xs:List Value} (h:w.ownsRow 0 e n v m xs):v.ownBlock=qL v:=by
 rcases h.2 with ⟨rfl,_⟩|⟨g,cap,cur,rfl,_⟩<;>rfl
theorem z6 {t e:Nat} {i:TypeInfo} {z:Value} (ht:Tryz.prog.underlying t=some (.slice e)) (hi:Tryz.prog.info? e=some i) (hz:i.zero=some z) (hs:i.size=1) (hzs:z.cells.size=1) (hby:i.bytes≤4096) {ty':Nat}
  {v:Value} {n:Nat} {xs:List Value} (hown:w.ownsRow 0 e 1 v n xs) {ad:Option Addr} {m c:Nat} {news:List Value} (hl:news.length=m) (hnone:ad=none→m=0∧c=0) (hnews:∀b,ad=some b→∀j u,news[j]?=some u→w.cell? (b.add j)=some u) (h1:∀u∈news,u.oneCell'=true) (hb:n+m≤16777216):
  ∃v' w',(Builtin.append_ #[t,t] ty' #[v,.slice ad m c]).run Tryz.prog w= .ok v' w'∧w'.ownsRow 0 e 1 v' (n+m) (xs++news)∧w.grownBy w' v.ownBlock∧∀g,qL v'=some g→qL v=some g∨w.heap.size≤g:=by
 have hbb:(n+m)*i.bytes≤140737488355328:=Nat.le_trans (Nat.mul_le_mul hb hby) (by decide)
 cases ad with
 |none=>
  obtain ⟨rfl,rfl⟩:=hnone rfl
  have:news= []:=List.eq_nil_of_length_eq_zero hl
  subst this
  refine ⟨v,w,run_append_owned_none w 0 t ty' e i 1 ht hi v n xs hown,by simpa using hown,⟨rfl,rfl,rfl,Nat.le_refl _,fun _ _ _=>rfl⟩,fun g hg=> .inl hg⟩
 |some ad=>
  have hl':news.length=m*1:=by omega
  have hmx:n+m≤maxLen:=by simp only [maxLen];omega
  rcases hown.2 with ⟨rfl,rfl⟩|⟨g,cap,cur,rfl,hbg,hg,hnc,hcm,hcs,htake⟩
  ·have hx:xs= []:=List.eq_nil_of_length_eq_zero (by simpa using hown.1)
   subst hx
   obtain ⟨v',w',r1,r2,r3,r4⟩:=run_append_own (P:=Tryz.prog) w w.heap.size t ty' e i z 1 i.bytes ht hi hz hs rfl hzs (by omega) (.slice none 0 0) 0 [] (World.ownsRow_nil w _ e 1) ad m c news hl' (hnews ad rfl) h1 hmx hbb (Nat.le_refl _)
   refine ⟨v',w',r1,⟨r2.1,?_⟩,r3,fun g hg=> .inr ?_⟩
   ·rcases r2.2 with h|⟨g,cap,cur,e1,e2,e3⟩
    ·exact .inl h
    ·exact .inr ⟨g,cap,cur,e1,Nat.zero_le _,e3⟩
   ·rcases r2.2 with ⟨h,_⟩|⟨g',cap,cur,e1,e2,e3⟩
    ·subst h;cases hg
    ·subst e1;cases hg;exact e2
  ·by_cases hroom:n+m≤cap
   ·have hlx:xs.length=n:=by have:=hown.1;omega
    have hr:=run_append_room (P:=Tryz.prog) w t ty' e i ht hi g n cap cur hg ad m c news (by rw [hs];exact hl') (hnews ad rfl) h1 hroom (by rw [hs,hl,hcs,Nat.mul_one,Nat.mul_one];exact hroom)
    refine ⟨_,_,hr,⟨by simp [hlx,hl],.inr ⟨g,cap,_,rfl,hbg,setRow_heap w g cur _ e _ hg,hroom,hcm,?_,?_⟩⟩,⟨rfl,rfl,rfl,by simp,fun k _ hk=>setRow_other w g k _ (fun e=>hk (by simp [Value.ownBlock,e]))⟩,fun g' hg'=> .inl hg'⟩
    ·simp only [hs,List.size_toArray,List.length_append,List.length_take,List.length_drop,Array.length_toList,hcs,hl]
     omega
    ·rw [hs,htake,show (n+m)*1=(xs++news).length by simp [hlx,hl]]
     exact List.take_left
   ·have holds:∀j u,xs[j]?=some u→w.cell? ((⟨g,0,none⟩:Addr).add j)=some u:=hown.cells (g:=g) rfl
    have hlx:xs.length=n:=by have:=hown.1;omega
    have hr:=run_append_grow (P:=Tryz.prog) w t ty' e i z ht hi hz ⟨g,0,none⟩ n cap xs (by rw [hs];exact hown.1) holds ad m c news (by rw [hs];exact hl') (hnews ad rfl) (by omega) (by simp only [maxLen] at hmx;omega) (growslice_fits (by omega) hbb)
    have hge:=grownCap_ge w (n+m) cap e
    have hcm':grownCap w (n+m) cap e≤maxLen:=grownCap_le_maxLen w (n+m) cap e hmx
    refine ⟨_,_,hr,⟨by simp [hlx,hl],.inr ⟨w.heap.size,_,_,rfl,Nat.zero_le _,heap_alloc_new w.drew _,hge,hcm',?_,?_⟩⟩,⟨rfl,rfl,rfl,by simp,fun k hk _=>heap_alloc_old w.drew _ hk⟩,fun g' hg'=> .inr (by cases hg';exact Nat.le_refl _)⟩
    ·simp only [Array.size_append,List.size_toArray,size_zeroCells,hzs,hlx,hl]
     omega
    ·simp only [Array.toList_append]
     rw [show (n+m)*1=(xs++news).length by simp [hlx,hl]]
     exact List.take_left
theorem Nt {t:Nat} {s x:AV} {vs vx:Value} (hT:a8 ty) (hH:bX H η w) (hfree:∀b,nx≤b→b<nx+16→η b=none) (hs:s.H η (ay H η) w vs) (hx:x.H η (ay H η) w vx)
  (hex:∀u w',(Builtin.append_ #[t,t] o.type #[vs,vx]).run Tryz.prog w= .ok u w'→(execOp a.eval o).run Tryz.prog w= .ok (.value u) w') (h:(nk ty nx t s x).run sl H ds= .ok res rd qs) (hp:aW res.pre):OpDone H η w nx res o a:=by
 unfold nk at h
 split at h
 ·rename_i e ht
  have hu:=cZ hT ht
  obtain ⟨⟨i,d,z,hK⟩,h1⟩:=b8 hT h
  clear h
  split at h1
  ·cases h1
  ·rename_i h2
   have hs1:=aL h2
   split at h1
   ·cases h1
   ·rename_i k hk
    have hti:(ty e).ti= .k k:=by
     unfold mY at hk
     split at hk
     ·rename_i k' e2;cases hk;exact e2
     ·cases hk
    have hkn:k.n=1:=by rw [←hK.ks k hti];exact hs1
    have hzs:z.cells.size=1:=by
     have:=k.rp.len _ _ (hK.kz k hti)
     rw [Kd.rp_n,hkn] at this
     simpa using this
    obtain ⟨y,rd',h3,hy⟩:=lX h1 hH hx
    clear h1
    split at h3
    ·rename_i q m
     have hro:eG (fun _=>True) w q m vx:=by
      rcases hy with rfl|⟨q',l',e1,e2⟩
      ·obtain ⟨u,hu1,hu2⟩:=hx
       rw [ai hu1]
       obtain ⟨ad,c,g1,g2,g3,g4,g5⟩:=hu2
       exact ⟨ad,c,g1,g2,g3,g4,fun hn=>by obtain ⟨g,o,cs,e1,_,e2⟩:=g5 hn;exact ⟨g,o,cs,e1,trivial,e2⟩⟩
      ·cases e1;exact e2
     obtain ⟨ad,c,rfl,g2,g3,g4,g5⟩:=hro
     obtain ⟨news,n1,n2⟩:∃news,aU q.rp m news∧∀b,ad=some b→∀j u,news[j]?=some u→w.cell? (b.add j)=some u:=by
      by_cases hm:0<m.length
      ·obtain ⟨g,p,cs,rfl,_,e1,e2⟩:=g5 hm
       refine ⟨cs,e1,fun b hb j u hu=> ?_⟩
       cases hb
       rw [Addr.add_lit]
       exact e2 j u hu
      ·have:m= []:=List.eq_nil_of_length_eq_zero (by omega)
       subst this
       exact ⟨[],rfl,fun b _ j u hu=>by simp at hu⟩
     have hnone:ad=none→m.length=0∧c=0:=fun h=>by have:=g4 h;omega
     split at h3
     ·split at h3
      ·rename_i r hr
       obtain ⟨_,h4⟩:=bl h3
       split at h4
       ·rename_i hnn
        have:=aC h4
        subst this
        obtain ⟨_,q1,hrl,hrL⟩:=zZ hr
        simp only [List.length_nil,Nat.zero_add] at hrl
        rw [ai hs.1] at hex
        have hp:r.length≤16777216:=hp
        obtain ⟨v',w',r1,r2,r3,r4⟩:=z6 (v:= .slice none 0 0) (n:=0) (xs:= []) hu hK.info hK.zero (hK.size.trans hs1) hzs hK.bytes (ty':=o.type) (World.ownsRow_nil w 0 e 1) (b5 q1 n1) hnone n2 n1.one (by omega)
        obtain ⟨η',hR⟩:=bj.new (nx:=nx) (ref:=v') (c:= .row e k r) (out:= [.one (.rw nx)]) (v:=v') (pre:=some (r.length≤16777216)) hH hnn hfree (w':=w') ⟨r3.os,r3.tape,r3.output,r3.size,fun g hg=>r3.block g hg (by simp [Value.ownBlock])⟩ (fun g hg=>(r4 g hg).elim (fun h=>by cases h) id)
         (fun η' A' he hA hnx=>⟨⟨v',_,hnx,hrL (cs:= []) rfl n1,by rw [hkn,hrl];simpa using r2⟩,v',hnx,rfl,sf r2⟩)
        exact .inl ⟨_,_,_,η',hex _ _ r1,.inl rfl,hR⟩
       ·cases h4
      ·cases h3
     ·rename_i b
      obtain ⟨_,h4⟩:=bl h3
      split at h4
      ·rename_i f p l hb
       split at h4
       ·rename_i r hef hr
        have hef:=aL hef
        subst hef
        obtain ⟨_,h5⟩:=bl h4
        split at h5
        ·rename_i hnn
         have:=aC h5
         subst this
         obtain ⟨q0,q1,hrl,hrL⟩:=zZ hr
         obtain ⟨u,hu1,hu2,_⟩:=hs
         rw [ai hu2] at hex
         obtain ⟨u',cs,y1,y2,y3⟩:=hH.chunk b _ hb
         rw [hu1] at y1;cases y1
         have hp:r.length≤16777216:=hp
         obtain ⟨v',w',r1,r2,r3,r4⟩:=z6 (v:=u) (n:=l.length) (xs:=cs) hu hK.info hK.zero (hK.size.trans hs1) hzs hK.bytes (ty':=o.type) (by rw [q0] at y3;exact y3) (b5 q1 n1) hnone n2 n1.one (by omega)
         obtain ⟨η',hR⟩:=bj.re (nx:=nx) (c:= .row e p r) (out:= [.one (.rw nx)]) (pre:=some (r.length≤16777216)) hH hb hnn hfree hu1 r3 (GK y3) r4
          (fun η' A' hnx=>⟨⟨v',_,hnx,hrL y2 n1,by rw [q0,hrl];exact r2⟩,v',hnx,rfl,sf r2⟩)
         exact .inl ⟨_,_,_,η',hex _ _ r1,.inl rfl,hR⟩
        ·cases h5
       ·cases h4
      ·cases h4
     ·cases h3
    ·cases h3
 ·cases h
end
theorem oV {t:Nat} {x y:Value} {w:World} {b:Bool} (h:(Op.equalIn (9999+1) t x y).run Tryz.prog w= .ok b w):(Op.equal t x y).run Tryz.prog w= .ok b w:=h
theorem Mz {t e:Nat} {p:Option Addr} {w:World} (hu:Tryz.prog.underlying t=some (.pointer e)):(Op.equal t (.pointer p) (.pointer none)).run Tryz.prog w= .ok p.isNone w:=by
 apply oV
 unfold Op.equalIn
 rw [Sem.run_bind,run_underlying hu]
 cases p<;>rfl
theorem EZ {t:Nat} {p q:Bool} {w:World} (hu:Tryz.prog.underlying t=some .bool):(Op.equal t (.bool p) (.bool q)).run Tryz.prog w= .ok (p ==q) w:=by
 apply oV
 unfold Op.equalIn
 rw [Sem.run_bind,run_underlying hu]
 rfl
theorem ia {t:Nat} {x y:Value} {w:World} {b:Bool} (h:(Op.equal t x y).run Tryz.prog w= .ok b w):((do pure (.bool (←Op.equal t x y)):Sem Value)).run Tryz.prog w= .ok (.bool b) w∧((do pure (.bool (!(←Op.equal t x y))):Sem Value)).run Tryz.prog w= .ok (.bool (!b)) w:=by
 constructor<;>simp [h]
theorem lF {l:List UInt8} {cs:List Value}:aU Kd.u8.rp l cs↔cs=l.map bV:=by
 induction l generalizing cs with
 |nil=>exact Iff.rfl
 |cons x l ih=>
  constructor
  ·rintro ⟨h,r,h1,rfl,h2⟩
   rw [show h= [_] from h1,ih.1 h2];rfl
  ·rintro rfl
   exact ⟨[bV x],_,rfl,rfl,ih.2 rfl⟩
@[reducible] def qI (x y:F):Bool:=decide (x=y)
def QT (x:F):List Value:=(List.range 16).map fun i=> .int .u64 ((EN x.val i:Nat):Int)
theorem ue (x:F):QT x=((List.range 16).map fun i=>((EN x.val i:Nat):Int)).map (Value.int .u64):=by
 rw [QT,List.map_map];rfl
theorem Ki:(Tryz.prog.info? 96).map (·.size)=some 1:=by kernel_rfl
theorem Hg (w:World):(sizeOf 96).run Tryz.prog w= .ok 1 w:=by
 have h:=Ki
 cases hq:Tryz.prog.info? 96 with
 |none=>simp [hq] at h
 |some i=>
  simp [hq] at h
  simp [sizeOf,typeInfo,hq,h]
theorem JB {x y:F} (h:∀i,i<16→EN x.val i=EN y.val i):x=y:=by
 apply F.ext'
 have hx:=qu x.val 16
 have hy:=qu y.val 16
 rw [Nat.mod_eq_of_lt (Nat.lt_trans x.isLt (by decide +kernel))] at hx
 rw [Nat.mod_eq_of_lt (Nat.lt_trans y.isLt (by decide +kernel))] at hy
 rw [←hx,←hy]
 exact pL 16 h
theorem E3 (x y:F) (w:World):(Op.equal 111 (.agg (QT x).toArray) (.agg (QT y).toArray)).run Tryz.prog w= .ok (decide (x=y)) w:=by
 rw [ue,ue]
 have h:=My (P:=Tryz.prog) w 9998 111 96 16 .u64 Tryz.underlying111 Tryz.underlying96 Hg ((List.range 16).map fun i=>((EN x.val i:Nat):Int)) ((List.range 16).map fun i=>((EN y.val i:Nat):Int)) (by simp) (by simp)
 refine Eq.trans h ?_
 congr 1
 rw [Bool.eq_iff_iff,beq_iff_eq,decide_eq_true_iff]
 constructor
 ·intro e
  apply JB
  intro i hi
  have:=congrArg (fun l=>l[i]?) e
  simp [hi] at this
  omega
 ·rintro rfl;rfl
theorem E9 {η:aY} {A:Nat→Prop} {w:World} {x:F} {v:Value} (h:AV.H η A w (.agg [.ob (.x 1) x]) v):v= .agg (QT x).toArray:=by
 obtain ⟨cs,e,⟨h1,t,e2,⟨_,h3⟩,rfl⟩,_⟩:=h
 rw [e,e2,List.append_nil,h3]
 rfl
section
variable {ty:Nat→TE} {sl:Nat→List AV} {H:Nat→Option Ch} {η:aY} {w:World} {nx N:Nat} {a:Act} {o:Oper} {ds:List Bool} {res:aG} {rd:List cu} {qs:List (Bool×Bool)}
theorem v9 {t:Nat} {k:Kd} (hT:a8 ty) (h:(ty t).ti= .k k):∃i d z,s9 ty t i d z:=by
 rcases hT t with h1|h1
 ·rw [h] at h1;cases h1
 ·exact h1
theorem QM {op:BinOp} {t t':Nat} {x y:Operand} (hT:a8 ty) (ho:o.op= .binOp op t x y t') (hS:eH sl H N η a w) (h:(db x fun a=>db y fun b=>yW (ty t).ti t op a b:R aG).run sl H ds= .ok res rd qs) (hp:aW res.pre):OpDone H η w nx res o a:=by
 obtain ⟨av,rd1,h1,hv⟩:=bc h hS.slot
 obtain ⟨bv,rd2,h2,hw⟩:=bc h1 hS.slot
 clear h h1
 have hH:bX H η w:=⟨hS.chunk,hS.apart⟩
 have hex:∀v,(eqGuard op t x y (a.eval x) (a.eval y)).run Tryz.prog w= .ok () w→(binOp op t (a.eval x) (a.eval y)).run Tryz.prog w= .ok v w→(execOp a.eval o).run Tryz.prog w= .ok (.value v) w:=fun v h1 h2=>by
  unfold execOp
  simp only [ho]
  rw [Sem.run_bind,Sem.run_bind,h1]
  simp [h2]
 unfold yW at h2
 split at h2
 ·split at h2
  ·split at h2
   ·rename_i x y ht
    have:=aL ht
    subst this
    have r1:=E9 hv
    have r2:=E9 hw
    have hg:Tryz.prog.eqGuardType Tryz.prog.depth 111=false:=by kernel_rfl
    unfold Ty at h2
    split at h2
    ·have:=au h2
     subst this
     refine .val (v:= .bool (qI x y)) hH rfl (hex _ (by rw [r1,r2];simp [eqGuard,hg]) ?_)
     rw [r1,r2]
     exact (ia (E3 _ _ w)).1
    ·have:=au h2
     subst this
     refine .val (v:= .bool (!qI x y)) hH rfl (hex _ (by rw [r1,r2];simp [eqGuard,hg]) ?_)
     rw [r1,r2]
     exact (ia (E3 _ _ w)).2
    ·cases h2
   ·cases h2
  ·cases h2
 rename_i hno
 clear hno
 unfold ML at h2
 cases e1:fQ av with
 |some n=>
  rw [e1] at h2
  simp only at h2
  cases e2:fQ bv with
  |none=>rw [e2] at h2;cases h2
  |some m=>
   rw [e2] at h2
   have g1:=cL (a9 e1 hv)
   have g2:=cL (a9 e2 hw)
   refine (KJ (t:=t) op n m).done h2 hp hH fun v hv'=>hex v ?_ (by rw [g1,g2];exact hv')
   rw [g1,g2]
   obtain ⟨k1,r1⟩:=dm n
   obtain ⟨k2,r2⟩:=dm m
   rw [r1,r2]
   unfold eqGuard
   cases op<;>rfl
 |none=>
  rw [e1] at h2
  simp only at h2
  have hb:∀(p q:Bool),(ty t).ti= .k .bool→a.eval x= .bool p→a.eval y= .bool q→(op= .eql→(execOp a.eval o).run Tryz.prog w= .ok (.value (.bool (p ==q))) w)∧(op= .neq→(execOp a.eval o).run Tryz.prog w= .ok (.value (.bool (p != q))) w):=fun p q ht e1 e2=>by
   obtain ⟨i,d,z,hK⟩:=v9 hT ht
   have hd:=hK.desc
   rw [ht] at hd
   have hu:Tryz.prog.underlying t=some .bool:=by rw [hK.und,hd]
   refine ⟨fun h=> ?_,fun h=> ?_⟩
   ·subst h
    refine hex _ (by rw [e1,e2];rfl) ?_
    rw [e1,e2]
    exact (ia (EZ hu)).1
   ·subst h
    refine hex _ (by rw [e1,e2];rfl) ?_
    rw [e1,e2]
    exact (ia (EZ hu)).2
  have hq:∀(p q:Option Addr),(ty t).ti= .ptr→q=none→a.eval x= .pointer p→a.eval y= .pointer q→(op= .eql→(execOp a.eval o).run Tryz.prog w= .ok (.value (.bool p.isNone)) w)∧(op= .neq→(execOp a.eval o).run Tryz.prog w= .ok (.value (.bool (!p.isNone))) w):=fun p q ht eq e1 e2=>by
   subst eq
   obtain ⟨i,d,z,hK⟩|h0:(∃i d z,s9 ty t i d z)∨(ty t).ti= .oth:=(hT t).symm
   ·have hd:=hK.desc
    rw [ht] at hd
    obtain ⟨e,hd⟩:=hd
    have hu:Tryz.prog.underlying t=some (.pointer e):=by rw [hK.und,hd]
    refine ⟨fun h=> ?_,fun h=> ?_⟩
    ·subst h
     refine hex _ (by rw [e1,e2];rfl) ?_
     rw [e1,e2]
     exact (ia (Mz hu)).1
    ·subst h
     refine hex _ (by rw [e1,e2];rfl) ?_
     rw [e1,e2]
     exact (ia (Mz hu)).2
   ·rw [ht] at h0;cases h0
  split at h2
  ·rename_i p
   split at h2
   ·rename_i q ht
    obtain ⟨b1,b2⟩:=hb p q (by assumption) (ai hv) (ai hw)
    split at h2
    ·have:=au h2;subst this;exact .val hH rfl (b1 rfl)
    ·have:=au h2;subst this;exact .val hH rfl (b2 rfl)
    ·cases h2
   ·rename_i q ht
    obtain ⟨b1,b2⟩:=hb p q (by assumption) (ai hv) (ai hw.1)
    split at h2
    ·have:=au h2;subst this;exact .val hH rfl (b1 rfl)
    ·have:=au h2;subst this;exact .val hH rfl (b2 rfl)
    ·cases h2
   ·cases h2
  ·rename_i p
   split at h2
   ·rename_i q
    have r1:a.eval x= .string p:=ai hv
    have r2:a.eval y= .string q:=ai hw
    split at h2
    ·have:=au h2;subst this
     refine .val (v:= .bool (p.toList ==q.toList)) hH rfl (hex _ (by rw [r1,r2];rfl) ?_)
     rw [r1,r2];rfl
    ·have:=au h2;subst this
     refine .val (v:= .bool (!(p.toList ==q.toList))) hH rfl (hex _ (by rw [r1,r2];rfl) ?_)
     rw [r1,r2];rfl
    ·cases h2
   ·cases h2
  ·split at h2
   ·obtain ⟨g,_,hv⟩:=hv
    obtain ⟨b1,b2⟩:=hq _ _ (by assumption) rfl (ai hv) (ai hw.1)
    split at h2
    ·have:=au h2;subst this;exact .val hH ⟨rfl,rfl⟩ (b1 rfl)
    ·have:=au h2;subst this;exact .val hH ⟨rfl,rfl⟩ (b2 rfl)
    ·cases h2
   ·cases h2
  ·split at h2
   ·obtain ⟨b1,b2⟩:=hq _ _ (by assumption) rfl (ai hv.1) (ai hw.1)
    split at h2
    ·have:=au h2;subst this;exact .val hH ⟨rfl,rfl⟩ (b1 rfl)
    ·have:=au h2;subst this;exact .val hH ⟨rfl,rfl⟩ (b2 rfl)
    ·cases h2
   ·cases h2
  ·cases h2
theorem NR {t:Nat} {m x:Operand} (ho:o.op= .lookup t m x false) (hS:eH sl H N η a w) (h:(db m fun m=>db x fun x=>GC t m x:R aG).run sl H ds= .ok res rd qs) (hp:aW res.pre):OpDone H η w nx res o a:=by
 obtain ⟨av,rd1,h1,hv⟩:=bc h hS.slot
 obtain ⟨bv,rd2,h2,hw⟩:=bc h1 hS.slot
 cases h2
end
def Sn:Kd→Option IntKind
 | .u8=>some .u8| .u16=>some .u16| .u32=>some .u32| .u64=>some .u64| .int=>some .i64
 |_=>none
theorem KG (k:Kd) (x:Nm) {ik:IntKind} (hk:Sn k=some ik):aE (KF k x) fun w=>(Conv.intToInt ik x.toInt).run Tryz.prog w:=by
 have hnat:∀z:Int,0≤z→(z.toNat:Int)=z:=fun z h=>by omega
 unfold KF
 cases k<;>simp only [Sn,Option.some.injEq,reduceCtorEq] at hk<;>subst hk
 case u8=>
  cases x
  case lit z=>exact .pre (.int .u8 ((UInt8.ofNat z.toNat).toNat:Int)) (fun h w=>by have e:=PF z.toNat;rw [hnat z h] at e;exact congrArg (fun q=>Result.ok (Value.int .u8 q) w) e) fun _ _ _=>rfl
  case int z=>exact .pre (.int .u8 ((UInt8.ofNat z.toNat).toNat:Int)) (fun h w=>by have e:=PF z.toNat;rw [hnat z h] at e;exact congrArg (fun q=>Result.ok (Value.int .u8 q) w) e) fun _ _ _=>rfl
  case u8 a=>exact .one (.int .u8 ((a).toNat:Int)) (fun w=>congrArg (fun q=>Result.ok (Value.int .u8 q) w) (by have e:=PF a.toNat;rw [show UInt8.ofNat a.toNat=a from UInt8.ofNat_toNat] at e;exact e)) fun _ _ _=>rfl
  case u16 a=>exact .one (.int .u8 ((a.toUInt8).toNat:Int)) (fun w=>congrArg (fun q=>Result.ok (Value.int .u8 q) w) (by have e:=PF a.toNat;rw [show UInt8.ofNat a.toNat=a.toUInt8 by apply UInt8.toNat_inj.1;simp] at e;exact e)) fun _ _ _=>rfl
  case u32 a=>exact .one (.int .u8 ((a.toUInt8).toNat:Int)) (fun w=>congrArg (fun q=>Result.ok (Value.int .u8 q) w) (by have e:=PF a.toNat;rw [show UInt8.ofNat a.toNat=a.toUInt8 by apply UInt8.toNat_inj.1;simp] at e;exact e)) fun _ _ _=>rfl
  case u64 a=>exact .one (.int .u8 ((a.toUInt8).toNat:Int)) (fun w=>congrArg (fun q=>Result.ok (Value.int .u8 q) w) (by have e:=PF a.toNat;rw [show UInt8.ofNat a.toNat=a.toUInt8 by apply UInt8.toNat_inj.1;simp] at e;exact e)) fun _ _ _=>rfl
 case u16=>
  cases x
  case lit z=>exact .pre (.int .u16 ((UInt16.ofNat z.toNat).toNat:Int)) (fun h w=>by have e:=zN z.toNat;rw [hnat z h] at e;exact congrArg (fun q=>Result.ok (Value.int .u16 q) w) e) fun _ _ _=>rfl
  case int z=>exact .pre (.int .u16 ((UInt16.ofNat z.toNat).toNat:Int)) (fun h w=>by have e:=zN z.toNat;rw [hnat z h] at e;exact congrArg (fun q=>Result.ok (Value.int .u16 q) w) e) fun _ _ _=>rfl
  case u8 a=>exact .one (.int .u16 ((a.toUInt16).toNat:Int)) (fun w=>congrArg (fun q=>Result.ok (Value.int .u16 q) w) (by have e:=zN a.toNat;rw [show UInt16.ofNat a.toNat=a.toUInt16 by apply UInt16.toNat_inj.1;simp] at e;exact e)) fun _ _ _=>rfl
  case u16 a=>exact .one (.int .u16 ((a).toNat:Int)) (fun w=>congrArg (fun q=>Result.ok (Value.int .u16 q) w) (by have e:=zN a.toNat;rw [show UInt16.ofNat a.toNat=a from UInt16.ofNat_toNat] at e;exact e)) fun _ _ _=>rfl
  case u32 a=>exact .one (.int .u16 ((a.toUInt16).toNat:Int)) (fun w=>congrArg (fun q=>Result.ok (Value.int .u16 q) w) (by have e:=zN a.toNat;rw [show UInt16.ofNat a.toNat=a.toUInt16 by apply UInt16.toNat_inj.1;simp] at e;exact e)) fun _ _ _=>rfl
  case u64 a=>exact .one (.int .u16 ((a.toUInt16).toNat:Int)) (fun w=>congrArg (fun q=>Result.ok (Value.int .u16 q) w) (by have e:=zN a.toNat;rw [show UInt16.ofNat a.toNat=a.toUInt16 by apply UInt16.toNat_inj.1;simp] at e;exact e)) fun _ _ _=>rfl
 case u32=>
  cases x
  case lit z=>exact .pre (.int .u32 ((UInt32.ofNat z.toNat).toNat:Int)) (fun h w=>by have e:=zO z.toNat;rw [hnat z h] at e;exact congrArg (fun q=>Result.ok (Value.int .u32 q) w) e) fun _ _ _=>rfl
  case int z=>exact .pre (.int .u32 ((UInt32.ofNat z.toNat).toNat:Int)) (fun h w=>by have e:=zO z.toNat;rw [hnat z h] at e;exact congrArg (fun q=>Result.ok (Value.int .u32 q) w) e) fun _ _ _=>rfl
  case u8 a=>exact .one (.int .u32 ((a.toUInt32).toNat:Int)) (fun w=>congrArg (fun q=>Result.ok (Value.int .u32 q) w) (by have e:=zO a.toNat;rw [show UInt32.ofNat a.toNat=a.toUInt32 by apply UInt32.toNat_inj.1;simp] at e;exact e)) fun _ _ _=>rfl
  case u16 a=>exact .one (.int .u32 ((a.toUInt32).toNat:Int)) (fun w=>congrArg (fun q=>Result.ok (Value.int .u32 q) w) (by have e:=zO a.toNat;rw [show UInt32.ofNat a.toNat=a.toUInt32 by apply UInt32.toNat_inj.1;simp] at e;exact e)) fun _ _ _=>rfl
  case u32 a=>exact .one (.int .u32 ((a).toNat:Int)) (fun w=>congrArg (fun q=>Result.ok (Value.int .u32 q) w) (by have e:=zO a.toNat;rw [show UInt32.ofNat a.toNat=a from UInt32.ofNat_toNat] at e;exact e)) fun _ _ _=>rfl
  case u64 a=>exact .one (.int .u32 ((a.toUInt32).toNat:Int)) (fun w=>congrArg (fun q=>Result.ok (Value.int .u32 q) w) (by have e:=zO a.toNat;rw [show UInt32.ofNat a.toNat=a.toUInt32 by apply UInt32.toNat_inj.1;simp] at e;exact e)) fun _ _ _=>rfl
 case u64=>
  cases x
  case lit z=>exact .pre (.int .u64 ((UInt64.ofNat z.toNat).toNat:Int)) (fun h w=>by have e:=zQ z.toNat;rw [hnat z h] at e;exact congrArg (fun q=>Result.ok (Value.int .u64 q) w) e) fun _ _ _=>rfl
  case int z=>exact .pre (.int .u64 ((UInt64.ofNat z.toNat).toNat:Int)) (fun h w=>by have e:=zQ z.toNat;rw [hnat z h] at e;exact congrArg (fun q=>Result.ok (Value.int .u64 q) w) e) fun _ _ _=>rfl
  case u8 a=>exact .one (.int .u64 ((a.toUInt64).toNat:Int)) (fun w=>congrArg (fun q=>Result.ok (Value.int .u64 q) w) (by have e:=zQ a.toNat;rw [show UInt64.ofNat a.toNat=a.toUInt64 by apply UInt64.toNat_inj.1;simp] at e;exact e)) fun _ _ _=>rfl
  case u16 a=>exact .one (.int .u64 ((a.toUInt64).toNat:Int)) (fun w=>congrArg (fun q=>Result.ok (Value.int .u64 q) w) (by have e:=zQ a.toNat;rw [show UInt64.ofNat a.toNat=a.toUInt64 by apply UInt64.toNat_inj.1;simp] at e;exact e)) fun _ _ _=>rfl
  case u32 a=>exact .one (.int .u64 ((a.toUInt64).toNat:Int)) (fun w=>congrArg (fun q=>Result.ok (Value.int .u64 q) w) (by have e:=zQ a.toNat;rw [show UInt64.ofNat a.toNat=a.toUInt64 by apply UInt64.toNat_inj.1;simp] at e;exact e)) fun _ _ _=>rfl
  case u64 a=>exact .one (.int .u64 ((a).toNat:Int)) (fun w=>congrArg (fun q=>Result.ok (Value.int .u64 q) w) (by have e:=zQ a.toNat;rw [show UInt64.ofNat a.toNat=a from UInt64.ofNat_toNat] at e;exact e)) fun _ _ _=>rfl
 case int=>
  have hr:∀(z:Int) w,jq z→(Conv.intToInt .i64 z).run Tryz.prog w= .ok (.int .i64 z) w:=fun z w h=>congrArg (fun q=>Result.ok (Value.int .i64 q) w) (eA h)
  cases x
  case lit z=>exact .lit fun h w=>hr z w h
  case int z=>exact .symI fun h w=>hr z w h
  case u8 a=>exact .one _ (fun w=>hr _ w ⟨by simp only [Nm.toInt];omega,by have:=a.toNat_lt;simp only [Nm.toInt];omega⟩) fun _ _ _=>rfl
  case u16 a=>exact .one _ (fun w=>hr _ w ⟨by simp only [Nm.toInt];omega,by have:=a.toNat_lt;simp only [Nm.toInt];omega⟩) fun _ _ _=>rfl
  case u32 a=>exact .one _ (fun w=>hr _ w ⟨by simp only [Nm.toInt];omega,by have:=a.toNat_lt;simp only [Nm.toInt];omega⟩) fun _ _ _=>rfl
  case u64 a=>exact .pre _ (fun h w=>hr _ w ⟨by simp only [Nm.toInt];omega,by simp only [Nm.toInt];omega⟩) fun _ _ _=>rfl
section
variable {ty:Nat→TE} {sl:Nat→List AV} {H:Nat→Option Ch} {η:aY} {w:World} {nx N:Nat} {a:Act} {o:Oper} {ds:List Bool} {res:aG} {rd:List cu} {qs:List (Bool×Bool)}
theorem eG.rdb {A:Nat→Prop} {l:List UInt8} {v:Value} (h:eG A w .u8 l v):∃ad c,v= .slice ad l.length c∧iS w ad l.length c l:=by
 obtain ⟨ad,c,rfl,h1,h2,h3,h4⟩:=h
 refine ⟨ad,c,rfl,rfl,h1,h2,fun i hi=> ?_,h3⟩
 obtain ⟨g,q,cs,rfl,_,hl,hr⟩:=h4 (by omega)
 refine ⟨g,q,rfl,?_⟩
 have:=hr i (bV l[i]) (by rw [lF.1 hl,List.getElem?_map,List.getElem?_eq_getElem hi];rfl)
 exact this
theorem bj.drop (hH:bX H η w) {b g:Nat} {c:Ch} (hb:H b=some c) (hg:bf η b=some g) {w':World} (ho:w'.os=w.os) (ht:w'.tape=w.tape) (hu:w'.output=w.output) (hz:w'.heap.size=w.heap.size) (hw:∀x,x≠g→w'.heap[x]?=w.heap[x]?)
  {out:List AV} {v:Value} {pre:Option Prop} (hc:∀A':Nat→Prop,A' g→bF η A' w' out v):bj H η w nx ⟨out,[(b,none)],pre,none⟩ v w' η:=by
 have hupd:∀x,bi [(b,none)] H x=if x=b then none else H x:=fun b=>rfl
 have hA:∀g',ay H η g'→ay (bi [(b,none)] H) η g':=fun g' ha x hx=>by
  rw [hupd] at hx
  by_cases e:x=b
  ·rw [if_pos e] at hx;exact absurd rfl hx
  ·rw [if_neg e] at hx;exact ha x hx
 have hAg:ay (bi [(b,none)] H) η g:=fun x hx=>by
  rw [hupd] at hx
  by_cases e:x=b
  ·rw [if_pos e] at hx;exact absurd rfl hx
  ·rw [if_neg e] at hx;exact hH.apart b x g (Ne.symm e) (by rw [hb];simp) hx hg
 have hfw:Fw H η w (bi [(b,none)] H) η w':=⟨ho,ht,hu,by omega,fun _ _ h=>h,fun g' _ ha=>⟨hw g' fun e=>ha b (by rw [hb];simp) (by rw [hg,e]),hA g' ha⟩⟩
 refine ⟨hc _ hAg,⟨fun x cx hx=> ?_,fun x x' g' hxx hx1 hx2 hgx=> ?_⟩,hfw,fun _ _=>rfl,trivial⟩
 ·rw [hupd] at hx
  by_cases e:x=b
  ·rw [if_pos e] at hx;cases hx
  ·rw [if_neg e] at hx
   exact (hH.chunk x cx hx).later hfw.lt fun g' hg'=>hw g' fun e2=>by
    subst e2
    exact hH.apart x b g' e (by rw [hx];simp) (by rw [hb];simp) hg' hg
 ·rw [hupd] at hx1 hx2
  refine hH.apart x x' g' hxx ?_ ?_ hgx
  ·by_cases e:x=b
   ·rw [if_pos e] at hx1;exact absurd rfl hx1
   ·rw [if_neg e] at hx1;exact hx1
  ·by_cases e:x'=b
   ·rw [if_pos e] at hx2;exact absurd rfl hx2
   ·rw [if_neg e] at hx2;exact hx2
theorem BV {s d:Nat} {x:Operand} (hT:a8 ty) (ho:o.op= .convert s d x) (hS:eH sl H N η a w) (h:(db x fun a=>yX ty s d a:R aG).run sl H ds= .ok res rd qs) (hp:aW res.pre):OpDone H η w nx res o a:=by
 obtain ⟨av,rd1,h1,hv⟩:=bc h hS.slot
 clear h
 unfold yX at h1
 split at h1
 ·rename_i k0 hs0
  split at h1
  ·rename_i k hd0
   split at h1
   ·rename_i n hn
    obtain ⟨i1,d1,z1,hK1⟩:=v9 hT hs0
    obtain ⟨i2,d2,z2,hK2⟩:=v9 hT hd0
    have hd:=hK2.desc
    rw [hd0] at hd
    have g:=cL (a9 hn hv)
    obtain ⟨ik,r⟩:=dm n
    cases hki:Sn k with
    |none=>unfold KF at h1;cases k<;>first |(cases h1;done)|(cases hki;done)
    |some jk=>
     have hu:Tryz.prog.underlying d=some (.int jk):=by
      rw [hK2.und]
      cases k<;>simp only [Sn,Option.some.injEq,reduceCtorEq] at hki<;>subst hki<;>exact congrArg some hd
     refine (KG k n hki).done h1 hp hS.hpOk fun v hv'=> ?_
     unfold execOp
     simp only [ho]
     rw [Sem.run_bind]
     have:(convert s d (a.eval x)).run Tryz.prog w= .ok v w:=by
      unfold convert
      rw [Sem.run_bind,run_underlying hK1.und]
      simp only [Result.andThen_ok]
      rw [Sem.run_bind,run_underlying hu,g,r]
      simp only [Result.andThen_ok]
      exact hv'
     rw [this];rfl
   ·cases h1
  ·cases h1
 ·split at h1
  ·rename_i hs
   have:=aL hs
   subst this
   split at h1
   ·rename_i hd
    have:=aL hd
    subst this
    obtain ⟨y,rd2,h2,hy⟩:=lX h1 hS.hpOk hv
    replace hy:AV.H η (fun _=>True) w y (a.eval x):=by
     rcases hy with rfl|⟨q,m,rfl,hy⟩
     ·exact hv.later ⟨fun _ _ h=>h,fun _ _ _=>⟨rfl,trivial⟩⟩
     ·exact ⟨_,rfl,hy⟩
    split at h2
    ·rename_i l
     have:=au h2
     subst this
     obtain ⟨u,e1,hr⟩:=hy
     refine .val (v:= .string (bs l)) hS.hpOk rfl ?_
     unfold execOp
     simp only [ho]
     rw [Sem.run_bind]
     have:(convert 26 9 (a.eval x)).run Tryz.prog w= .ok (.string (bs l)) w:=by
      rw [List.singleton_inj] at e1
      subst e1
      obtain ⟨ad,c,e2,hR⟩:=hr.rdb
      rw [e2]
      exact EL hR
     rw [this];rfl
    ·cases h2
   ·split at h1
    ·rename_i b hd
     have:=aL hd
     subst this
     obtain ⟨rd2,h2⟩:=bl h1
     split at h2
     ·rename_i E x l hb
      have:=aC h2
      subst this
      obtain ⟨v,cs,e1,h3,h4⟩:=hS.chunk b _ hb
      obtain ⟨v',e1',e5,_⟩:=hv
      rw [e1] at e1'
      cases e1'
      have e5:=List.singleton_inj.1 e5
      rcases h4.2 with ⟨_,hz⟩|⟨g,cap,cur,e,_,h5,h6,h7,h8,h9⟩
      ·cases hz
      ·subst e
       have hg:bf η b=some g:=by unfold bf;rw [e1];rfl
       have hw':∀i,i≠g→(w.freeze ⟨g,cur.size,none⟩ 1).heap[i]?=w.heap[i]?:=fun i hi=>by
        simp [World.freeze,Array.getElem?_modify,Ne.symm hi]
       have hwg:(w.freeze ⟨g,cur.size,none⟩ 1).heap[g]?=some (.cells cur E (cur.size,cur.size+1)):=by
        simp [World.freeze,Array.getElem?_modify,h5]
       have hsz:(w.freeze ⟨g,cur.size,none⟩ 1).heap.size=w.heap.size:=by simp [World.freeze]
       have hex:(execOp a.eval o).run Tryz.prog w= .ok (.value (.slice (some ⟨g,0,none⟩) (x::l).length cap)) (w.freeze ⟨g,cur.size,none⟩ 1):=by
        unfold execOp
        simp only [ho]
        rw [Sem.run_bind,e5]
        have hsh:w.shape? g=some (E,cur.size):=by unfold World.shape?;rw [h5]
        simp [convert,run_underlying Tryz.underlying26,run_underlying Tryz.underlying5,markStringish,hsh]
       refine .inl ⟨_,_,_,η,hex,.inl rfl,?_⟩
       refine bj.drop (w':=w.freeze ⟨g,cur.size,none⟩ 1) hS.hpOk hb hg rfl rfl rfl hsz hw' fun A' hA=> ?_
       refine ⟨_,rfl,some ⟨g,0,none⟩,cap,rfl,h6,h7,fun h=>(by cases h),fun _=>⟨g,0,cs,rfl,hA,h3,fun j u hj=> ?_⟩⟩
       simp only [World.cell?,hwg]
       have hlt:=(List.getElem?_eq_some_iff.1 hj).1
       have h10:=h4.1
       rw [←h9,List.getElem?_take] at hj
       split at hj
       ·simpa using hj
       ·cases hj
     ·cases h2
    ·cases h1
  ·cases h1
 ·cases h1
theorem OD (x:Nm):aE (match x with
  |(.lit a)=>gn (0-a)
  |(.int a)=>symI (0-a)
  |(.u64 a)=>aw (.ob .u64 (0-a))
  |(.u32 a)=>aw (.ob .u32 (0-a))
  |_=> .fail) fun w=>(Op.unary .neg (jK x)).run Tryz.prog w:=by
 cases x
 case lit a=>exact .lit fun h w=>congrArg (fun q=>Result.ok (Value.int .i64 q) w) (eA h)
 case int a=>exact .symI fun h w=>congrArg (fun q=>Result.ok (Value.int .i64 q) w) (eA h)
 case u32 a=>exact nn (t:=0) .sub (by simp) (by simp) 0 a
 case u64 a=>exact np (t:=0) .sub (by simp) (by simp) 0 a
 all_goals exact .fail
theorem PG (x:Nm):aE (match x with
  |(.u8 a)=>aw (.ob .u8 (~~~a))
  |(.u16 a)=>aw (.ob .u16 (~~~a))
  |(.u32 a)=>aw (.ob .u32 (~~~a))
  |(.u64 a)=>aw (.ob .u64 (~~~a))
  |_=> .fail) fun w=>(Op.unary .xor (jK x)).run Tryz.prog w:=by
 cases x
 case u8 a=>show aE (aw (.ob .u8 (~~~a))) _;rw [show ~~~a=UInt8.ofNat (2^8-1)^^^a from UInt8.eq_of_toBitVec_eq (by show ~~~a.toBitVec=BitVec.allOnes 8^^^a.toBitVec;rw [BitVec.allOnes_xor])];exact Bd (t:=0) .xor (by simp) (by simp) (UInt8.ofNat (2^8-1)) a
 case u16 a=>show aE (aw (.ob .u16 (~~~a))) _;rw [show ~~~a=UInt16.ofNat (2^16-1)^^^a from UInt16.eq_of_toBitVec_eq (by show ~~~a.toBitVec=BitVec.allOnes 16^^^a.toBitVec;rw [BitVec.allOnes_xor])];exact uX (t:=0) .xor (by simp) (by simp) (UInt16.ofNat (2^16-1)) a
 case u32 a=>show aE (aw (.ob .u32 (~~~a))) _;rw [show ~~~a=UInt32.ofNat (2^32-1)^^^a from UInt32.eq_of_toBitVec_eq (by show ~~~a.toBitVec=BitVec.allOnes 32^^^a.toBitVec;rw [BitVec.allOnes_xor])];exact nn (t:=0) .xor (by simp) (by simp) (UInt32.ofNat (2^32-1)) a
 case u64 a=>show aE (aw (.ob .u64 (~~~a))) _;rw [show ~~~a=UInt64.ofNat (2^64-1)^^^a from UInt64.eq_of_toBitVec_eq (by show ~~~a.toBitVec=BitVec.allOnes 64^^^a.toBitVec;rw [BitVec.allOnes_xor])];exact np (t:=0) .xor (by simp) (by simp) (UInt64.ofNat (2^64-1)) a
 all_goals exact .fail
theorem NT {op:UnOp} {t:Nat} {x:Operand} (ho:o.op= .unOp op t x) (hS:eH sl H N η a w) (h:(db x fun a=>OI op a:R aG).run sl H ds= .ok res rd qs) (hp:aW res.pre):OpDone H η w nx res o a:=by
 obtain ⟨av,rd1,h1,hv⟩:=bc h hS.slot
 clear h
 have hex:∀v,(Op.unary op (a.eval x)).run Tryz.prog w= .ok v w→(execOp a.eval o).run Tryz.prog w= .ok (.value v) w:=fun v h=>by
  unfold execOp
  simp only [ho]
  rw [Sem.run_bind,h]
  rfl
 unfold OI at h1
 split at h1
 ·split at h1
  ·rename_i b
   rw [AO] at h1
   have:=au h1;subst this
   exact .val hS.hpOk ⟨rfl,rfl⟩ (hex _ (by rw [ai hv.1];rfl))
  ·rename_i b
   have:=au h1;subst this
   exact .val (v:= .bool (!b)) hS.hpOk rfl (hex _ (by rw [show a.eval x= .bool b from ai hv];rfl))
  ·cases h1
 ·cases e:fQ av with
  |none=>rw [e] at h1;cases h1
  |some n=>
   rw [e] at h1
   have g:=cL (a9 e hv)
   refine (OD n).done (by cases n<;>exact h1) hp hS.hpOk fun v hv'=>hex v (by rw [g];exact hv')
 ·cases e:fQ av with
  |none=>rw [e] at h1;cases h1
  |some n=>
   rw [e] at h1
   have g:=cL (a9 e hv)
   refine (PG n).done (by cases n<;>exact h1) hp hS.hpOk fun v hv'=>hex v (by rw [g];exact hv')
 ·cases h1
end
section
variable {ty:Nat→TE} {sl:Nat→List AV} {H:Nat→Option Ch} {η:aY} {w:World} {nx N:Nat} {a:Act} {o:Oper} {ds:List Bool} {res:aG} {rd:List cu} {qs:List (Bool×Bool)}
theorem NS {c x y:Operand} (ho:o.op= .pick c x y) (hS:eH sl H N η a w) (h:(db c fun c=>match c with
  | .one (.cv (.bool true))=>db x fun a=> .pure ⟨[a],[],none,none⟩
  | .one (.cv (.bool false))=>db y fun b=> .pure ⟨[b],[],none,none⟩
  |_=> .fail:R aG).run sl H ds= .ok res rd qs):OpDone H η w nx res o a:=by
 obtain ⟨cv,rd1,h1,hv⟩:=bc h hS.slot
 clear h
 have hex:∀b,a.eval c= .bool b→(execOp a.eval o).run Tryz.prog w= .ok (.value (if b=true then a.eval x else a.eval y)) w:=fun b hb=>by
  unfold execOp
  simp only [ho,hb]
  cases b<;>rfl
 split at h1
 ·obtain ⟨av,rd2,h2,hw⟩:=bc h1 hS.slot
  have:=aC h2;subst this
  exact .inl ⟨_,a.eval x,w,η,hex true (ai hv.1),.inl rfl,.pure (out:= [av]) hS.hpOk hw trivial⟩
 ·obtain ⟨av,rd2,h2,hw⟩:=bc h1 hS.slot
  have:=aC h2;subst this
  exact .inl ⟨_,a.eval y,w,η,hex false (ai hv.1),.inl rfl,.pure (out:= [av]) hS.hpOk hw trivial⟩
 ·cases h1
theorem AK {e:Nat} {k:Kd} (hk:mY (ty e)=some k):(ty e).ti= .k k:=by
 unfold mY at hk
 split at hk
 ·rename_i k' e2;cases hk;exact e2
 ·cases hk
theorem Oq {e:Nat} {k:Kd} {i:TypeInfo} {d:TypeDesc} {z:Value} (hK:s9 ty e i d z) (ht:(ty e).ti= .k k) (h1:k.n=1):∃u,z.cells= #[u]∧k.rp.rep k.df [u]∧u.oneCell'=true:=by
 have h2:=hK.kz k ht
 have:=k.rp.len _ _ h2
 rw [Kd.rp_n,h1] at this
 obtain ⟨u,hu⟩:=List.length_eq_one_iff.1 this
 rw [hu] at h2
 exact ⟨u,by rw [←Array.toArray_toList (xs:=z.cells),hu],h2,k.rp.one _ _ h2 u (by simp)⟩
theorem ak {k:Kd} {u:Value} (h:k.rp.rep k.df [u]):∀n,aU k.rp (List.replicate n k.df) (List.replicate n u)
 |0=>rfl
 |n+1=>⟨[u],List.replicate n u,h,rfl,ak h n⟩
theorem tS {t:Nat} {x y:Operand} (hT:a8 ty) (ho:o.op= .makeSlice t x y) (hS:eH sl H N η a w) (hfree:∀b,nx≤b→b<nx+16→η b=none) (h:(db x fun n=>db y fun c=>gR ty nx t n c:R aG).run sl H ds= .ok res rd qs) (hp:aW res.pre):OpDone H η w nx res o a:=by
 obtain ⟨av,rd1,h1,hv⟩:=bc h hS.slot
 obtain ⟨bv,rd2,h2,hw⟩:=bc h1 hS.slot
 clear h h1
 unfold gR at h2
 split at h2
 ·rename_i e n c ht e1 e2
  split at h2
  ·rename_i k hk
   split at h2
   ·rename_i hk1
    have hkn:=aL hk1
    obtain ⟨hn,rfl⟩:=ft h2
    have hti:=AK hk
    obtain ⟨i,d,z,hK⟩:=v9 hT hti
    obtain ⟨u,hz,hrep,hu1⟩:=Oq hK hti hkn
    obtain ⟨p1,p2,p3⟩:0≤n.toInt∧n.toInt=c.toInt∧c.toInt≤16777216:=hp
    obtain ⟨k1,r1⟩:=dm n
    obtain ⟨k2,r2⟩:=dm c
    have g1:=cL (a9 e1 hv)
    have g2:=cL (a9 e2 hw)
    have hN:n.toInt=(n.toInt.toNat:Int):=by omega
    rw [r1,hN] at g1
    rw [r2,←p2,hN] at g2
    have hsz:i.size=1:=by rw [hK.size,hK.ks k hti,hkn]
    have hby:i.bytes*n.toInt.toNat≤281474976710656:=Nat.le_trans (Nat.mul_le_mul hK.bytes (show n.toInt.toNat≤16777216 by omega)) (by decide)
    obtain ⟨w',q1,q2,q3⟩:=run_make_full (P:=Tryz.prog) w w.heap.size t e i z 1 (cZ hT ht) hK.info hK.zero hsz k1 k2 n.toInt.toNat hby (by simp only [maxLen];omega) (Nat.le_refl _)
    rw [hz,Nat.mul_one,toList_madeCells_one] at q2
    have q4:w'.ownsRow 0 e k.n (.slice (some ⟨w.heap.size,0,none⟩) n.toInt.toNat n.toInt.toNat) (List.replicate n.toInt.toNat k.df).length (List.replicate n.toInt.toNat u):=by
     rw [hkn,List.length_replicate]
     refine ⟨q2.1,?_⟩
     rcases q2.2 with h|⟨g,cap,cur,e1,e2,e3⟩
     ·exact .inl h
     ·exact .inr ⟨g,cap,cur,e1,Nat.zero_le _,e3⟩
    obtain ⟨η',hR⟩:=bj.new (nx:=nx) (ref:= .slice (some ⟨w.heap.size,0,none⟩) n.toInt.toNat n.toInt.toNat) (c:= .row e k (List.replicate n.toInt.toNat k.df)) (out:= [.one (.rw nx)]) (v:= .slice (some ⟨w.heap.size,0,none⟩) n.toInt.toNat n.toInt.toNat) (pre:=some (0≤n.toInt∧n.toInt=c.toInt∧c.toInt≤16777216)) hS.hpOk hn hfree (w':=w') ⟨q3.os,q3.tape,q3.output,q3.size,fun g hg=>q3.block g hg (by simp)⟩ (fun g hg=>by cases hg;exact Nat.le_refl _)
     (fun η' A' he hA hnx=>⟨⟨_,_,hnx,ak hrep _,q4⟩,_,hnx,rfl,rfl⟩)
    refine .inl ⟨_,_,_,η',?_,.inl rfl,hR⟩
    unfold execOp
    simp only [ho]
    rw [Sem.run_bind,g1,g2,q1]
    rfl
   ·cases h2
  ·cases h2
 ·cases h2
theorem S8 {t:Nat} {x y:Operand} (hT:a8 ty) (ho:o.op= .index t x y) (hS:eH sl H N η a w) (h:(db x fun a=>db y fun i=>rX ty t a i:R aG).run sl H ds= .ok res rd qs) (hp:aW res.pre):OpDone H η w nx res o a:=by
 obtain ⟨av,rd1,h1,hv⟩:=bc h hS.slot
 obtain ⟨iv,rd2,h2,hw⟩:=bc h1 hS.slot
 clear h h1
 unfold rX at h2
 split at h2
 ·rename_i l
  split at h2
  ·rename_i n e ht
   have hu:=j1 hT ht
   have hn:=yE h2
   obtain ⟨⟨i,d,z,hK⟩,h3⟩:=b8 hT h2
   clear h2
   obtain ⟨cs,hv,hc,hone⟩:=hv
   have hex:∀(k:IntKind) (j:Nat) v,a.eval y= .int k (j:Int)→j<n→(part e cs.toArray (j*(ty e).size)).run Tryz.prog w= .ok v w→(execOp a.eval o).run Tryz.prog w= .ok (.value v) w:=fun k j v hi hj hv'=>by
    refine E5 (ev:=Instr.index t (a.eval x) (a.eval y)) (by unfold execOp;simp only [ho]) ?_
    rw [hv,hi]
    unfold Instr.index
    rw [Sem.run_bind,show (asIntOf (.int k (j:Int))).run Tryz.prog w= .ok (k,(j:Int)) w from rfl]
    simp only [Result.andThen_ok]
    rw [Sem.run_bind,run_underlying hu]
    simp only [Result.andThen_ok]
    rw [if_pos ⟨by omega,by omega⟩,Sem.run_bind,hK.sizeOf,Result.andThen_ok,Int.toNat_natCast]
    exact hv'
   rcases i8 h3 hw with ⟨j,hi,h4⟩|⟨kd,z',hi,h4⟩
   ·split at h4
    ·rename_i hj
     have hj:=iU hj
     split at h4
     ·rename_i ha
      split at h4
      ·rename_i r y1
       split at h4
       ·rename_i q y2
        have:=aC h4;subst this
        obtain ⟨z1,z2⟩:=fe y1 hc
        obtain ⟨z3,z4⟩:=hZ y2 z2
        rw [List.length_drop] at z3
        obtain ⟨p1,_⟩:=vO (w:=w) hK hn (cs:=cs) (off:=j*(ty e).size) (by omega)
        exact .inl ⟨_,_,w,η,hex _ j _ hi hj (p1 ha),.inl rfl,.pure (out:= [.agg q]) hS.hpOk ⟨_,rfl,z4,fun v hv=>hone v (List.mem_of_mem_drop (List.mem_of_mem_take hv))⟩ trivial⟩
       ·cases h4
      ·cases h4
     ·rename_i ha
      split at h4
      ·rename_i x' y1
       have:=au h4;subst this
       obtain ⟨v,y2,y3⟩:=jt y1 hc
       refine .val hS.hpOk y3 (hex _ j v hi hj ?_)
       obtain ⟨h5,_⟩:=hK.isAgg hn w
       rw [ha] at h5
       unfold part
       rw [Sem.run_bind,h5]
       simp [y2]
      ·cases h4
    ·cases h4
   ·split at h4
    ·rename_i k m q
     split at h4
     ·rename_i hk ha h1 hm
      have:=a_ h4;subst this
      obtain ⟨p1,p2⟩:0≤z'∧z'<n:=hp
      have hm:=aL hm
      subst hm
      obtain ⟨c1,c2,rfl,⟨hq,hl⟩,rfl⟩:=hc
      obtain ⟨v,y2,y3⟩:=gJ (Kd.sc_n hk) hl (i:=z'.toNat) (by omega)
      refine .val hS.hpOk y3 (hex kd z'.toNat v (by rw [hi,Int.toNat_of_nonneg p1]) (by omega) ?_)
      obtain ⟨h5,_⟩:=hK.isAgg hn w
      rw [ha] at h5
      unfold part
      rw [Sem.run_bind,h5,aL h1,Nat.mul_one]
      simp [y2]
     ·cases h4
    ·cases h4
  ·cases h2
 ·cases h2
end
theorem xy (off:Nat) (us cs:List Value) (h:off+us.length≤cs.length):us.toArray.zipIdx.foldl (fun cs (x:Value×Nat)=>cs.setIfInBounds (off+x.2) x.1) cs.toArray=(cs.take off++us++cs.drop (off+us.length)).toArray:=by
 have e:us.toArray.zipIdx.foldl (fun cs (x:Value×Nat)=>cs.setIfInBounds (off+x.2) x.1) cs.toArray=(us.zipIdx 0).foldl (fun cs (x:Value×Nat)=>cs.setIfInBounds (off+x.2) x.1) cs.toArray:=by
  rw [←Array.foldl_toList,Array.toList_zipIdx]
 rw [e]
 obtain ⟨h1,h2⟩:=Great.foldl_set off us 0 cs.toArray
 apply Array.ext_getElem?
 intro k
 rw [h2 k]
 simp only [Nat.add_zero,List.size_toArray,List.getElem?_toArray]
 split
 ·rename_i hk
  rw [List.append_assoc,List.getElem?_append_right (by rw [List.length_take];omega),List.length_take,Nat.min_eq_left (by omega),List.getElem?_append_left (by omega)]
 ·rename_i hk
  by_cases hk1:k<off
  ·rw [List.append_assoc,List.getElem?_append_left (by rw [List.length_take];omega),List.getElem?_take,if_pos hk1]
  ·by_cases hk2:k<cs.length
   ·rw [List.getElem?_append_right (by rw [List.length_append,List.length_take];omega),List.length_append,List.length_take,Nat.min_eq_left (by omega),List.getElem?_drop]
    congr 1
    omega
   ·rw [List.getElem?_eq_none (by omega),List.getElem?_eq_none (by simp;omega)]
section
variable {ty:Nat→TE} {sl:Nat→List AV} {H:Nat→Option Ch} {η:aY} {w:World} {nx N:Nat} {a:Act} {o:Oper} {ds:List Bool} {res:aG} {rd:List cu} {qs:List (Bool×Bool)}
def SU (η:aY) (A:Nat→Prop) (w:World):List (Nat×AV)→List (Nat×Value)→Prop
 | [],vs=>vs= []
 |p::r,vs=>∃v t,vs=(p.1,v)::t∧p.2.H η A w v∧SU η A w r t
theorem ly {pl:Nat→Option (Nat×Nat)} {A:Nat→Prop}:∀ {ps:List (Nat×AV)} {l m:List Cl} {cs:List Value} {vs:List (Nat×Value)},i5 pl l ps=some m→aO η A w l cs→(∀v∈cs,v.oneCell'=true)→SU η A w ps vs→∃ds:List Value,Instr.fill pl cs.toArray vs=some ds.toArray∧aO η A w m ds∧ds.length=cs.length∧∀v∈ds,v.oneCell'=true
 | [],l,m,cs,vs,h,hc,h1,hp=>by
  cases hp
  simp only [i5,Option.some.injEq] at h
  subst h
  exact ⟨cs,rfl,hc,rfl,h1⟩
 |(i,x)::r,l,m,cs,vs,h,hc,h1,⟨v,t,hv,hx,hr⟩=>by
  subst hv
  unfold i5 at h
  split at h
  ·rename_i off sz hpl
   split at h
   ·rename_i hu
    split at h
    ·rename_i l' e1
     obtain ⟨us,e2,e3,e4⟩:=AV.cells hx hu
     obtain ⟨⟨z1,z2⟩,z3⟩:=mc e1 hc e3
     have hlen:(cs.take off++us++cs.drop (off+sz)).length=cs.length:=by
      simp only [List.length_append,List.length_take,List.length_drop];omega
     obtain ⟨ds,g1,g2,g3,g4⟩:=ly h z3 (fun u hu=>by
      rcases List.mem_append.1 hu with hu|hu
      ·rcases List.mem_append.1 hu with hu|hu
       ·exact h1 u (List.mem_of_mem_take hu)
       ·exact e4 u hu
      ·exact h1 u (List.mem_of_mem_drop hu)) hr
     refine ⟨ds,?_,g2,g3.trans hlen,g4⟩
     unfold Instr.fill
     simp only [hpl,e2,List.size_toArray]
     rw [if_neg (by simp;omega)]
     have hf:=xy off us cs (by omega)
     rw [z2] at hf
     rw [←g1,←hf]
    ·cases h
   ·cases h
  ·cases h
theorem r_ {α:Type} (hs:∀t,bF η (ay H η) w (sl t) (a.tmps.getD t undef)):∀ {ps:List (Nat×Operand)} {k:List (Nat×AV)→R α} {r:α} {rd:List cu},(y6 ps k).run sl H ds= .ok r rd qs→∃l rd',(k l).run sl H ds= .ok r rd' qs∧SU η (ay H η) w l (ps.map fun p=>(p.1,a.eval p.2))
 | [],k,r,rd,h=>⟨[],rd,h,rfl⟩
 |(i,x)::ps,k,r,rd,h=>by
  unfold y6 at h
  obtain ⟨av,rd1,h1,hv⟩:=bc h hs
  obtain ⟨l,rd2,h2,hl⟩:=r_ hs h1
  exact ⟨_,rd2,h2,_,_,rfl,hv,hl⟩
theorem im {α:Type} (hs:∀t,bF η (ay H η) w (sl t) (a.tmps.getD t undef)):∀ {ps:List Operand} {k:List AV→R α} {r:α} {rd:List cu},(nq ps k).run sl H ds= .ok r rd qs→∃l rd',(k l).run sl H ds= .ok r rd' qs∧bp η (ay H η) w l (ps.map a.eval)
 | [],k,r,rd,h=>⟨[],rd,h,rfl⟩
 |x::ps,k,r,rd,h=>by
  unfold nq at h
  obtain ⟨av,rd1,h1,hv⟩:=bc h hs
  obtain ⟨l,rd2,h2,hl⟩:=im hs h1
  exact ⟨_,rd2,h2,_,_,rfl,hv,hl⟩
theorem p8 {A:Nat→Prop}:∀ {n:Nat} {cs:List Value},cs.length=n→(∀v∈cs,v.oneCell'=true)→aO η A w (Ev n) cs
 |0,cs,h,_=>by cases cs<;>first |rfl|cases h
 |n+1,v::cs,h,h1=>⟨[v],cs,rfl,⟨v,rfl,h1 v (by simp)⟩,p8 (by simpa using h) fun u hu=>h1 u (by simp [hu])⟩
theorem F_ (hT:a8 ty) {r:R aG}:∀ {fs:List (Nat×Nat)},(So ty fs r).run sl H ds= .ok res rd qs→(∀p∈fs,∃i d z,s9 ty p.2 i d z)∧r.run sl H ds= .ok res rd qs
 | [],h=>⟨fun p hp=>(by cases hp),h⟩
 |(o,t)::fs,h=>by
  unfold So at h
  obtain ⟨h1,h2⟩:=b8 hT h
  obtain ⟨h3,h4⟩:=F_ hT h2
  exact ⟨fun p hp=>by
   rcases List.mem_cons.1 hp with rfl|hp
   ·exact h1
   ·exact h3 p hp,h4⟩
theorem pq:∀ {fl:List Field} {fs:List (Nat×Nat)},fl.map (fun f=>(f.offset,f.type))=fs→(∀p∈fs,∃i d z,s9 ty p.2 i d z)→fl.mapM (fun f=>(Tryz.prog.info? f.type).map fun i=>(f.offset,i.size))=some (fs.map fun p=>(p.1,(ty p.2).size))
 | [],fs,h,_=>by subst h;rfl
 |f::fl,fs,h,hK=>by
  subst h
  obtain ⟨i,d,z,h1⟩:=hK (f.offset,f.type) (by simp)
  have:=pq (fl:=fl) rfl (fun p hp=>hK p (by rw [List.map_cons];exact List.mem_cons_of_mem _ hp))
  rw [List.mapM_cons,h1.info,this]
  simp [h1.size]
theorem Ar {k:Kd} {x:Cl} {z:k.T} {m:List k.T} {A:Nat→Prop} {l:List Cl} {cs:List Value} (hx:∀c,x.H η A w c→k.rp.rep z c) (hc:aO η A w (x::l) cs) (ih:∀ {cs},aO η A w l cs→aU k.rp m cs∧m.length=l.length):aU k.rp (z::m) cs∧(z::m).length=(x::l).length:=by
 obtain ⟨h,t,rfl,h1,h2⟩:=hc
 obtain ⟨i1,i2⟩:=ih h2
 exact ⟨⟨h,t,hx h h1,rfl,i1⟩,by simp [i2]⟩
theorem qB {k:Kd} {A:Nat→Prop}:∀ {l:List Cl} {m:List k.T} {cs:List Value},od k l=some m→aO η A w l cs→aU k.rp m cs∧m.length=l.length
 | [],m,cs,h,hc=>by
  simp only [od,Option.some.injEq] at h
  subst h
  exact ⟨hc,rfl⟩
 |x::r,m,cs,h,hc=>by
  unfold od at h
  cases e:od k r with
  |none=>rw [e] at h;cases h
  |some l=>
   rw [e] at h
   simp only at h
   have ih:∀ {cs:List Value},aO η A w r cs→aU k.rp l cs∧l.length=r.length:=fun hc=>qB e hc
   split at h
   all_goals first
    |(cases h;done)
    |(cases h;exact Ar (fun c hc=>hc) hc ih)
    |(cases h;exact Ar (fun c hc=>hc.1) hc ih)
theorem JD {t:Nat} {ps:Array (Nat×Operand)} (hT:a8 ty) (ho:o.op= .build t ps) (hS:eH sl H N η a w) (h:(y6 ps.toList fun l=>rW ty t l:R aG).run sl H ds= .ok res rd qs):OpDone H η w nx res o a:=by
 obtain ⟨l,rd1,h1,hv⟩:=r_ hS.slot h
 clear h
 unfold rW at h1
 obtain ⟨⟨i,d,z,hK⟩,h2⟩:=b8 hT h1
 clear h1
 have hex:∀cells,Tryz.prog.built t (ps.toList.map fun p=>(p.1,a.eval p.2))=some cells→(execOp a.eval o).run Tryz.prog w= .ok (.value (.agg cells)) w:=fun cells hb=>by
  unfold execOp
  simp only [ho]
  rw [Sem.run_bind,run_build w t _ cells (by rw [Array.toList_map];exact hb)]
  rfl
 have hz:=hK.cells η (ay H η) w
 split at h2
 ·rename_i fs ht
  obtain ⟨h3,h4⟩:=F_ hT h2
  clear h2
  obtain ⟨fl,hu,hfl⟩:=zE hT ht
  split at h4
  ·rename_i m e1
   split at h4
   ·rename_i hn
    have:=aC h4;subst this
    obtain ⟨dsl,g1,g2,g3,g4⟩:=ly e1 hz hK.one hv
    refine .inl ⟨_,_,w,η,hex dsl.toArray ?_,.inl rfl,.pure (out:= [.agg m]) hS.hpOk ⟨dsl,rfl,g2,g4⟩ trivial⟩
    unfold Program.built
    rw [hK.info,hu]
    simp only [hK.zero,pq hfl h3]
    have e:(fun x=>(fs.map fun p=>(p.1,(ty p.2).size)).toArray[x]?)=OY ty fs:=by
     funext x
     unfold OY
     rw [List.getElem?_toArray,List.getElem?_map]
     cases fs[x]?<;>rfl
    rw [e]
    simpa using g1
   ·cases h4
  ·cases h4
 ·rename_i n e ht
  obtain ⟨⟨i2,d2,z2,hK2⟩,h4⟩:=b8 hT h2
  clear h2
  have hu:=j1 hT ht
  split at h4
  ·rename_i m e1
   split at h4
   ·rename_i hn
    have hbase:aO η (ay H η) w (match (generalizing:=false) l with | []=>(ty t).zero|_=>Ev (ql (ty t).zero)) z.cells.toList:=by
     cases l with
     |nil=>exact hz
     |cons=>exact p8 hz.len hK.one
    obtain ⟨dsl,g1,g2,g3,g4⟩:=ly e1 hbase hK.one hv
    have hbl:Tryz.prog.built t (ps.toList.map fun p=>(p.1,a.eval p.2))=some dsl.toArray:=by
     unfold Program.built
     rw [hK.info,hu]
     simp only [hK.zero,hK2.info,hK2.size]
     simpa using g1
    have plain:(R.pure ⟨[.agg m],[],none,none⟩:R aG).run sl H ds= .ok res rd1 qs→OpDone H η w nx res o a:=fun h=>by
     have:=aC h;subst this
     exact .inl ⟨_,_,w,η,hex dsl.toArray hbl,.inl rfl,.pure (out:= [.agg m]) hS.hpOk ⟨dsl,rfl,g2,g4⟩ trivial⟩
    split at h4
    ·rename_i k hk
     split at h4
     ·rename_i ms e3
      have:=aC h4;subst this
      obtain ⟨r1,r2⟩:=qB e3 g2
      exact .inl ⟨_,_,w,η,hex dsl.toArray hbl,.inl rfl,.pure (out:= [.agg [.vec k ms.length ms]]) hS.hpOk ⟨dsl,rfl,⟨dsl,[],by simp,⟨rfl,r1⟩,rfl⟩,g4⟩ trivial⟩
     ·exact plain h4
    ·exact plain h4
   ·cases h4
  ·cases h4
 ·cases h2
theorem NX {k:Kd} {l:List Cl} {m:List k.T} (h:od k l=some m) (hl:l≠ []):k.n=1:=by
 cases l with
 |nil=>exact absurd rfl hl
 |cons x r=>
  unfold od at h
  cases e:od k r with
  |none=>rw [e] at h;cases h
  |some l=>
   rw [e] at h
   simp only at h
   split at h<;>first |(cases h;done)|rfl
theorem qv {t len:Nat} {ps:Array (Nat×Operand)} (hT:a8 ty) (ho:o.op= .buildSlice t len ps) (hS:eH sl H N η a w) (hfree:∀b,nx≤b→b<nx+16→η b=none) (h:(y6 ps.toList fun l=>fR ty nx t len l:R aG).run sl H ds= .ok res rd qs):OpDone H η w nx res o a:=by
 obtain ⟨l,rd1,h1,hv⟩:=r_ hS.slot h
 clear h
 unfold fR at h1
 split at h1
 ·rename_i e ht
  have hu:=cZ hT ht
  obtain ⟨⟨i,d,z,hK⟩,h2⟩:=b8 hT h1
  clear h1
  split at h2
  ·rename_i hl0
   have hl0:=aL hl0
   subst hl0
   split at h2
   ·rename_i k hk
    obtain ⟨hn,rfl⟩:=ft h2
    have hps:ps.toList= []:=by
     have:(ps.toList.map fun p=>(p.1,a.eval p.2))= []:=hv
     simpa using this
    have hps:ps= #[]:=by rw [←Array.toArray_toList (xs:=ps),hps]
    have hrun:(Instr.buildSlice t 0 (ps.map fun p=>(p.1,a.eval p.2))).run Tryz.prog w= .ok (.slice (some ⟨w.heap.size,0,none⟩) 0 0) (w.alloc (.cells #[] e)):=by
     subst hps
     have hz:∀f:Nat→Value,Array.map f (Array.range 0)= #[]:=fun f=>Array.eq_empty_of_size_eq_zero (by simp)
     simp [Instr.buildSlice,run_underlying hu,Go.sizeOf,typeInfo,hK.info,Instr.fill,newRow,hz]
    have hbel:Below w.heap.size w (w.alloc (.cells #[] e)):=(Below.refl _ _).alloc (Nat.le_refl _) _
    obtain ⟨η',hR⟩:=bj.new (nx:=nx) (ref:= .slice (some ⟨w.heap.size,0,none⟩) 0 0) (c:= .row e k []) (out:= [.one (.rw nx)]) (v:= .slice (some ⟨w.heap.size,0,none⟩) 0 0) (pre:=none) hS.hpOk hn hfree hbel (fun g hg=>by cases hg;exact Nat.le_refl _)
     (fun η' A' he hA hnx=>⟨⟨_,[],hnx,rfl,by simp,.inr ⟨w.heap.size,0,#[],rfl,Nat.zero_le _,heap_alloc_new w _,Nat.le_refl _,by simp,by simp,by simp⟩⟩,_,hnx,rfl,rfl⟩)
    refine .inl ⟨_,_,_,η',?_,.inl rfl,hR⟩
    unfold execOp
    simp only [ho]
    rw [Sem.run_bind,hrun]
    rfl
   ·cases h2
  split at h2
  ·rename_i m e1 g1 g2
   have g1:=bU g1
   have g2:=bU g2
   let base:List Value:=((Array.range (len*i.size)).map (z.cells[· %z.cells.size]!)).toList
   have hbl:base.length=len*(ty e).size:=by simp [base,hK.size]
   have hpos:0<z.cells.size:=by
    rw [hK.zs]
    rcases Nat.eq_zero_or_pos (ty e).size with h0|h0
    ·rw [h0] at g2;omega
    ·exact h0
   have hbo:∀v∈base,v.oneCell'=true:=fun v hv=>by
    simp only [base,Array.toList_map,List.mem_map] at hv
    obtain ⟨j,_,rfl⟩:=hv
    have hj:j%z.cells.size<z.cells.size:=Nat.mod_lt _ hpos
    rw [getElem!_pos z.cells _ hj]
    exact hK.one _ (Array.getElem_mem_toList hj)
   obtain ⟨dsl,q1,q2,q3,q4⟩:=ly e1 (p8 hbl hbo) hbo hv
   have hrun:=run_buildSlice (P:=Tryz.prog) w t e len (ps.map fun p=>(p.1,a.eval p.2)) dsl.toArray i z hu hK.info hK.zero (by rw [hK.size];omega) (by rw [hK.size];omega) (by rw [Array.toList_map,←q1,hK.size];simp only [base,hK.size,Array.toArray_toList])
   have hex:(execOp a.eval o).run Tryz.prog w= .ok (.value (.slice (some ⟨w.heap.size,0,none⟩) len len)) (w.alloc (.cells dsl.toArray e)):=by
    unfold execOp
    simp only [ho]
    rw [Sem.run_bind,hrun]
    rfl
   have hbel:Below w.heap.size w (w.alloc (.cells dsl.toArray e)):=(Below.refl _ _).alloc (Nat.le_refl _) _
   have hlt:∀(η':aY) (A':Nat→Prop),(∀b u,η b=some u→η' b=some u)→(∀g,g<w.heap.size→ay H η g→A' g)→Lt η (ay H η) w η' A' (w.alloc (.cells dsl.toArray e)):=fun η' A' he hA=>⟨he,fun g hg ha=>⟨Below.heap_alloc _ _ _ hg,hA g hg ha⟩⟩
   split at h2
   ·rename_i k hk
    split at h2
    ·rename_i ms e2
     obtain ⟨hn,rfl⟩:=ft h2
     have hti:=AK hk
     obtain ⟨r1,r2⟩:=qB e2 q2
     have hne:m≠ []:=by rintro rfl;have:=q2.len;simp only [ql] at this;omega
     have hkn:=NX e2 hne
     have hs1:(ty e).size=1:=by rw [hK.ks k hti,hkn]
     have hml:ms.length=len:=by have:=b5 hkn r1;rw [hs1] at hbl;omega
     obtain ⟨η',hR⟩:=bj.new (nx:=nx) (ref:= .slice (some ⟨w.heap.size,0,none⟩) len len) (c:= .row e k ms) (out:= [.one (.rw nx)]) (v:= .slice (some ⟨w.heap.size,0,none⟩) len len) (pre:=none) hS.hpOk hn hfree hbel (fun g hg=>by cases hg;exact Nat.le_refl _)
      (fun η' A' he hA hnx=>⟨⟨_,_,hnx,r1,by
       rw [hkn,hml]
       exact ⟨by rw [hs1] at hbl;omega,.inr ⟨w.heap.size,len,dsl.toArray,rfl,Nat.zero_le _,heap_alloc_new w _,Nat.le_refl _,by rw [hs1] at g1;simp only [maxLen];omega,by rw [hs1] at hbl;simp;omega,List.take_of_length_le (by rw [hs1] at hbl;simp;omega)⟩⟩⟩,_,hnx,rfl,rfl⟩)
     exact .inl ⟨_,_,_,η',hex,.inl rfl,hR⟩
    ·cases h2
   ·split at h2
    ·obtain ⟨hn,rfl⟩:=ft h2
     obtain ⟨η',hR⟩:=bj.new (nx:=nx) (ref:= .pointer (some ⟨w.heap.size,0,none⟩)) (c:= .blk e m) (out:= [.one (.sl nx 0 len len)]) (v:= .slice (some ⟨w.heap.size,0,none⟩) len len) (pre:=none) hS.hpOk hn hfree hbel (fun g hg=>by cases hg;exact Nat.le_refl _)
      (fun η' A' he hA hnx=>⟨⟨_,dsl,hnx,rQ e dsl,q2.later (hlt η' A' he hA),q4⟩,Nat.le_refl _,_,hnx,rfl⟩)
     exact .inl ⟨_,_,_,η',hex,.inl rfl,hR⟩
    ·cases h2
  ·cases h2
 ·cases h1
end
theorem l_ {k q:Kd} {m:List q.T} {r:List k.T} (h:tF k q m=some r):k.n=1∧r.length=m.length∧∀ {cs:List Value},aU q.rp m cs→aU k.rp r cs:=by
 cases k<;>cases q<;>simp only [tF,Option.some.injEq,reduceCtorEq] at h
 all_goals
  subst h
  exact ⟨rfl,rfl,fun h=>h⟩
theorem vg {E g n cap:Nat}:∀(us:List Value) (o:Nat) (w:World) (cs:List Value),w.ownsRow 0 E 1 (.slice (some ⟨g,0,none⟩) n cap) n cs→o+us.length≤cs.length→(w.setCells g o us).ownsRow 0 E 1 (.slice (some ⟨g,0,none⟩) n cap) n (cs.take o++us++cs.drop (o+us.length))
 | [],o,w,cs,h,_=>by simpa [World.setCells] using h
 |v::r,o,w,cs,h,hl=>by
  simp only [List.length_cons] at hl
  have h2:=vg r (o+1) _ _ (h.stored o v).1 (by rw [List.length_set];omega)
  have e:(cs.set o v).take (o+1)++r++(cs.set o v).drop (o+1+r.length)=cs.take o++(v::r)++cs.drop (o+(v::r).length):=by
   rw [List.take_set,List.drop_set_of_lt (by omega),List.take_add_one,List.getElem?_eq_getElem (by omega)]
   simp only [Option.toList_some,List.length_cons]
   rw [List.set_append_right _ _ (by rw [List.length_take];omega),List.length_take,Nat.min_eq_left (by omega),Nat.sub_self]
   simp [Nat.add_assoc,Nat.add_comm 1]
  rw [e] at h2
  exact h2
section
variable {ty:Nat→TE} {sl:Nat→List AV} {H:Nat→Option Ch} {η:aY} {w:World} {nx N:Nat} {a:Act} {o:Oper} {ds:List Bool} {res:aG} {rd:List cu} {qs:List (Bool×Bool)}
theorem bj.setV {b:Nat} {c':Ch} {w':World} (h:bj H η w nx ⟨[],[(b,some c')],none,none⟩ undef w' η) (k:Int):bj H η w nx ⟨[.one (.ob .int k)],[(b,some c')],none,none⟩ (.int .i64 k) w' η:=
 ⟨rfl,h.hp,h.fw,h.env,h.fact⟩
theorem tP {t e:Nat} {i:TypeInfo} (hu:Tryz.prog.underlying t=some (.slice e)) (hi:Tryz.prog.info? e=some i) (hs:i.size=1) (hH:bX H η w) {b f:Nat} {p:Kd} {l m:List p.T} (hp1:p.n=1) (hb:H b=some (.row f p l)) {v:Value} (hv:η b=some v)
  {da:Option Addr} {lo n c:Nat} (hd:0<n→∃g N C,v= .slice (some ⟨g,0,none⟩) N C∧da=some ⟨g,lo,none⟩∧lo+n≤N) {ad:Option Addr} {c2:Nat} {news:List Value} (hm:aU p.rp m news) (hsrc:0<m.length→∃x,ad=some x∧∀j u,news[j]?=some u→w.cell? (x.add j)=some u) {ty':Nat}
  (hex:∀u w',(Builtin.copy_ #[t,t] ty' #[.slice da n c,.slice ad m.length c2]).run Tryz.prog w= .ok u w'→(execOp a.eval o).run Tryz.prog w= .ok (.value u) w'):
  OpDone H η w nx ⟨[.one (.ob .int ((min n m.length:Nat):Int))],[(b,some (.row f p (l.take lo++m.take n++l.drop (lo+min n m.length))))],none,none⟩ o a:=by
 have hs':(Tryz.prog.info? e).map (·.size)=some 1:=by rw [hi];simp [hs]
 obtain ⟨v',cs,y1,y2,y3⟩:=hH.chunk b _ hb
 rw [hv] at y1;cases y1
 rcases Nat.eq_zero_or_pos (min n m.length) with hk|hk
 ·have hrun:=run_copy_none (P:=Tryz.prog) w t t ty' e da ad n c m.length c2 hu hs' (by rw [Nat.min_comm] at hk;exact hk)
  have hl:l.take lo++m.take n++l.drop (lo+min n m.length)=l:=by
   have:m.take n= []:=List.eq_nil_of_length_eq_zero (by rw [List.length_take];exact hk)
   rw [this,hk];simp
  rw [hl,hk]
  have hfp:∃g,True∧((bf η b=some g)∨bf η b=none):=by
   cases e:bf η b with
   |none=>exact ⟨0,trivial,.inr rfl⟩
   |some g=>exact ⟨g,trivial,.inl rfl⟩
  refine .inl ⟨_,_,w,η,hex _ _ hrun,.inl rfl,?_⟩
  have hupd:bi [(b,some (.row f p l))] H=H:=by
   funext x
   show (if x=b then some (Ch.row f p l) else H x)=H x
   split
   ·rename_i h;rw [h,hb]
   ·rfl
  refine ⟨rfl,?_,?_,fun _ _=>rfl,trivial⟩
  ·rw [hupd];exact hH
  ·rw [hupd];exact Fw.refl _ _ _
 ·obtain ⟨g,N,C,rfl,rfl,hN⟩:=hd (by omega)
  obtain ⟨x,rfl,hx⟩:=hsrc (by omega)
  rw [hp1] at y3
  have hNl:N=l.length:=by
   rcases y3.2 with ⟨h,_⟩|⟨g',cap,cur,h,_⟩
   ·cases h
   ·cases h;rfl
  subst hNl
  have hcl:cs.length=l.length:=b5 hp1 y2
  have hnl:news.length=m.length:=b5 hp1 hm
  let us:=news.take (min n m.length)
  have hus:us.length=min n m.length:=by simp only [us,List.length_take];omega
  have hrun:=run_copy_cells (P:=Tryz.prog) w t t ty' e g lo n c x m.length c2 us hu hs' (by rw [hus];exact Nat.min_comm _ _) (fun j u hj=>hx j u (by
    simp only [us,List.getElem?_take] at hj
    split at hj
    ·exact hj
    ·cases hj))
   (fun j hj=>by rw [y3.cellAt (lo+j) (by omega),List.getElem?_eq_getElem (by omega)];rfl) (fun j hj=>y3.frozenAt _) (fun u hu=>hm.one u (List.mem_of_mem_take hu))
  have hown:=vg us lo w cs y3 (by omega)
  have hlims:aU p.rp (l.take lo++m.take n++l.drop (lo+min n m.length)) (cs.take lo++us++cs.drop (lo+us.length)):=by
   have h1:=y2.take lo
   have h2:=hm.take n
   have h3:=y2.drop (lo+min n m.length)
   rw [Kd.rp_n,hp1,Nat.one_mul] at h1 h2 h3
   have:us=news.take n:=by
    simp only [us]
    rcases Nat.le_total n m.length with h|h
    ·rw [Nat.min_eq_left h]
    ·rw [Nat.min_eq_right h,List.take_of_length_le (by omega),List.take_of_length_le (by omega)]
   rw [hus,this]
   exact (h1.app h2).app h3
  have hfp:bf η b=some g:=by unfold bf;rw [hv];rfl
  have hlen:(l.take lo++m.take n++l.drop (lo+min n m.length)).length=l.length:=by
   simp only [List.length_append,List.length_take,List.length_drop];omega
  refine .inl ⟨_,_,_,η,hex _ _ hrun,.inl rfl,?_⟩
  have:=bj.setV (bj.set (nx:=nx) (pre:=none) (c':= .row f p (l.take lo++m.take n++l.drop (lo+min n m.length))) hH hb hfp (w':=w.setCells g lo us) (aS (Nat.zero_le _) _ _ _ (Below.refl 0 w)).os (aS (Nat.zero_le _) _ _ _ (Below.refl 0 w)).tape (aS (Nat.zero_le _) _ _ _ (Below.refl 0 w)).output (dB _ _ _ _).symm (fun x hx=>dw _ _ _ _ _ hx)
   fun A' hA hL=>⟨_,_,hv,hlims,by rw [hp1,hlen];exact hown⟩) ((min n m.length:Nat):Int)
  rw [←hus] at this ⊢
  exact this
theorem EM {t e:Nat} {i:TypeInfo} (hu:Tryz.prog.underlying t=some (.slice e)) (hi:Tryz.prog.info? e=some i) (hs:i.size=1) (hH:bX H η w) {b E g N:Nat} {p:Kd} {l m:List p.T} (hp1:p.n=1) (hb:H b=some (.blk E [.vec p N l])) (hg:η b=some (.pointer (some ⟨g,0,none⟩)))
  {lo n c:Nat} (hle:lo+n≤N) {ad:Option Addr} {c2:Nat} {news:List Value} (hm:aU p.rp m news) (hsrc:0<m.length→∃x,ad=some x∧∀j u,news[j]?=some u→w.cell? (x.add j)=some u) {ty':Nat}
  (hex:∀u w',(Builtin.copy_ #[t,t] ty' #[.slice (some ⟨g,lo,none⟩) n c,.slice ad m.length c2]).run Tryz.prog w= .ok u w'→(execOp a.eval o).run Tryz.prog w= .ok (.value u) w'):
  OpDone H η w nx ⟨[.one (.ob .int ((min n m.length:Nat):Int))],[(b,some (.blk E [.vec p N (l.take lo++m.take n++l.drop (lo+min n m.length))]))],none,none⟩ o a:=by
 have hs':(Tryz.prog.info? e).map (·.size)=some 1:=by rw [hi];simp [hs]
 obtain ⟨cs0,hB,hc0,h1c⟩:=dh hH hb hg
 obtain ⟨cs,c2',rfl,⟨z3,z4⟩,rfl⟩:=hc0
 rw [List.append_nil] at hB h1c
 have hcl:cs.length=l.length:=b5 hp1 z4
 have hnl:news.length=m.length:=b5 hp1 hm
 let us:=news.take (min n m.length)
 have hus:us.length=min n m.length:=by simp only [us,List.length_take];omega
 have hrun:(Builtin.copy_ #[t,t] ty' #[.slice (some ⟨g,lo,none⟩) n c,.slice ad m.length c2]).run Tryz.prog w= .ok (.int .i64 ((min n m.length:Nat):Int)) (w.setCells g lo us):=by
  rcases Nat.eq_zero_or_pos (min n m.length) with hk|hk
  ·have h0:us= []:=List.eq_nil_of_length_eq_zero (by omega)
   rw [h0,hk]
   exact run_copy_none (P:=Tryz.prog) w t t ty' e (some ⟨g,lo,none⟩) ad n c m.length c2 hu hs' (by rw [Nat.min_comm] at hk;exact hk)
  ·obtain ⟨x,rfl,hx⟩:=hsrc (by omega)
   have:=run_copy_cells (P:=Tryz.prog) w t t ty' e g lo n c x m.length c2 us hu hs' (by rw [hus];exact Nat.min_comm _ _) (fun j u hj=>hx j u (by
     simp only [us,List.getElem?_take] at hj
     split at hj
     ·exact hj
     ·cases hj))
    (fun j hj=>(hB.there (o:=lo) (n:=us.length) (by omega) j hj).1) (fun j hj=>(hB.there (o:=lo) (n:=us.length) (by omega) j hj).2) (fun u hu=>hm.one u (List.mem_of_mem_take hu))
   rw [hus] at this
   exact this
 have hBn:=l8 us lo w cs hB (by omega)
 have hlims:aU p.rp (l.take lo++m.take n++l.drop (lo+min n m.length)) (cs.take lo++us++cs.drop (lo+us.length)):=by
  have h1:=z4.take lo
  have h2:=hm.take n
  have h3:=z4.drop (lo+min n m.length)
  rw [Kd.rp_n,hp1,Nat.one_mul] at h1 h2 h3
  have:us=news.take n:=by
   simp only [us]
   rcases Nat.le_total n m.length with h|h
   ·rw [Nat.min_eq_left h]
   ·rw [Nat.min_eq_right h,List.take_of_length_le (by omega),List.take_of_length_le (by omega)]
  rw [hus,this]
  exact (h1.app h2).app h3
 have hlen:(l.take lo++m.take n++l.drop (lo+min n m.length)).length=N:=by
  simp only [List.length_append,List.length_take,List.length_drop];omega
 have hfp:bf η b=some g:=by unfold bf;rw [hg];rfl
 refine .inl ⟨_,_,_,η,hex _ _ hrun,.inl rfl,?_⟩
 exact bj.setV (bj.set (nx:=nx) (pre:=none) (c':= .blk E [.vec p N (l.take lo++m.take n++l.drop (lo+min n m.length))]) hH hb hfp (w':=w.setCells g lo us) (aS (Nat.zero_le _) _ _ _ (Below.refl 0 w)).os (aS (Nat.zero_le _) _ _ _ (Below.refl 0 w)).tape (aS (Nat.zero_le _) _ _ _ (Below.refl 0 w)).output (dB _ _ _ _).symm (fun x hx=>dw _ _ _ _ _ hx)
  fun A' hA hL=>⟨g,_,hg,hBn,⟨_,[],(List.append_nil _).symm,⟨hlen,hlims⟩,rfl⟩,hlims.one⟩) ((min n m.length:Nat):Int)
theorem Jy {t:Nat} {d x:AV} {vd vx:Value} (hT:a8 ty) (hH:bX H η w) (hd:d.H η (ay H η) w vd) (hx:x.H η (ay H η) w vx) {ty':Nat}
  (hex:∀u w',(Builtin.copy_ #[t,t] ty' #[vd,vx]).run Tryz.prog w= .ok u w'→(execOp a.eval o).run Tryz.prog w= .ok (.value u) w') (h:(yY ty t d x).run sl H ds= .ok res rd qs):OpDone H η w nx res o a:=by
 unfold yY at h
 split at h
 ·rename_i e ht
  have hu:=cZ hT ht
  obtain ⟨⟨i,dd,z,hK⟩,h1⟩:=b8 hT h
  clear h
  split at h1
  ·cases h1
  ·rename_i h2
   have hs1:=aL h2
   obtain ⟨y,rd',h3,hy⟩:=lX h1 hH hx
   clear h1
   split at h3
   ·rename_i q m
    have hro:eG (fun _=>True) w q m vx:=by
     rcases hy with rfl|⟨q',l',e1,e2⟩
     ·obtain ⟨u,hu1,hu2⟩:=hx
      rw [ai hu1]
      obtain ⟨ad,c,g1,g2,g3,g4,g5⟩:=hu2
      exact ⟨ad,c,g1,g2,g3,g4,fun hn=>by obtain ⟨g,o,cs,e1,_,e2⟩:=g5 hn;exact ⟨g,o,cs,e1,trivial,e2⟩⟩
     ·cases e1;exact e2
    obtain ⟨ad,c,rfl,g2,g3,g4,g5⟩:=hro
    obtain ⟨news,n1,n2⟩:∃news,aU q.rp m news∧(0<m.length→∃x,ad=some x∧∀j u,news[j]?=some u→w.cell? (x.add j)=some u):=by
     by_cases hm:0<m.length
     ·obtain ⟨g,p,cs,rfl,_,e1,e2⟩:=g5 hm
      refine ⟨cs,e1,fun _=>⟨_,rfl,fun j u hu=> ?_⟩⟩
      rw [Addr.add_lit]
      exact e2 j u hu
     ·have:m= []:=List.eq_nil_of_length_eq_zero (by omega)
      subst this
      exact ⟨[],rfl,fun h=>absurd h (by simp)⟩
    split at h3
    ·rename_i b
     obtain ⟨_,h4⟩:=bl h3
     split at h4
     ·rename_i f p l hb
      split at h4
      ·rename_i m' hc
       have:=aC h4
       subst this
       obtain ⟨c1,c2,c3⟩:=l_ hc
       obtain ⟨u,hu1,hu2,_⟩:=hd
       rw [ai hu2] at hex
       obtain ⟨u',cs,y1,y2,y3⟩:=hH.chunk b _ hb
       rw [hu1] at y1;cases y1
       obtain ⟨da,C,e1,e2⟩:=pD hH hb hu1
       rw [e1,←c2] at hex
       have hcp:=tP (nx:=nx) (a:=a) (o:=o) hu hK.info (hK.size.trans hs1) hH c1 hb hu1 (da:=da) (lo:=0) (n:=l.length) (c:=C) (fun hn=>by
        rcases gX y2 y3 with ⟨r1,r2⟩|⟨g,cp,r1,r2,r3,_⟩
        ·subst r2;simp at hn
        ·rw [r1] at e1;cases e1;exact ⟨g,l.length,_,r1,rfl,by omega⟩) (c3 n1) (by rw [c2];exact n2) hex
       have e3:l.take 0++m'.take l.length++l.drop (0+min l.length m'.length)=m'.take l.length++l.drop m'.length:=by
        rw [List.take_zero,List.nil_append,Nat.zero_add]
        rcases Nat.le_total l.length m'.length with h|h
        ·rw [Nat.min_eq_left h,List.drop_of_length_le (Nat.le_refl _),List.drop_of_length_le h]
        ·rw [Nat.min_eq_right h]
       rw [e3] at hcp
       exact hcp
      ·cases h4
     ·cases h4
    ·rename_i b lo n
     obtain ⟨_,h4⟩:=bl h3
     split at h4
     ·rename_i f p l hb
      split at h4
      ·rename_i m' hc
       have:=aC h4
       subst this
       obtain ⟨c1,c2,c3⟩:=l_ hc
       obtain ⟨v,da,C,hv,e1,_,_,_,hn⟩:=hd
       rw [ai e1,←c2] at hex
       exact tP hu hK.info (hK.size.trans hs1) hH c1 hb hv hn (c3 n1) (by rw [c2];exact n2) hex
      ·cases h4
     ·cases h4
    ·rename_i b lo n cp
     obtain ⟨_,h4⟩:=bl h3
     split at h4
     ·rename_i E l0 hb
      split at h4
      ·rename_i p N l
       split at h4
       ·rename_i m' hc hle
        have hle:=bU hle
        have:=aC h4
        subst this
        obtain ⟨c1,c2,c3⟩:=l_ hc
        obtain ⟨_,g,hg,e1⟩:=hd
        rw [ai e1,←c2] at hex
        exact EM hu hK.info (hK.size.trans hs1) hH c1 hb hg hle (c3 n1) (by rw [c2];exact n2) hex
       ·cases h4
      ·cases h4
     ·cases h4
    ·cases h3
   ·cases h3
 ·cases h
end
theorem IA {z:Value} (h:z.cells= #[.int .u8 0]) (k:Nat):Builtin.zeroCells z.cells k=((List.replicate k (0:UInt8)).map bV).toArray:=by
 rw [h]
 apply Array.ext
 ·simp [Builtin.zeroCells]
 ·intro i h1 h2
  simp [Builtin.zeroCells,bV,Nat.mod_one]
theorem Cv (l:List UInt8):∀u∈l.map bV,u.oneCell'=true:=fun u hu=>by
 rw [List.mem_map] at hu
 obtain ⟨c,_,rfl⟩:=hu
 rfl
section
variable {ty:Nat→TE} {sl:Nat→List AV} {H:Nat→Option Ch} {η:aY} {w:World} {nx N:Nat} {a:Act} {o:Oper} {ds:List Bool} {res:aG} {rd:List cu} {qs:List (Bool×Bool)}
theorem I6 {t tn e:Nat} {i:TypeInfo} {z:Value} (ht:Tryz.prog.underlying t=some (.slice e)) (htn:Tryz.prog.underlying tn=some (.int .i64)) (hi:Tryz.prog.info? e=some i) (hz:i.zero=some z) (hs:i.size=1) (hzc:z.cells= #[.int .u8 0]) (hby:i.bytes≤4096) {ty':Nat}
  {v:Value} {n k:Nat} {l:List UInt8} (hown:w.ownsRow 0 e 1 v n (l.map bV)) (hb:n+k≤16777216):
  ∃v' w',(Builtin.append_ #[t,tn] ty' #[v,.int .i64 (k:Int)]).run Tryz.prog w= .ok v' w'∧w'.ownsRow 0 e 1 v' (n+k) ((l++List.replicate k 0).map bV)∧w.grownBy w' v.ownBlock∧∀g,qL v'=some g→qL v=some g∨w.heap.size≤g:=by
 have hl:l.length=n:=by have:=hown.1;simpa using this
 have hw:IntKind.i64.wrap (k:Int)=k:=by rw [IntKind.wrap_i64];omega
 have hneg:¬((k:Int)<0):=by omega
 have hw0:IntKind.i64.wrap 0=0:=by rw [IntKind.wrap_i64];rfl
 have hbk:(n+k)*i.bytes≤140737488355328:=Nat.le_trans (Nat.mul_le_mul hb hby) (by decide)
 have hbk2:k*i.bytes≤(n+k)*i.bytes:=Nat.mul_le_mul_right _ (by omega)
 have h48i:¬(281474976710656<(k:Int)*(i.bytes:Int)):=by rw [←Int.natCast_mul];omega
 have hzs:z.cells.size=1:=by rw [hzc];rfl
 have grown:∀(old:Nat),old<n+k→
   (w.drew.alloc (.cells ((l.map bV).toArray++Builtin.zeroCells z.cells k++Builtin.zeroCells z.cells (grownCap w (n+k) old e-(n+k))) e)).ownsRow 0 e 1
    (.slice (some ⟨w.heap.size,0,none⟩) (n+k) (grownCap w (n+k) old e)) (n+k) ((l++List.replicate k 0).map bV)∧
   w.grownBy (w.drew.alloc (.cells ((l.map bV).toArray++Builtin.zeroCells z.cells k++Builtin.zeroCells z.cells (grownCap w (n+k) old e-(n+k))) e)) v.ownBlock:=by
  intro old ho
  have hge:=grownCap_ge w (n+k) old e
  have hcm:grownCap w (n+k) old e≤maxLen:=grownCap_le_maxLen w (n+k) old e (by unfold maxLen;omega)
  refine ⟨⟨by simp [hl],.inr ⟨w.heap.size,_,_,rfl,Nat.zero_le _,heap_alloc_new w.drew _,hge,hcm,?_,?_⟩⟩,⟨rfl,rfl,rfl,by simp,fun j hj _=>heap_alloc_old w.drew _ hj⟩⟩
  ·simp only [Array.size_append,List.size_toArray,size_zeroCells,List.length_map,hl,hzs]
   omega
  ·rw [IA hzc,IA hzc]
   simp only [Array.toList_append,List.map_append]
   rw [List.take_left' (by simp [hl])]
 have noroom:∀(bs:Option Addr) (c:Nat),v= .slice bs n c→0<k→c<n+k→(Builtin.firstCells i.size n (.slice bs n c)).run Tryz.prog w.drew= .ok (l.map bV).toArray w.drew→
   ∃v' w',(Builtin.append_ #[t,tn] ty' #[v,.int .i64 (k:Int)]).run Tryz.prog w= .ok v' w'∧w'.ownsRow 0 e 1 v' (n+k) ((l++List.replicate k 0).map bV)∧w.grownBy w' v.ownBlock∧∀g,qL v'=some g→qL v=some g∨w.heap.size≤g:=by
  intro bs c hv hk hc hf
  have hr:=Lib.run_append_grow_zeros w t tn ty' e i z .i64 .i64 ht htn hi hz bs n c (l.map bV) hf k hk (by omega) hc (by omega) (by omega) (growslice_fits (by omega) hbk)
  obtain ⟨g1,g2⟩:=grown c hc
  rw [hv] at g2 ⊢
  exact ⟨_,_,hr,g1,g2,fun g hg=> .inr (by cases hg;exact Nat.le_refl _)⟩
 rcases hown.2 with ⟨rfl,rfl⟩|⟨g,cap,cur,rfl,hbg,hg,hnc,hcm,hcs,htake⟩
 ·obtain rfl:l= []:=List.eq_nil_of_length_eq_zero hl
  by_cases hk:k=0
  ·subst hk
   refine ⟨.slice none 0 0,w,?_,World.ownsRow_nil _ _ _ _,⟨rfl,rfl,rfl,Nat.le_refl _,fun _ _ _=>rfl⟩,fun g hg=> .inl hg⟩
   simp [Builtin.append_,run_underlying ht,run_underlying htn,sizeOf,typeInfo,hi,hs,asInt,asIntOf,hw0]
  ·exact noroom none 0 rfl (by omega) (by omega) (run_firstCells_none _ _ _ _ _)
 ·by_cases hroom:n+k≤cap
  ·refine ⟨.slice (some ⟨g,0,none⟩) (n+k) cap,w.setRow g (cur.toList.take n++(List.replicate k (0:UInt8)).map bV++cur.toList.drop (n+k)).toArray,?_,⟨by simp [hl],.inr ⟨g,cap,_,rfl,hbg,setRow_heap w g cur _ e _ hg,hroom,hcm,?_,?_⟩⟩,⟨rfl,rfl,rfl,by simp,fun j _ hj=>setRow_other w g j _ (fun e=>hj (by simp [Value.ownBlock,e]))⟩,fun g' hg'=> .inl hg'⟩
   ·by_cases hk:k=0
    ·subst hk
     have:w.setRow g (cur.toList.take n++(List.replicate 0 (0:UInt8)).map bV++cur.toList.drop (n+0)).toArray=w:=by
      simp only [List.replicate_zero,List.map_nil,List.append_nil,Nat.add_zero,List.take_append_drop,Array.toArray_toList]
      exact setRow_self w g cur e (0,0) hg
     rw [this]
     simp [Builtin.append_,run_underlying ht,run_underlying htn,sizeOf,typeInfo,hi,hs,asInt,asIntOf,hw0,hnc,storeCells]
    ·have hst:=run_storeCells_at Tryz.prog g n e ((List.replicate k (0:UInt8)).map bV) 0 cur w hg (by simp;omega) (Cv _)
     simp only [Nat.add_zero,List.length_map,List.length_replicate] at hst
     have hns:¬(k=0):=hk
     simp [Builtin.append_,run_underlying ht,run_underlying htn,sizeOf,typeInfo,zeroValue,hi,hz,hs,asInt,asIntOf,hw,hneg,hns,h48i,hroom,IA hzc]
     rw [Addr.add_lit,Nat.zero_add]
     simp only [List.map_replicate] at hst
     rw [hst]
     simp
   ·simp only [List.size_toArray,List.length_append,List.length_take,List.length_drop,Array.length_toList,List.length_map,List.length_replicate]
    omega
   ·rw [show (n*1)=n from Nat.mul_one n] at htake
    rw [htake,←List.map_append,List.take_left' (by simp [hl])]
  ·have holds:∀j u,(l.map bV)[j]?=some u→w.cell? ((⟨g,0,none⟩:Addr).add j)=some u:=hown.cells (g:=g) rfl
   exact noroom (some ⟨g,0,none⟩) cap rfl (by omega) (by omega) (run_firstCells_some _ _ _ _ _ _ _ (by rw [List.length_map,hl,hs];omega) holds)
theorem I7 {t tn:Nat} {s x:AV} {vs vx:Value} (hT:a8 ty) (hH:bX H η w) (hfree:∀b,nx≤b→b<nx+16→η b=none) (hs:s.H η (ay H η) w vs) (hx:x.H η (ay H η) w vx)
  (hex:∀u w',(Builtin.append_ #[t,tn] o.type #[vs,vx]).run Tryz.prog w= .ok u w'→(execOp a.eval o).run Tryz.prog w= .ok (.value u) w') (h:(yV ty nx t tn s x).run sl H ds= .ok res rd qs) (hp:aW res.pre):OpDone H η w nx res o a:=by
 unfold yV at h
 split at h
 ·rename_i e ht htn
  have hu:=cZ hT ht
  obtain ⟨i',d',z',hK'⟩:=v9 hT htn
  have hd':=hK'.desc
  rw [htn] at hd'
  have hun:=hK'.und
  rw [show d'= .int .i64 from hd'] at hun
  obtain ⟨⟨i,d,z'',hK⟩,h1⟩:=b8 hT h
  clear h
  split at h1
  ·cases h1
  ·rename_i h2
   have hs1:=aL h2
   have key:∀ {b n:Nat} {z:Option Int} {rd':List cu},mY (ty e)=some .u8→(aW (match z with |none=>none|some z=>some (0≤z))→vx= .int .i64 (n:Int))→AV.H η (ay H η) w (.one (.rw b)) vs→(Ns nx e b n z).run sl H ds= .ok res rd' qs→OpDone H η w nx res o a:=by
    intro b n z rd' hk hxv hs h1
    have hti:(ty e).ti= .k .u8:=by
     unfold mY at hk
     split at hk
     ·rename_i k' e2;cases hk;exact e2
     ·cases hk
    have hkz:z''.cells.toList= [bV 0]:=hK.kz .u8 hti
    have hzc:z''.cells= #[.int .u8 0]:=by
     apply Array.ext'
     rw [hkz];rfl
    obtain ⟨_,h4⟩:=bl h1
    split at h4
    ·rename_i f l hb
     split at h4
     ·rename_i hef
      have hef:=aL hef
      subst hef
      obtain ⟨_,h5⟩:=bl h4
      split at h5
      ·rename_i hnn
       have:=aC h5
       subst this
       have hp2:(l++List.replicate n (0:UInt8)).length≤16777216∧vx= .int .i64 (n:Int):=by
        cases z with
        |none=>exact ⟨hp,hxv trivial⟩
        |some z=>exact ⟨And.right hp,hxv (And.left hp)⟩
       obtain ⟨hp2,hxv⟩:=hp2
       obtain ⟨u,hu1,hu2,_⟩:=hs
       rw [ai hu2,hxv] at hex
       obtain ⟨u',cs,y1,y2,y3⟩:=hH.chunk b _ hb
       rw [hu1] at y1;cases y1
       have hcs:=lF.1 y2
       subst hcs
       simp only [List.length_append,List.length_replicate] at hp2
       obtain ⟨v',w',r1,r2,r3,r4⟩:=I6 (v:=u) (n:=l.length) (k:=n) (l:=l) hu hun hK.info hK.zero (hK.size.trans hs1) hzc hK.bytes (ty':=o.type) y3 (by omega)
       obtain ⟨η',hR⟩:=bj.re (nx:=nx) (c:= .row e .u8 (l++List.replicate n (0:UInt8))) (out:= [.one (.rw nx)]) (pre:=none) hH hb hnn hfree hu1 r3 (GK y3) r4
        (fun η' A' hnx=>⟨⟨v',_,hnx,lF.2 rfl,by rw [List.length_append,List.length_replicate];exact r2⟩,v',hnx,rfl,sf r2⟩)
       exact .inl ⟨_,_,_,η',hex _ _ r1,.inl rfl,⟨hR.out,hR.hp,hR.fw,hR.env,hR.fact⟩⟩
      ·cases h5
     ·cases h4
    ·cases h4
   split at h1
   ·rename_i n b hk
    exact key hk (fun _=>ai hx.1) hs h1
   ·rename_i z0 b hk
    refine key hk (fun h0=> ?_) hs h1
    have h0:0≤z0:=h0
    rw [show vx= .int .i64 z0 from ai hx,Int.toNat_of_nonneg h0]
   ·cases h1
 ·cases h
end
theorem Fn.callFunc {f : Nat} {fn : Func} {c : Code} (hf : Tryz.prog.funcs[f]? = some fn) (hname : (fn.name == "runtime.NumGoroutine") = false) (hb : fn.body = some c) (args : Array Value) (w : World) : (callFunc f args).run Tryz.prog w = .ok (.enter f args) w := by
 unfold Go.callFunc
 have hn : ¬ fn.name = "runtime.NumGoroutine" := by simpa using hname
 rw [Sem.run_bind]
 simp [hf,hn,hb]
structure ab (f:Nat) (C:CF):Prop where
 fn : ∃ fn c, Tryz.prog.funcs[f]? = some fn ∧ (fn.name == "runtime.NumGoroutine") = false ∧ fn.body = some c
 call:∀(nx:Nat) (l:List AV) (sl:Nat→List AV) (H:Nat→Option Ch) (ds:List Bool) (res:aG) (rd:List cu) (qs:List (Bool×Bool)),(C nx l).run sl H ds= .ok res rd qs→(∀q∈qs,q.1=q.2)→aW res.pre→
  ∀η w vs,bX H η w→bp η (ay H η) w l vs→(∀b,nx≤b→b<nx+16→η b=none)→Calls Tryz.prog f vs.toArray w fun e w'=>∃v η',e= .returned v∧bj H η w nx res v w' η'
section
variable {ty:Nat→TE} {ct:Nat→Option CF} {sl:Nat→List AV} {H:Nat→Option Ch} {η:aY} {w:World} {nx N:Nat} {a:Act} {o:Oper} {ds:List Bool} {res:aG} {rd:List cu} {qs:List (Bool×Bool)}
theorem JV {c : Call} {f : Nat} (ho : o.op = .call c) (hc : c.callee = .value (.func f)) {fn : Func} {b : Code} (hf : Tryz.prog.funcs[f]? = some fn) (hname : (fn.name == "runtime.NumGoroutine") = false) (hb : fn.body = some b) : (execOp a.eval o).run Tryz.prog w = .ok (.enter f (c.args.toList.map a.eval).toArray) w := by
 unfold execOp
 simp only [ho]
 rw [Sem.run_bind]
 have:(resolve a.eval c o.type).run Tryz.prog w= .ok {target:= .fn (.func f) #[],args:= #[]++c.args.map a.eval} w:=by
  unfold resolve
  simp only [hc]
  rfl
 rw [this]
 simp only [Result.andThen_ok,invoke]
 have e: #[]++c.args.map a.eval++ #[]=(c.args.toList.map a.eval).toArray:=by rw [Array.append_empty,Array.empty_append,←Array.toList_map,Array.toArray_toList]
 rw [e]
 exact Fn.callFunc hf hname hb _ _
theorem xk {c:Call} {b:Builtin} (ho:o.op= .call c) (hc:c.callee= .builtin b):∃consts,(execOp a.eval o).run Tryz.prog w=(builtin b c.argTypes o.type consts (c.args.toList.map a.eval).toArray).run Tryz.prog w:=by
 refine ⟨c.args.map fun| .const _=>true|_=>false,?_⟩
 unfold execOp
 simp only [ho]
 rw [Sem.run_bind]
 have:(resolve a.eval c o.type).run Tryz.prog w= .ok {target:= .builtin b c.argTypes o.type (c.args.map fun| .const _=>true|_=>false),args:=c.args.map a.eval} w:=by
  unfold resolve
  simp only [hc]
  rfl
 rw [this]
 simp only [Result.andThen_ok,invoke]
 have e:c.args.map a.eval=(c.args.toList.map a.eval).toArray:=by rw [←Array.toList_map,Array.toArray_toList]
 rw [e]
theorem NP {c:Call} {f:Nat} {C:CF} (hC:ab f C) (ho:o.op= .call c) (hc:c.callee= .value (.func f)) (hS:eH sl H N η a w) (hfree:∀b,nx≤b→b<nx+16→η b=none) (h:(nq c.args.toList fun l=>C nx l:R aG).run sl H ds= .ok res rd qs) (hq:∀q∈qs,q.1=q.2) (hp:aW res.pre):OpDone H η w nx res o a:=by
 obtain ⟨l,rd1,h1,hv⟩:=im hS.slot h
 obtain ⟨fn,b,f1,f2,f3⟩:=hC.fn
 exact .inr ⟨f,_,JV ho hc f1 f2 f3,hC.call nx l sl H ds res rd1 qs h1 hq hp η w _ hS.hpOk hv hfree⟩
theorem JY {A:Nat→Prop} {x:AV} {y:FC} {v:Value} (h:NY x=some y) (hv:x.H η A w v):y.H η A w v:=by
 unfold NY at h
 split at h
 ·cases h
  obtain ⟨g,h1,h2⟩:=hv
  exact ⟨g,h1,ai h2⟩
 ·cases h;exact hv
 ·cases h;exact hv.1
 ·cases h
  obtain ⟨u,e,h1⟩:=hv
  cases ai e;exact h1
 ·cases h
theorem mn {α:Type} {A:Nat→Prop}:∀ {l:List AV} {vs:List Value} {k:List FC→R α} {r:α} {rd:List cu},bp η A w l vs→(ud l k).run sl H ds= .ok r rd qs→∃m,(k m).run sl H ds= .ok r rd qs∧jp η A w m vs
 | [],vs,k,r,rd,hv,h=>⟨[],h,hv⟩
 |a::l,vs,k,r,rd,⟨v,t,e,hx,hr⟩,h=>by
  unfold ud at h
  split at h
  ·rename_i x hx2
   obtain ⟨m,h1,h2⟩:=mn hr h
   exact ⟨x::m,h1,v,t,e,JY hx2 hx,h2⟩
  ·cases h
theorem QS {A:Nat→Prop} {x:FC} {v:Value} (h:x.H η A w v):x.av.H η A w v:=by
 cases x with
 |p b q=>obtain ⟨g,h1,h2⟩:=h;exact ⟨g,h1,by rw [h2]⟩
 |ob k x=>exact h
 |r l=>exact ⟨v,rfl,h⟩
theorem mm {A:Nat→Prop}:∀ {l:List FC} {m:List AV} {us vs:List Value},jp η A w l us→bp η A w m vs→bp η A w (oX l m) (us++vs)
 | [],m,us,vs,h,hm=>by cases h;exact hm
 |x::l,m,us,vs,⟨v,t,e,hx,hr⟩,hm=>by subst e;exact ⟨v,_,rfl,QS hx,mm hr hm⟩
theorem th {A:Nat→Prop}:∀ {l m:List AV} {us vs:List Value},bp η A w l us→bp η A w m vs→bp η A w (z7 l m) (us++vs)
 | [],m,us,vs,h,hm=>by cases h;exact hm
 |x::l,m,us,vs,⟨v,t,e,hx,hr⟩,hm=>by subst e;exact ⟨v,_,rfl,hx,th hr hm⟩
theorem E4 {c : Call} {f t : Nat} {us vs : List Value} (ho : o.op = .call c) (hc : c.callee = .value (.tmp t)) (hv : a.tmps.getD t undef = .func (.func f) us.toArray vs.toArray) {fn : Func} {b : Code} (hf : Tryz.prog.funcs[f]? = some fn) (hname : (fn.name == "runtime.NumGoroutine") = false) (hb : fn.body = some b) : (execOp a.eval o).run Tryz.prog w = .ok (.enter f (us ++ (c.args.toList.map a.eval ++ vs)).toArray) w := by
 unfold execOp
 simp only [ho]
 rw [Sem.run_bind]
 have:(resolve a.eval c o.type).run Tryz.prog w= .ok {target:= .fn (.func f) vs.toArray,args:=us.toArray++c.args.map a.eval} w:=by
  unfold resolve
  simp only [hc]
  rw [show a.eval (.tmp t)= .func (.func f) us.toArray vs.toArray from hv]
  rfl
 rw [this]
 simp only [Result.andThen_ok,invoke]
 have e:us.toArray++c.args.map a.eval++vs.toArray=(us++(c.args.toList.map a.eval++vs)).toArray:=by
  apply Array.toList_inj.1
  simp
 rw [e]
 exact Fn.callFunc hf hname hb _ _
theorem JE {c:Call} {f t:Nat} {C:CF} {l m:List FC} (hC:ab f C) (ho:o.op= .call c) (hc:c.callee= .value (.tmp t)) (hl:sl t= [.one (.fv f l m)]) (hS:eH sl H N η a w) (hfree:∀b,nx≤b→b<nx+16→η b=none) (h:(nq c.args.toList fun r=>C nx (oX l (z7 r (oX m []))):R aG).run sl H ds= .ok res rd qs) (hq:∀q∈qs,q.1=q.2) (hp:aW res.pre):OpDone H η w nx res o a:=by
 obtain ⟨r,rd1,h1,hv⟩:=im hS.slot h
 obtain ⟨fn,b,f1,f2,f3⟩:=hC.fn
 have hs:=hS.slot t
 rw [hl] at hs
 obtain ⟨us,vs,e,hu,hw⟩:=hs
 have:=mm hw (m:= []) (vs:= []) rfl
 rw [List.append_nil] at this
 exact .inr ⟨f,_,E4 ho hc (ai e) f1 f2 f3,hC.call nx _ sl H ds res rd1 qs h1 hq hp η w _ hS.hpOk (mm hu (th hv this)) hfree⟩
theorem xb {f:Nat} {x y:Array Operand} (ho:o.op= .makeFunc (.func f) x y) (hS:eH sl H N η a w) (h:(GE f x.toList y.toList).run sl H ds= .ok res rd qs):OpDone H η w nx res o a:=by
 unfold GE at h
 obtain ⟨l,rd1,h1,hv⟩:=im hS.slot h
 obtain ⟨m,rd2,h2,hw⟩:=im hS.slot h1
 obtain ⟨l',h3,hl⟩:=mn hv h2
 obtain ⟨m',h4,hm⟩:=mn hw h3
 have:=au h4
 subst this
 have ev:∀z:Array Operand,(z.map a.eval)=(z.toList.map a.eval).toArray:=fun z=>by rw [←Array.toList_map,Array.toArray_toList]
 refine .val hS.hpOk (v:= .func (.func f) (x.map a.eval) (y.map a.eval)) ⟨_,_,by rw [ev x,ev y],hl,hm⟩ ?_
 unfold execOp
 simp only [ho]
 rfl
theorem nd {k k':IntKind} {x y:Int}:(Builtin.min2 (.int k x) (.int k' y)).run Tryz.prog w= .ok (.int k (if y<x then y else x)) w:=rfl
theorem m9 {k k':IntKind} {x y:Int}:(Builtin.max2 (.int k x) (.int k' y)).run Tryz.prog w= .ok (.int k (if y>x then y else x)) w:=rfl
theorem Rj (x y:Int):(if y<x then y else x)=min x y:=by split<;>omega
theorem Ri (x y:Int):(if y>x then y else x)=max x y:=by split<;>omega
theorem Tf (x y:Int):(if y<x then y else x)=(match gL y x with |true=>y|false=>x):=by
 cases e:gL y x with
 |true=>rw [if_pos (eO.1 e)]
 |false=>rw [if_neg (by have:=dx.1 e;omega)]
theorem Te (x y:Int):(if y>x then y else x)=(match gL y x with |true=>x|false=>y):=by
 cases e:gL y x with
 |true=>have:=eO.1 e;rw [if_neg (by omega)]
 |false=>have:=dx.1 e;show (if y>x then y else x)=y;split<;>omega
theorem BU {c:Call} {b:Builtin} (hT:a8 ty) (ho:o.op= .call c) (hc:c.callee= .builtin b) (hS:eH sl H N η a w) (hfree:∀b,nx≤b→b<nx+16→η b=none) (h:(nq c.args.toList fun l=>kx ty nx b c.argTypes l:R aG).run sl H ds= .ok res rd qs) (hp:aW res.pre):OpDone H η w nx res o a:=by
 obtain ⟨l,rd1,h1,hv⟩:=im hS.slot h
 clear h
 obtain ⟨consts,hex⟩:=xk (a:=a) (w:=w) ho hc
 unfold kx at h1
 split at h1
 ·rename_i x
  obtain ⟨v,_,hl,hx,rfl⟩:=hv
  rw [hl] at hex
  split at h1
  ·rename_i t htl
   have ht:c.argTypes= #[t]:=by rw [←Array.toArray_toList (xs:=c.argTypes),htl]
   exact Ot hT hS.hpOk hx (fun u hu=>by rw [hex,ht];show (builtin .len _ _ _ _).run _ _=_;unfold builtin;simp only;rw [Sem.run_bind,hu];rfl) h1
  ·cases h1
 ·rename_i x y
  obtain ⟨v,_,hl,hx,u,_,rfl,hy,rfl⟩:=hv
  rw [hl] at hex
  split at h1
  ·rename_i t t' htl
   split at h1
   ·rename_i e
    have e:=aL e
    subst e
    have ht:c.argTypes= #[t,t]:=by rw [←Array.toArray_toList (xs:=c.argTypes),htl]
    exact Nt hT hS.hpOk hfree hx hy (fun u w' hu=>by rw [hex,ht];show (builtin .append _ _ _ _).run _ _=_;unfold builtin;simp only;rw [Sem.run_bind,hu];rfl) h1 hp
   ·have ht:c.argTypes= #[t,t']:=by rw [←Array.toArray_toList (xs:=c.argTypes),htl]
    exact I7 hT hS.hpOk hfree hx hy (fun u w' hu=>by rw [hex,ht];show (builtin .append _ _ _ _).run _ _=_;unfold builtin;simp only;rw [Sem.run_bind,hu];rfl) h1 hp
  ·cases h1
 ·rename_i x y
  obtain ⟨v,_,hl,hx,u,_,rfl,hy,rfl⟩:=hv
  rw [hl] at hex
  split at h1
  ·rename_i t t' htl
   split at h1
   ·rename_i e
    have e:=aL e
    subst e
    have ht:c.argTypes= #[t,t]:=by rw [←Array.toArray_toList (xs:=c.argTypes),htl]
    exact Jy (ty':=o.type) hT hS.hpOk hx hy (fun u w' hu=>by rw [hex,ht];show (builtin .copy _ _ _ _).run _ _=_;unfold builtin;simp only;rw [Sem.run_bind,hu];rfl) h1
   ·cases h1
  ·cases h1
 ·rename_i x y
  obtain ⟨v,_,hl,hx,u,_,rfl,hy,rfl⟩:=hv
  rw [hl] at hex
  have hr:∀r,(Builtin.min2 v u).run Tryz.prog w= .ok r w→(execOp a.eval o).run Tryz.prog w= .ok (.value r) w:=fun r hr=>by
   rw [hex];show (builtin .min _ _ _ _).run _ _=_;unfold builtin;simp only;rw [Sem.run_bind]
   show ((List.foldlM Builtin.min2 v [u]).run Tryz.prog w).andThen _=_
   simp [List.foldlM,hr]
  split at h1
  ·rename_i p q e1 e2
   have g1:=cL (a9 e1 hx);have g2:=cL (a9 e2 hy)
   refine aE.done (ev:=fun w=>(Builtin.min2 v u).run Tryz.prog w) (.lit fun _ w=> ?_) h1 hp hS.hpOk hr
   rw [g1,g2,jK,jK,nd,Tf];cases gL q p<;>rfl
  ·rename_i p q e1 e2
   have g1:=cL (a9 e1 hx);have g2:=cL (a9 e2 hy)
   obtain ⟨k,r⟩:=dm q
   have:=au h1;subst this
   exact .val hS.hpOk rfl (hr _ (by rw [g1,g2,r,jK,nd,Rj]))
  ·rename_i p q e1 e2
   have g1:=cL (a9 e1 hx);have g2:=cL (a9 e2 hy)
   have:=au h1;subst this
   exact .val hS.hpOk rfl (hr _ (by rw [g1,g2,jK,jK,nd,Rj]))
  ·cases h1
 ·rename_i x y
  obtain ⟨v,_,hl,hx,u,_,rfl,hy,rfl⟩:=hv
  rw [hl] at hex
  have hr:∀r,(Builtin.max2 v u).run Tryz.prog w= .ok r w→(execOp a.eval o).run Tryz.prog w= .ok (.value r) w:=fun r hr=>by
   rw [hex];show (builtin .max _ _ _ _).run _ _=_;unfold builtin;simp only;rw [Sem.run_bind]
   show ((List.foldlM Builtin.max2 v [u]).run Tryz.prog w).andThen _=_
   simp [List.foldlM,hr]
  split at h1
  ·rename_i p q e1 e2
   have g1:=cL (a9 e1 hx);have g2:=cL (a9 e2 hy)
   refine aE.done (ev:=fun w=>(Builtin.max2 v u).run Tryz.prog w) (.lit fun _ w=> ?_) h1 hp hS.hpOk hr
   rw [g1,g2,jK,jK,m9,Te];cases gL q p<;>rfl
  ·rename_i p q e1 e2
   have g1:=cL (a9 e1 hx);have g2:=cL (a9 e2 hy)
   obtain ⟨k,r⟩:=dm q
   have:=au h1;subst this
   exact .val hS.hpOk rfl (hr _ (by rw [g1,g2,r,jK,m9,Ri]))
  ·rename_i p q e1 e2
   have g1:=cL (a9 e1 hx);have g2:=cL (a9 e2 hy)
   have:=au h1;subst this
   exact .val hS.hpOk rfl (hr _ (by rw [g1,g2,jK,jK,m9,Ri]))
  ·cases h1
 ·cases h1
theorem BZ (hT:a8 ty) (hC:∀f C,ct f=some C→ab f C) (hS:eH sl H N η a w) (hfree:∀b,nx≤b→b<nx+16→η b=none) (h:(ml ty ct nx o.op).run sl H ds= .ok res rd qs) (hq:∀q∈qs,q.1=q.2) (hp:aW res.pre):OpDone H η w nx res o a:=by
 cases e:o.op<;>rw [e] at h<;>(try (unfold ml at h;cases h;done))<;>unfold ml at h<;>simp only at h
 case move x=>
  split at h
  ·exact JH e hS h
  ·exact EO (.inl e) hS h
 case assign x=>exact EO (.inr e) hS h
 case pick c x y=>exact NS e hS h
 case alloc t=>exact JC hT e hS hfree h
 case box t x=>exact QN e hS hfree h
 case build t ps=>exact JD hT e hS h
 case buildSlice t n ps=>exact qv hT e hS hfree h
 case load t x=>exact NQ hT e hS h hp
 case store t x y=>exact JJ hT e hS h hp
 case nilCheck x=>exact QO e hS h
 case binOp op t x y t'=>exact QM hT e hS h hp
 case unOp op t x=>exact NT e hS h hp
 case convert s d x=>exact BV hT e hS h hp
 case makeSlice t x y=>exact tS hT e hS hfree h hp
 case slice t x lo hi mx=>exact JI hT e hS h hp
 case fieldAddr t x f=>exact tR hT e hS h
 case field t x f=>exact JF hT e hS h
 case lookup t m x c=>
  cases c with
  |false=>exact NR e hS h hp
  |true=>cases h
 case indexAddr t x y=>exact JG hT e hS h hp
 case index t x y=>exact S8 hT e hS h hp
 case extract x j=>
  split at h
  ·exact BW e hS h
  ·cases h
 case call c=>
  split at h
  ·rename_i b hc
   exact BU hT e hc hS hfree h hp
  ·rename_i f hc
   split at h
   ·rename_i C hf
    exact NP (hC f C hf) e hc hS hfree h hq hp
   ·cases h
  ·rename_i t hc
   obtain ⟨rd1,h⟩:=fy h
   split at h
   ·rename_i f l m hl
    split at h
    ·rename_i C hf
     exact JE (hC f C hf) e hc hl hS hfree h hq hp
    ·cases h
   ·cases h
  ·cases h
 case makeFunc fn x y=>
  split at h
  ·exact xb e hS h
  ·cases h
end
section
variable {ty:Nat→TE} {ct:Nat→Option CF} {sl:Nat→List AV} {H:Nat→Option Ch} {η:aY} {w:World} {nx N:Nat} {a:Act} {o:Oper} {res:aG}
theorem zv {g:Bool}:∀ {r:R aG} {ds:List Bool} {res:aG} {rd:List cu} {qs:List (Bool×Bool)},(gY g r).run sl H ds= .ok res rd qs→∃ds0 res0 rd0 qs0,r.run sl H ds0= .ok res0 rd0 qs0∧(∀q∈qs0,q∈qs)∧res0.upd=res.upd∧res0.pre=res.pre∧res0.fact=res.fact∧(res0.out=res.out∨∃p v,(p,v)∈qs∧res0.out= [.one (.ob .bool p)]∧res.out= [.one (.cv (.bool v))]):=by
 cases g with
 |false=>exact fun h=>⟨_,_,_,_,h,fun _ h=>h,rfl,rfl,rfl,.inl rfl⟩
 |true=>
  intro r
  show ∀ {ds:List Bool} {res:aG} {rd:List cu} {qs:List (Bool×Bool)},(gY.go r).run sl H ds= .ok res rd qs→_
  induction r with
  |pure x=>
   intro ds res rd qs h
   unfold gY.go at h
   split at h
   ·rename_i p u q f
    obtain ⟨d,ds',qs',e1,e2⟩:=Bl h
    have:=aC e2
    subst this
    refine ⟨[],_,[],[],rfl,fun q hq=>(by cases hq),rfl,rfl,rfl,.inr ⟨p,d,by rw [e1];simp,rfl,rfl⟩⟩
   ·have:=aC h
    subst this
    exact ⟨[],_,[],[],rfl,fun q hq=>(by cases hq),rfl,rfl,rfl,.inl rfl⟩
  |fail=>intro ds res rd qs h;cases h
  |slot t k ih=>
   intro ds res rd qs h
   unfold gY.go at h
   obtain ⟨rd',h1⟩:=fy h
   obtain ⟨ds0,res0,rd0,qs0,g1,g2⟩:=ih (sl t) h1
   exact ⟨ds0,res0,_,qs0,by simp only [R.run,g1];rfl,g2⟩
  |hp b k ih=>
   intro ds res rd qs h
   unfold gY.go at h
   obtain ⟨rd',h1⟩:=bl h
   obtain ⟨ds0,res0,rd0,qs0,g1,g2⟩:=ih (H b) h1
   exact ⟨ds0,res0,_,qs0,by simp only [R.run,g1];rfl,g2⟩
  |dec p k ih=>
   intro ds res rd qs h
   unfold gY.go at h
   obtain ⟨d,ds',qs',e1,h1⟩:=Bl h
   obtain ⟨ds0,res0,rd0,qs0,g1,g2,g3,g4,g5,g6⟩:=ih d h1
   refine ⟨d::ds0,res0,rd0,(p,d)::qs0,by simp only [R.run,g1];rfl,fun q hq=> ?_,g3,g4,g5,?_⟩
   ·rw [e1]
    rcases List.mem_cons.1 hq with rfl|hq
    ·simp
    ·exact List.mem_cons_of_mem _ (g2 q hq)
   ·rcases g6 with g6|⟨p',v,m,m'⟩
    ·exact .inl g6
    ·exact .inr ⟨p',v,by rw [e1];exact List.mem_cons_of_mem _ m,m'⟩
theorem bj.cast {res0:aG} {v:Value} {w':World} {η':aY} (h:bj H η w nx res0 v w' η') (h1:res0.upd=res.upd) (h2:res0.fact=res.fact) (h3:res0.out=res.out∨∃p:Bool,res0.out= [.one (.ob .bool p)]∧res.out= [.one (.cv (.bool p))]):bj H η w nx res v w' η':=by
 obtain ⟨o1,o2,o3,o4,o5⟩:=h
 rw [h1] at o1 o2 o3
 rw [h2] at o5
 refine ⟨?_,o2,o3,o4,o5⟩
 rcases h3 with h3|⟨p,h3,h4⟩
 ·rw [←h3];exact o1
 ·rw [h3] at o1
  rw [h4]
  have:v= .bool p:=ai o1
  subst this
  exact ⟨rfl,rfl⟩
theorem OpDone.cast {res0:aG} (h:OpDone H η w nx res0 o a) (h1:res0.upd=res.upd) (h2:res0.fact=res.fact) (h3:res0.out=res.out∨∃p:Bool,res0.out= [.one (.ob .bool p)]∧res.out= [.one (.cv (.bool p))]):OpDone H η w nx res o a:=by
 rcases h with ⟨nv,v,w',η',e1,e2,e3⟩|⟨f,args,e1,e2⟩
 ·exact .inl ⟨nv,v,w',η',e1,e2,e3.cast h1 h2 h3⟩
 ·exact .inr ⟨f,args,e1,e2.mono fun e w' ⟨v,η',q1,q2⟩=>⟨v,η',q1,q2.cast h1 h2 h3⟩⟩
theorem sD {S:Nat→List AV} (hS:eH S H N η a w) {v:Value} {w':World} {η':aY} (h:bj H η w nx res v w' η') (hd:∀t,o.dst=some t→t<N):eH (fun t=>if o.dst=some t then res.out else S t) (bi res.upd H) N η' (a.put o.dst v) w':=by
 have hsz:(a.put o.dst v).tmps.size=N:=by
  unfold Act.put
  cases o.dst<;>simp [hS.sz]
 refine ⟨?_,hsz,fun t=> ?_,h.hp.chunk,h.hp.apart⟩
 ·unfold Act.put
  cases o.dst<;>exact hS.df
 ·by_cases e:o.dst=some t
  ·show bF _ _ _ (if o.dst=some t then res.out else S t) _
   rw [if_pos e]
   have ht:=hd t e
   have:(a.put o.dst v).tmps.getD t undef=v:=by
    unfold Act.put
    rw [e]
    simp [Array.getD,hS.sz,ht]
   rw [this]
   exact h.out
  ·show bF _ _ _ (if o.dst=some t then res.out else S t) _
   rw [if_neg e]
   have:(a.put o.dst v).tmps.getD t undef=a.tmps.getD t undef:=by
    unfold Act.put
    cases e2:o.dst with
    |none=>rfl
    |some d=>
     have hne:d≠t:=fun h=>e (by rw [e2,h])
     simp [Array.getD_eq_getD_getElem?,hne]
   rw [this]
   exact (hS.slot t).later h.fw.lt
theorem OpDone.step {S:Nat→List AV} (h:OpDone H η w nx res o a) (hS:eH S H N η a w) (hd:∀t,o.dst=some t→t<N) {Q:Exit→Act→World→Prop} {K:Act→World→Prop}
  (hK:∀a' w' η',eH (fun t=>if o.dst=some t then res.out else S t) (bi res.upd H) N η' a' w'→Fw H η w (bi res.upd H) η' w'→(∀b,b<nx∨nx+16≤b→η' b=η b)→aW res.fact→K a' w'):Oper.wp Tryz.prog o a w K Q:=by
 unfold Oper.wp
 rcases h with ⟨nv,v,w',η',e1,e2,e3⟩|⟨f,args,e1,e2⟩
 ·rw [e1]
  have:=hK _ w' η' (sD hS e3 hd) e3.fw e3.env e3.fact
  rcases e2 with rfl|⟨rfl,rfl⟩
  ·exact this
  ·exact this
 ·rw [e1,Oper.upon_enter]
  refine e2.mono fun e w' ⟨v,η',q1,q2⟩=> ?_
  subst q1
  exact hK _ w' η' (sD hS q2 hd) q2.fw q2.env q2.fact
theorem az (hT:a8 ty) (hC:∀f C,ct f=some C→ab f C):ap ty ct:=by
 intro all N Q i o ho nx F ds res rd qs h hq hp η a w hS hfree hd K hK
 unfold fZ at h
 have main:∀ {ds:List Bool} {rd:List cu},(gY (ry i all) (ml ty ct nx o.op)).run F.s F.h ds= .ok res rd qs→Oper.wp Tryz.prog o a w K Q:=fun h=>by
  obtain ⟨ds0,res0,rd0,qs0,g1,g2,g3,g4,g5,g6⟩:=zv h
  have:=BZ (o:=o) hT hC hS hfree g1 (fun q hq'=>hq q (g2 q hq')) (by rw [g4];exact hp)
  refine (this.cast (res:=res) g3 g5 ?_).step hS hd hK
  rcases g6 with g6|⟨p,v,m,m1,m2⟩
  ·exact .inl g6
  ·have:p=v:=hq _ m
   subst this
   exact .inr ⟨p,m1,m2⟩
 have skip:res=⟨[.one .un],[],none,none⟩→K (a.put o.dst undef) w:=fun e=>by
  subst e
  have hR:bj F.h η w nx ⟨[.one .un],[],none,none⟩ undef w η:= .pure (out:= [.one .un]) (v:=undef) hS.hpOk rfl trivial
  exact hK _ w η (sD hS hR hd) hR.fw hR.env trivial
 cases hg:o.guard with
 |none=>
  rw [hg] at h
  have hw:Region.wanted o (yielded all.toArray a.tmps)=true:=by unfold Region.wanted;rw [hg]
  rw [if_pos hw]
  exact main h
 |some jw=>
  obtain ⟨j,want⟩:=jw
  rw [hg] at h
  unfold AC at h
  simp only at h
  split at h
  ·rename_i o' ho'
   split at h
   ·rename_i t ht
    obtain ⟨rd',h1⟩:=fy h
    clear h
    have hs:=hS.slot t
    have hy:∀v,a.tmps.getD t undef=v→v≠undef∨t<a.tmps.size→yielded all.toArray a.tmps j=match v with | .bool b=>some b|_=>none:=fun v hv hh=>by
     unfold yielded
     rw [List.getElem?_toArray,ho']
     simp only [Option.bind_some,ht]
     have:a.tmps[t]?=some v:=by
      by_cases hlt:t<a.tmps.size
      ·rw [Array.getElem?_eq_getElem hlt]
       rw [Array.getD_eq_getD_getElem?,Array.getElem?_eq_getElem hlt] at hv
       exact congrArg some hv
      ·rcases hh with hh|hh
       ·rw [Array.getD_eq_getD_getElem?,Array.getElem?_eq_none (Nat.le_of_not_lt hlt)] at hv
        exact absurd hv.symm hh
       ·exact absurd hh hlt
     rw [this]
     cases v<;>rfl
    have hno:∀v,a.tmps.getD t undef=v→(∀b,v≠ .bool b)→yielded all.toArray a.tmps j=none:=fun v hv hb=>by
     by_cases hlt:t<a.tmps.size
     ·rw [hy v hv (.inr hlt)]
      split
      ·rename_i b;exact absurd rfl (hb b)
      ·rfl
     ·unfold yielded
      rw [List.getElem?_toArray,ho']
      simp only [Option.bind_some,ht]
      rw [Array.getElem?_eq_none (Nat.le_of_not_lt hlt)]
    have hwant:Region.wanted o (yielded all.toArray a.tmps)=(yielded all.toArray a.tmps j ==some want):=by unfold Region.wanted;rw [hg]
    split at h1
    ·rename_i b e1
     rw [e1] at hs
     have hv:a.tmps.getD t undef= .bool b:=ai hs.1
     have hyb:=hy _ hv (.inl (by unfold undef;simp))
     rw [hyb] at hwant
     split at h1
     ·rename_i e2
      rw [if_pos (by rw [hwant];rfl)]
      exact main h1
     ·rename_i e2
      rw [if_pos (by rw [hwant];rfl)]
      exact main h1
     ·rename_i x1 x2
      have hne:b≠want:=fun e=>by subst e;cases b with |true=>exact x1 rfl rfl|false=>exact x2 rfl rfl
      rw [if_neg (by rw [hwant];simpa using hne)]
      exact skip (au h1)
    ·rename_i e1
     rw [e1] at hs
     have hv:a.tmps.getD t undef=undef:=ai hs
     rw [hno _ hv (fun b=>by unfold undef;simp)] at hwant
     rw [if_neg (by rw [hwant];simp)]
     exact skip (au h1)
    ·cases h1
   ·cases h
  ·cases h
end
theorem fg {n m:Nat} (h:n≤m):∀ {l:List FC},qH n l=true→qH m l=true
 | [],_=>rfl
 | .p b o::r,hl=>by
  simp only [qH] at hl ⊢
  split at hl
  ·rename_i hb
   have hb:b<n:=by simpa using hb
   rw [show Nat.blt b m=true by simp;omega]
   exact fg h hl
  ·cases hl
 | .ob _ _::r,hl=>fg (l:=r) h hl
 | .r _::r,hl=>fg (l:=r) h hl
theorem Cl.lt_mono {n m:Nat} (h:n≤m) {x:Cl} (hx:x.lt n=true):x.lt m=true:=by
 cases x
 case fv f l k=>
  simp only [Cl.lt] at hx ⊢
  split at hx
  ·rename_i hl
   rw [fg h hl]
   exact fg h hx
  ·cases hx
 all_goals first |rfl|(simp [Cl.lt] at hx ⊢;omega)
theorem iZ {n m:Nat} (h:n≤m):∀ {l:List Cl},b_ n l=true→b_ m l=true
 | [],_=>rfl
 |x::r,hl=>by
  obtain ⟨h1,h2⟩:=iY hl
  unfold b_
  rw [Cl.lt_mono h h1]
  exact iZ h h2
theorem pG {n m:Nat} (h:n≤m):∀ {l:List (Nat×AV)},vU n l=true→vU m l=true
 | [],_=>rfl
 |(t,y)::r,hl=>by
  unfold vU at hl ⊢
  cases e:y.lt n with
  |false=>rw [e] at hl;cases hl
  |true=>
   rw [e] at hl
   have:y.lt m=true:=by
    cases y with
    |one x=>exact Cl.lt_mono h e
    |agg l=>exact iZ h e
   rw [this]
   exact pG h hl
theorem mO {n m:Nat} (h:n≤m):∀ {l:List (Nat×Ch)},B7 n l=true→B7 m l=true
 | [],_=>rfl
 |(b,c)::r,hl=>by
  unfold B7 at hl ⊢
  cases e:Nat.blt b n with
  |false=>rw [e] at hl;cases hl
  |true=>
   rw [e] at hl
   have e2:Nat.blt b m=true:=by simp at e ⊢;omega
   rw [e2]
   cases c with
   |blk E l=>
    simp only at hl ⊢
    cases e3:b_ n l with
    |false=>rw [e3] at hl;cases hl
    |true=>rw [e3] at hl;rw [iZ h e3];exact mO h hl
   |row E k l=>exact mO h hl
theorem yN {S:AS} {n m:Nat} (h:n≤m) {W:List Nat} {I:Inv} {hp0:List (Nat×Nat×Ch)} {k:cV→Prop} (hm:gN S n W I hp0 k):gN S m W I hp0 k:=by
 unfold gN at hm ⊢
 split at hm
 ·rename_i e1 e2 e3
  rw [pG h e1,mO h e2,e3]
  exact hm
 ·exact hm.elim
def al:Nat→List AV→List (Nat×Nat×List AV)
 |_,[]=> []
 |i,x::r=>(i,1,[x])::al (i+1) r
theorem lH {η:aY} {A:Nat→Prop} {w:World}:∀ {l:List AV} {vs:List Value} {i:Nat},bp η A w l vs→vs.length=l.length∧∀t,bG (al i l) t= []∨∃x v,bG (al i l) t= [x]∧i≤t∧vs[t-i]?=some v∧x.H η A w v
 | [],vs,i,h=>by subst h;exact ⟨rfl,fun t=> .inl rfl⟩
 |x::r,vs,i,⟨v,t,e,hx,hr⟩=>by
  subst e
  obtain ⟨h1,h2⟩:=lH (i:=i+1) hr
  refine ⟨by simp [h1],fun u=> ?_⟩
  simp only [al,bG]
  cases e:Nat.beq i u with
  |true=>
   have e:=aL e
   subst e
   exact .inr ⟨x,v,rfl,Nat.le_refl _,by simp,hx⟩
  |false=>
   rcases h2 u with h3|⟨y,z,h3,h4,h5,h6⟩
   ·exact .inl h3
   ·exact .inr ⟨y,z,h3,by omega,by rw [show u-i=(u-(i+1))+1 by omega];exact h5,h6⟩
def K2 (fn:Func) (rs:List Nat):Prop:=fn.results=(rs.map ResultVar.tmp).toArray
theorem vP {fn:Func} {rs:List Nat} (h:K2 fn rs) (tmps:Array Value) (w:World):(results fn tmps).run Tryz.prog w= .ok (match rs.map fun t=>tmps.getD t undef with | [v]=>v|l=> .tuple l.toArray) w:=by
 unfold results
 rw [h,Array.mapM_eq_mapM_toList]
 have:∀rs:List Nat,((rs.map ResultVar.tmp).mapM (fun| .tmp t=>pure (tmps.getD t undef)| .cell a t=>do loadVar t (←asAddr (tmps.getD a undef)):ResultVar→Sem Value)).run Tryz.prog w= .ok (rs.map fun t=>tmps.getD t undef) w:=by
  intro rs
  induction rs with
  |nil=>rfl
  |cons r rs ih=>
   rw [List.map_cons,List.mapM_cons,Sem.run_bind]
   change ((List.mapM _ (rs.map ResultVar.tmp) >>= fun bs=>pure (tmps.getD r undef::bs):Sem (List Value))).run Tryz.prog w=_
   rw [Sem.run_bind,ih]
   rfl
 rw [Sem.run_bind,Sem.run_map]
 refine Eq.trans (congrArg (fun z:Result (List Value)=>(z.andThen fun a w=>Result.ok a.toArray w).andThen fun vs w'=>(pure (if h:vs.size=1 then vs[0] else .tuple vs):Sem Value).run Tryz.prog w') (this rs)) ?_
 clear this h
 rcases rs with _|⟨r,_|⟨q,rs⟩⟩<;>simp
section
variable {ty:Nat→TE} {ct:Nat→Option CF}
def BS:Cl→Bool
 | .ptr b _=>Nat.blt b 16| .sl b _ _ _=>Nat.blt b 16| .rw b=>Nat.blt b 16| .sub b _ _=>Nat.blt b 16
 | .pix _ _ _=>false| .pro _ _=>false| .ro _ _=>false| .bb _=>false| .pbb _=>false| .mp _ _=>false| .rv _ _=>false| .fv _ _ _=>false
 |_=>true
def gC:List Cl→Bool
 | []=>true
 |x::r=>match BS x with |true=>gC r|false=>false
def d6:List AV→Bool
 | []=>true
 | .one x::r=>match BS x with |true=>d6 r|false=>false
 | .agg l::r=>match gC l with |true=>d6 r|false=>false
def iN:List (Nat×Ch)→Bool
 | []=>true
 |(b,c)::r=>match Nat.blt b 16 with
  |true=>match c with
   | .blk _ l=>match gC l with |true=>iN r|false=>false
   | .row _ _ _=>iN r
  |false=>false
variable {nx:Nat} {η η':aY} {A A':Nat→Prop} {w:World}
theorem K3 {b:Nat} (h:Nat.blt b 16=true):dy nx b=nx+b∧b<16:=by
 have h:b<16:=by simpa using h
 refine ⟨?_,h⟩
 unfold dy cC
 rw [show Nat.blt b 1000=true by simp;omega]
theorem Cl.H.ren (he:∀b,b<16→η' (nx+b)=η (nx+b)) {x:Cl} (hx:BS x=true) {cs:List Value} (h:(x.rn nx).H η A w cs):(x.rn nx).H η' A' w cs:=by
 cases x
 case any=>exact h
 case un=>exact h
 case cv=>exact h
 case ob=>exact h
 case vec=>exact h
 case ptr b j=>
  obtain ⟨e1,e2⟩:=K3 (nx:=nx) hx
  obtain ⟨g,h1,h2⟩:=h
  exact ⟨g,by rw [e1,he b e2,←e1];exact h1,h2⟩
 case pix b j i=>cases hx
 case fv f l m=>cases hx
 case pro k x=>cases hx
 case sl b j m c=>
  obtain ⟨e1,e2⟩:=K3 (nx:=nx) hx
  obtain ⟨hn,g,h1,h2⟩:=h
  exact ⟨hn,g,by rw [e1,he b e2,←e1];exact h1,h2⟩
 case rw b=>
  obtain ⟨e1,e2⟩:=K3 (nx:=nx) hx
  obtain ⟨v,h1,h2⟩:=h
  exact ⟨v,by rw [e1,he b e2,←e1];exact h1,h2⟩
 case sub b j m=>
  obtain ⟨e1,e2⟩:=K3 (nx:=nx) hx
  obtain ⟨v,a,c,h1,h2⟩:=h
  exact ⟨v,a,c,by rw [e1,he b e2,←e1];exact h1,h2⟩
 case ro k l=>cases hx
 case bb l=>cases hx
 case pbb l=>cases hx
 case ln=>exact h
 case mp v f=>cases hx
 case rv v l=>cases hx
theorem aO.ren (he:∀b,b<16→η' (nx+b)=η (nx+b)):∀ {l:List Cl},gC l=true→∀ {cs:List Value},aO η A w (l.map (Cl.rn nx)) cs→aO η' A' w (l.map (Cl.rn nx)) cs
 | [],_,_,h=>h
 |x::r,hl,cs,⟨h,t,e,hx,hr⟩=>by
  unfold gC at hl
  cases e1:BS x with
  |false=>rw [e1] at hl;cases hl
  |true=>rw [e1] at hl;exact ⟨h,t,e,hx.ren he e1,aO.ren he hl hr⟩
theorem wN {x:AV} {l:List AV} (h:d6 (x::l)=true):d6 [x]=true∧d6 l=true:=by
 cases x with
 |one x=>
  simp only [d6] at h ⊢
  cases e:BS x with
  |false=>rw [e] at h;cases h
  |true=>rw [e] at h;exact ⟨rfl,h⟩
 |agg q=>
  simp only [d6] at h ⊢
  cases e:gC q with
  |false=>rw [e] at h;cases h
  |true=>rw [e] at h;exact ⟨rfl,h⟩
theorem AV.H.ren (he:∀b,b<16→η' (nx+b)=η (nx+b)) {x:AV} (hx:d6 [x]=true) {v:Value} (h:(x.rn nx).H η A w v):(x.rn nx).H η' A' w v:=by
 cases x with
 |one x=>
  simp only [d6] at hx
  cases e:BS x with
  |false=>rw [e] at hx;cases hx
  |true=>exact Cl.H.ren (x:=x) he e h
 |agg l=>
  simp only [d6] at hx
  cases e:gC l with
  |false=>rw [e] at hx;cases hx
  |true=>
   obtain ⟨cs,e1,h1,h2⟩:=h
   exact ⟨cs,e1,h1.ren he e,h2⟩
theorem bp.ren (he:∀b,b<16→η' (nx+b)=η (nx+b)):∀ {l:List AV},d6 l=true→∀ {vs:List Value},bp η A w (l.map (AV.rn nx)) vs→bp η' A' w (l.map (AV.rn nx)) vs
 | [],_,_,h=>h
 |x::r,hl,vs,⟨v,t,e,hx,hr⟩=>by
  obtain ⟨h1,h2⟩:=wN hl
  exact ⟨v,t,e,hx.ren he h1,hr.ren he h2⟩
theorem Ch.H.ren (he:∀b,b<16→η' (nx+b)=η (nx+b)) {b:Nat} (hb:b<16) {c:Ch} (hc:∀E l,c= .blk E l→gC l=true) (h:(c.rn nx).H η A w (nx+b)):(c.rn nx).H η' A' w (nx+b):=by
 cases c with
 |blk E l=>
  obtain ⟨g,cs,h1,h2,h3,h4⟩:=h
  exact ⟨g,cs,by rw [he b hb];exact h1,h2,h3.ren he (hc E l rfl),h4⟩
 |row E k l=>
  obtain ⟨v,cs,h1,h2⟩:=h
  exact ⟨v,cs,by rw [he b hb];exact h1,h2⟩
end
section
variable {H:Nat→Option Ch} {η ηc:aY} {w w':World} {nx:Nat}
def iR (nx:Nat) (us:List (Nat×Ch)):List (Nat×Option Ch):=us.map fun p=>(nx+p.1,some (p.2.rn nx))
theorem gd:∀ {us:List (Nat×Ch)} {H:Nat→Option Ch} {b:Nat} {c:Ch},bi (iR nx us) H b=some c→(∃p∈us,b=nx+p.1∧c=p.2.rn nx)∨(H b=some c∧∀p∈us,b≠nx+p.1)
 | [],_,_,_,h=> .inr ⟨h,fun p hp=>(by cases hp)⟩
 |p::us,H,b,c,h=>by
  rcases gd (us:=us) (H:=fun x=>if x=nx+p.1 then some (p.2.rn nx) else H x) h with ⟨q,hq,e⟩|⟨h1,h2⟩
  ·exact .inl ⟨q,List.mem_cons_of_mem _ hq,e⟩
  ·by_cases e:b=nx+p.1
   ·rw [if_pos e] at h1
    cases h1
    exact .inl ⟨p,by simp,e,rfl⟩
   ·rw [if_neg e] at h1
    exact .inr ⟨h1,fun q hq=>by
     rcases List.mem_cons.1 hq with rfl|hq
     ·exact e
     ·exact h2 q hq⟩
theorem mQ:∀ {us:List (Nat×Ch)},iN us=true→∀p∈us,p.1<16
 | [],_,p,hp=>(by cases hp)
 |(b,c)::r,h,p,hp=>by
  unfold iN at h
  cases e:Nat.blt b 16 with
  |false=>rw [e] at h;cases h
  |true=>
   rw [e] at h
   have h2:iN r=true:=by
    cases c with
    |blk E l=>
     simp only at h
     cases e2:gC l with
     |false=>rw [e2] at h;cases h
     |true=>rw [e2] at h;exact h
    |row E k l=>exact h
   rcases List.mem_cons.1 hp with rfl|hp
   ·simpa using e
   ·exact mQ h2 p hp
theorem bj.many (hH:bX H η w) (hfree:∀b,nx≤b→b<nx+16→η b=none) {us:List (Nat×Ch)} (h16:iN us=true) (hb:Below w.heap.size w w') {Ac:Nat→Prop}
  (hch:∀p∈us,(p.2.rn nx).H ηc Ac w' (nx+p.1)) (hap:∀p∈us,∀q∈us,p.1≠q.1→∀g,bf ηc (nx+p.1)=some g→bf ηc (nx+q.1)≠some g) (hfr:∀p∈us,∀g,bf ηc (nx+p.1)=some g→w.heap.size≤g)
  {outs:List AV} (ho:d6 outs=true) {v:Value} (hout:bF ηc Ac w' (outs.map (AV.rn nx)) v) {pre:Option Prop}:
  ∃η',bj H η w nx ⟨outs.map (AV.rn nx),iR nx us,pre,none⟩ v w' η':=by
 let η':aY:=fun b=>if nx≤b∧b<nx+16 then ηc b else η b
 have he:∀b u,η b=some u→η' b=some u:=fun b u hu=>by
  show (if nx≤b∧b<nx+16 then ηc b else η b)=some u
  rw [if_neg (fun h=>by rw [hfree b h.1 h.2] at hu;cases hu)];exact hu
 have hne:∀b,b<nx∨nx+16≤b→η' b=η b:=fun b hb=>by show (if nx≤b∧b<nx+16 then ηc b else η b)=η b;rw [if_neg (by omega)]
 have hnw:∀b,b<16→η' (nx+b)=ηc (nx+b):=fun b hb=>by show (if nx≤nx+b∧nx+b<nx+16 then ηc (nx+b) else η (nx+b))=_;rw [if_pos (by omega)]
 have hlt:∀p∈us,p.1<16∧∀E l,p.2= .blk E l→gC l=true:=by
  clear hch hap hfr
  induction us with
  |nil=>exact fun p hp=>(by cases hp)
  |cons x r ih=>
   obtain ⟨b,c⟩:=x
   unfold iN at h16
   cases e:Nat.blt b 16 with
   |false=>rw [e] at h16;cases h16
   |true=>
    rw [e] at h16
    cases c with
    |blk E l=>
     simp only at h16
     cases e2:gC l with
     |false=>rw [e2] at h16;cases h16
     |true=>
      rw [e2] at h16
      intro p hp
      rcases List.mem_cons.1 hp with rfl|hp
      ·exact ⟨by simpa using e,fun E' l' h=>by cases h;exact e2⟩
      ·exact ih h16 p hp
    |row E k l=>
     intro p hp
     rcases List.mem_cons.1 hp with rfl|hp
     ·exact ⟨by simpa using e,fun E' l' h=>by cases h⟩
     ·exact ih h16 p hp
 have hold:∀b c,bi (iR nx us) H b=some c→(∀p∈us,b≠nx+p.1)→η' b=η b∧H b=some c:=fun b c hb hn=>by
  rcases gd hb with ⟨p,hp,e,_⟩|⟨h1,_⟩
  ·exact absurd e (hn p hp)
  ·refine ⟨?_,h1⟩
   by_cases hi:nx≤b∧b<nx+16
   ·have:=hfree b hi.1 hi.2
    have h2:=hH.chunk b c h1
    cases c with
    |blk E l=>obtain ⟨g,cs,q1,_⟩:=h2;rw [this] at q1;cases q1
    |row E k l=>obtain ⟨u,cs,q1,_⟩:=h2;rw [this] at q1;cases q1
   ·exact hne b (by omega)
 have hfp:∀b g,H b≠none→bf η b=some g→g<w.heap.size:=fun x g hx hg=>by
  cases e:H x with
  |none=>exact absurd e hx
  |some cx=>
   have:=hH.chunk x cx e
   cases cx with
   |blk E l=>
    obtain ⟨g',cs,h1,h2,_⟩:=this
    unfold bf at hg;rw [h1] at hg;cases hg;exact h2.lt
   |row E k l=>
    obtain ⟨u,cs,h1,h2,h3⟩:=this
    rcases h3.2 with ⟨rfl,_⟩|⟨g',cap,cur,rfl,_,h4,_⟩
    ·unfold bf at hg;rw [h1] at hg;cases hg
    ·unfold bf at hg;rw [h1] at hg;cases hg;exact (Array.getElem?_eq_some_iff.1 h4).1
 have hcase:∀b,bi (iR nx us) H b≠none→(∃p∈us,b=nx+p.1∧bf η' b=bf ηc (nx+p.1))∨(H b≠none∧bf η' b=bf η b∧∀p∈us,b≠nx+p.1):=fun b hb=>by
  cases e:bi (iR nx us) H b with
  |none=>exact absurd e hb
  |some c=>
   by_cases hn:∀p∈us,b≠nx+p.1
   ·obtain ⟨h1,h2⟩:=hold b c e hn
    exact .inr ⟨by rw [h2];simp,by unfold bf;rw [h1],hn⟩
   ·rcases gd e with ⟨p,hp,e1,_⟩|⟨_,h2⟩
    ·refine .inl ⟨p,hp,e1,?_⟩
     subst e1
     unfold bf;rw [hnw _ (hlt p hp).1]
    ·exact absurd h2 hn
 have hA:∀g,g<w.heap.size→ay H η g→ay (bi (iR nx us) H) η' g:=fun g hg ha b hb=>by
  rcases hcase b hb with ⟨p,hp,_,e⟩|⟨h1,e,_⟩
  ·rw [e];intro h;have:=hfr p hp g h;omega
  ·rw [e];exact ha b h1
 have hfw:Fw H η w (bi (iR nx us) H) η' w':=⟨hb.os,hb.tape,hb.output,hb.size,he,fun g hg ha=>⟨hb.block g hg,hA g hg ha⟩⟩
 refine ⟨η',?_,⟨fun b c hbc=> ?_,fun b b' g hbb h1 h2 hg=> ?_⟩,hfw,hne,trivial⟩
 ·cases outs with
  |nil=>trivial
  |cons x r=>
   cases r with
   |nil=>exact AV.H.ren hnw ho hout
   |cons y r=>
    obtain ⟨vs,e,h⟩:=hout
    exact ⟨vs,e,bp.ren (l:=x::y::r) hnw ho h⟩
 ·rcases gd hbc with ⟨p,hp,rfl,rfl⟩|⟨h1,h2⟩
  ·exact Ch.H.ren hnw (hlt p hp).1 (hlt p hp).2 (hch p hp)
  ·exact (hH.chunk b c h1).later hfw.lt fun g hg=>hb.block g (hfp b g (by rw [h1];simp) hg)
 ·rcases hcase b h1 with ⟨p,hp,e1,e2⟩|⟨q1,e1,q2⟩
  ·rw [e2] at hg
   rcases hcase b' h2 with ⟨q,hq,e3,e4⟩|⟨q1,e3,q2⟩
   ·rw [e4];exact hap p hp q hq (fun e=>hbb (by rw [e1,e3,e])) g hg
   ·rw [e3];intro h;have:=hfr p hp g hg;have:=hfp b' g q1 h;omega
  ·rw [e1] at hg
   rcases hcase b' h2 with ⟨q,hq,e3,e4⟩|⟨q3,e3,q4⟩
   ·rw [e4];intro h;have:=hfr q hq g h;have:=hfp b g q1 hg;omega
   ·rw [e3];exact hH.apart b b' g hbb q1 q3 hg
end
section
variable {ty:Nat→TE} {ct:Nat→Option CF} {H:Nat→Option Ch} {η:aY} {w:World} {nx:Nat}
end
def Rs (p:Option Prop) (k:Prop):Prop:=match p with |none=>k|some p=>p∧k
theorem KY {p:Option Prop} {k:Prop} (h:Rs p k):aW p∧k:=by cases p<;>first |exact ⟨trivial,h⟩|exact h
def jQ (ty:Nat→TE):List ResultVar→Nat→AS→(List (Nat×Nat×List AV)→Prop)→Prop
 | [],_,_,k=>k []
 | .tmp t::r,i,S,k=>jQ ty r (i+1) S fun l=>k ((i,1,bG S.sl t)::l)
 | .cell a t::r,i,S,k=>match bG S.sl a with
  | [av]=>match (nl ty t av).run (bG S.sl) (aH S.hp) [] with
   | .ok res _ _=>Rs res.pre (jQ ty r (i+1) S fun l=>k ((i,1,res.out)::l))
   |_=>False
  |_=>False
def Gy:Nat→List AV→List Nat
 |_,[]=> []
 |i,_::r=>i::Gy (i+1) r
def wy:Nat→List AV→List (Nat×AV)
 |_,[]=> []
 |i,x::r=>(i,x)::wy (i+1) r
def aD (ty:Nat→TE) (N:Nat) (rs:List ResultVar) (outs:List AV) (us:List (Nat×Ch)):KK:=fun e S'=>match e with
 | .exit _=>False
 |_=>jQ ty rs N S' fun l=>gN ⟨l,S'.hp,S'.nx⟩ 1000 (Gy N outs) ⟨wy N outs,us⟩ [] fun _=>True
def G4 (tmps:Array Value):ResultVar→Sem Value
 | .tmp t=>pure (tmps.getD t undef)
 | .cell a t=>do loadVar t (←asAddr (tmps.getD a undef))
section
variable {ty:Nat→TE} {ct:Nat→Option CF} {H:Nat→Option Ch} {η:aY} {w:World} {nx N:Nat}
theorem nG (hT:a8 ty) {S:AS} {a:Act} (hS:eH (bG S.sl) (aH S.hp) N η a w):∀ {rs:List ResultVar} {i:Nat} {k:List (Nat×Nat×List AV)→Prop},jQ ty rs i S k→∃l vs,k l∧(rs.mapM (G4 a.tmps)).run Tryz.prog w= .ok vs w∧vs.length=rs.length∧∀t,bG l t= []∨∃j v,t=i+j∧vs[j]?=some v∧bF η (ay (aH S.hp) η) w (bG l t) v
 | [],i,k,h=>⟨[],[],h,rfl,rfl,fun t=> .inl rfl⟩
 |r::rs,i,k,h=>by
  have key:∀(out:List AV) (v:Value),(G4 a.tmps r).run Tryz.prog w= .ok v w→bF η (ay (aH S.hp) η) w out v→(jQ ty rs (i+1) S fun l=>k ((i,1,out)::l))→∃l vs,k l∧((r::rs).mapM (G4 a.tmps)).run Tryz.prog w= .ok vs w∧vs.length=(r::rs).length∧∀t,bG l t= []∨∃j v,t=i+j∧vs[j]?=some v∧bF η (ay (aH S.hp) η) w (bG l t) v:=fun out v hv ho hr=>by
   obtain ⟨l,vs,h1,h2,h3,h4⟩:=nG hT hS hr
   refine ⟨_,v::vs,h1,?_,by simp [h3],fun t=> ?_⟩
   ·rw [List.mapM_cons,Sem.run_bind,hv,Result.andThen_ok,Sem.run_bind,h2];rfl
   ·simp only [bG]
    cases e:Nat.beq i t with
    |true=>exact .inr ⟨0,v,by rw [aL e];rfl,rfl,ho⟩
    |false=>
     rcases h4 t with h5|⟨j,u,h5,h6,h7⟩
     ·exact .inl h5
     ·exact .inr ⟨j+1,u,by omega,by simpa using h6,h7⟩
  cases r with
  |tmp t=>exact key _ _ rfl (hS.slot t) h
  |cell x t=>
   unfold jQ at h
   split at h
   ·rename_i av e1
    split at h
    ·rename_i res rd qs e2
     obtain ⟨hp,h5⟩:=KY h
     have hx:=hS.slot x
     rw [e1] at hx
     obtain ⟨out,pre,v,rfl,h6,h7⟩:=AP hT hS.hpOk e2 hp hx
     refine key _ v ?_ h7 h5
     unfold G4
     unfold Instr.loadAt at h6
     rw [Sem.run_bind] at h6 ⊢
     cases e3:a.tmps.getD x undef with
     |pointer ad=>
      rw [e3] at h6
      cases ad with
      |some ad=>exact h6
      |none=>cases h6
     |_=>rw [e3] at h6;cases h6
    ·exact h.elim
   ·exact h.elim
def A_ (vs:List Value):Value:=match vs with | [v]=>v|l=> .tuple l.toArray
theorem jW {fn:Func} {rs:List ResultVar} (h:fn.results=rs.toArray) {tmps:Array Value} {w:World} {vs:List Value} (hv:(rs.mapM (G4 tmps)).run Tryz.prog w= .ok vs w):(results fn tmps).run Tryz.prog w= .ok (A_ vs) w:=by
 unfold results
 rw [h,Array.mapM_eq_mapM_toList,Sem.run_bind,Sem.run_map]
 refine Eq.trans (congrArg (fun z:Result (List Value)=>(z.andThen fun a w=>Result.ok a.toArray w).andThen fun vs w'=>(pure (if h:vs.size=1 then vs[0] else .tuple vs):Sem Value).run Tryz.prog w') hv) ?_
 rcases vs with _|⟨r,_|⟨q,vs⟩⟩<;>simp [A_]
theorem kP {A:Nat→Prop} {w:World} {ηc:aY} {val:Nat→Value}:∀ {outs:List AV} {vs:List Value} {i:Nat},outs.length=vs.length→(∀j v,vs[j]?=some v→val (i+j)=v)→(∀p∈wy i outs,bF ηc A w [p.2.rn nx] (val p.1))→bp ηc A w (outs.map (AV.rn nx)) vs
 | [],[],_,_,_,_=>rfl
 |x::outs,v::vs,i,hl,hv,h=>⟨v,vs,rfl,by
   have:=h (i,x) (by simp [wy])
   rw [show val (i,x).1=v from hv 0 v rfl] at this
   exact this,kP (i:=i+1) (by simpa using hl) (fun j u hu=>by rw [show i+1+j=i+(j+1) by omega];exact hv (j+1) u (by simpa using hu)) fun p hp=>h p (by simp [wy,hp])⟩
theorem Jq (hm:Tryz.prog.follows .mixedOrders=true) (hT:a8 ty) (hO:ap ty ct) {f:Nat} {fn:Func} {c:Code} {rs:List ResultVar} (hf:Tryz.prog.funcs[f]?=some fn) (hb:fn.body=some c) (hr:fn.results=rs.toArray) {l:List AV} (hl:fc 0 l=true) (hlen:l.length≤fn.ntmps)
  {outs:List AV} {us:List (Nat×Ch)} (ho:outs.length=rs.length) (h16:d6 outs=true) (hh16:iN us=true) (hvc:vc ty ct fn.ntmps c ⟨al 0 l,[],2000⟩ (aD ty fn.ntmps rs outs us))
  (hnx:1000≤nx) (hH:bX H η w) (hfree:∀b,nx≤b→b<nx+16→η b=none) {A:Nat→Prop} {vs:List Value} (hv:bp η A w l vs) {pre:Option Prop}:
  Calls Tryz.prog f vs.toArray w fun e w'=>∃v η',e= .returned v∧bj H η w nx ⟨outs.map (AV.rn nx),iR nx us,pre,none⟩ v w' η':=by
 refine calls_of_wp hf hb ?_
 have hv0:bp (fun _=>none) (ay (aH []) (fun _=>none)) w l vs:=hv.names (n:=0) (fun b hb=>by omega) (fun g _ b hb=>absurd rfl hb) hl
 obtain ⟨hvl,hsl⟩:=lH (i:=0) hv0
 have hS:pX fn.ntmps ⟨al 0 l,[],2000⟩ (fun _=>none) {tmps:=vs.toArray++Array.replicate (fn.ntmps-vs.toArray.size) undef,defers:= []} w:=by
  refine ⟨⟨rfl,?_,fun t=> ?_,fun b c h=>(by cases h),fun b b' g _ h=>absurd rfl h⟩,fun _ _=>rfl⟩
  ·simp;omega
  ·rcases hsl t with h|⟨x,v,h1,h2,h3,h4⟩
   ·show bF _ _ _ (bG (al 0 l) t) _
    rw [h];trivial
   ·show bF _ _ _ (bG (al 0 l) t) _
    rw [h1]
    have e:(vs.toArray++Array.replicate (fn.ntmps-vs.toArray.size) undef).getD t undef=v:=by
     rw [Array.getD_eq_getD_getElem?,Array.getElem?_append_left (by simp;exact (List.getElem?_eq_some_iff.1 h3).1)]
     simp only [Nat.sub_zero] at h3
     rw [List.getElem?_toArray,h3];rfl
    show bF _ _ _ [x] (Array.getD _ t undef)
    rw [e]
    exact h4
 refine wp_mono (nR hm hO c _ _ hvc _ _ _ hS) fun e a' w' hP=> ?_
 obtain ⟨e',S',η',h1,h2,⟨hS',_⟩,hF,_⟩:=hP
 have key:(jQ ty rs fn.ntmps S' fun l=>gN ⟨l,S'.hp,S'.nx⟩ 1000 (Gy fn.ntmps outs) ⟨wy fn.ntmps outs,us⟩ [] fun _=>True)→a'.defers= []∧∃v,(results fn a'.tmps).run Tryz.prog w'= .ok v w'∧∃v' η'',Ending.returned v= .returned v'∧bj H η w nx ⟨outs.map (AV.rn nx),iR nx us,pre,none⟩ v' w' η'':=fun hrd=>by
  obtain ⟨l2,vals,hmt,hres,hvl2,hsl2⟩:=nG hT hS' hrd
  refine ⟨hS'.df,_,jW hr hres,?_⟩
  have hget:∀j v,vals[j]?=some v→(a'.tmps++vals.toArray).getD (fn.ntmps+j) undef=v:=fun j v hj=>by
   rw [Array.getD_eq_getD_getElem?,Array.getElem?_append_right (by rw [hS'.sz];omega),hS'.sz,show fn.ntmps+j-fn.ntmps=j by omega,List.getElem?_toArray,hj];rfl
  have hS2:eH (bG l2) (aH S'.hp) (fn.ntmps+vals.length) η' {tmps:=a'.tmps++vals.toArray,defers:= []} w':=by
   refine ⟨rfl,by simp [hS'.sz],fun t=> ?_,hS'.chunk,hS'.apart⟩
   rcases hsl2 t with h|⟨j,v,rfl,h3,h4⟩
   ·rw [h];trivial
   ·show bF _ _ _ _ (Array.getD _ _ undef)
    rw [hget j v h3]
    exact h4
  obtain ⟨τ,hτ,_,_,_,hX⟩:=jH (S:=⟨l2,S'.hp,S'.nx⟩) hS2 (yN hnx hmt)
  have hlt:∀p∈us,cC p.1=true∧dy nx p.1=nx+p.1:=fun p hp=>by
   have:p.1<1000:=by
    have:=mQ hh16 p hp;omega
   have hbn:cC p.1=true:=by simpa [cC] using this
   exact ⟨hbn,by unfold dy;rw [hbn]⟩
  have hM:iJ nx (iE us []) η' (ay (aH S'.hp) η') τ (bZ nx τ η') (fun _=>True):=
   ⟨fun b _ hlt v hv=>by rw [cX hlt];exact hv,fun b c hb hs=>by rw [cB (eM hb),hs],fun b hb hs=>by rw [cB (eM hb),hs],fun _ _=>trivial,fun _ _ _ _=>trivial⟩
  obtain ⟨x1,x2⟩:=hX _ _ hM
  have hfp:∀p∈us,∀g,bf (bZ nx τ η') (nx+p.1)=some g→∃a,bm τ.m p.1=some (some a)∧aH S'.hp a≠none∧bf η' a=some g:=fun p hp g hg=>by
   obtain ⟨q1,q2⟩:=hlt p hp
   obtain ⟨d,d1,d2⟩:=(x2 p hp).2.2 q1
   have eh:=cB (nx:=nx) (τ:=τ) (η:=η') (eM q1)
   rw [d1] at eh
   unfold bf at hg
   cases d with
   |none=>rw [eh] at hg;cases hg
   |some a=>rw [eh] at hg;exact ⟨a,d1,d2 a rfl,hg⟩
  have hall:=kP (val:=fun t=>(a'.tmps++vals.toArray).getD t undef) (ho.trans hvl2.symm) hget x1
  obtain ⟨η'',hR⟩:=bj.many (ηc:=bZ nx τ η') (Ac:=fun _=>True) (pre:=pre) hH hfree hh16 (w':=w') ⟨hF.os,hF.tape,hF.output,hF.size,fun g hg=>(hF.anon g hg fun b hb=>absurd rfl hb).1⟩
   (fun p hp=>by have:=(x2 p hp).1;rw [(hlt p hp).2] at this;exact this)
   (fun p hp q hq hne g hg hg'=>by
    obtain ⟨a,a1,a2,a3⟩:=hfp p hp g hg
    obtain ⟨b,b1,b2,b3⟩:=hfp q hq g hg'
    refine hS'.apart a b g ?_ a2 b2 a3 b3
    rintro rfl
    exact hne (hτ.inj _ _ _ a1 b1))
   (fun p hp g hg=>by
    obtain ⟨a,a1,a2,a3⟩:=hfp p hp g hg
    rcases Nat.lt_or_ge g w.heap.size with h|h
    ·exact absurd a3 ((hF.anon g h fun b hb=>absurd rfl hb).2 a a2)
    ·exact h)
   h16 (outs:=outs) (v:=A_ vals) (by
    rcases outs with _|⟨x,_|⟨y,outs⟩⟩
    ·trivial
    ·obtain ⟨v,t,e,h1,h2⟩:=hall
     cases h2
     rw [e]
     exact h1
    ·obtain ⟨v,t,e,h1,v2,t2,e2,h3,h4⟩:=hall
     subst e2
     rw [e]
     exact ⟨_,rfl,_,_,rfl,h1,_,_,rfl,h3,h4⟩)
  exact ⟨_,η'',rfl,hR⟩
 cases e with
 |normal=>cases h1;exact key h2
 |ret=>cases h1;exact key h2
 |exit id=>cases h1;exact h2.elim
 |panic c=>cases h1
 |outgrown=>cases h1
 |goto l=>cases h1
end
def sS:List (Nat×TE)→Nat→TE
 | [],_=>⟨.oth,0,[]⟩
 |(u,e)::r,t=>match Nat.beq u t with |true=>e|false=>sS r t
def PN (p:Nat×TE):Prop:=∃i d z,s9 (fun _=>p.2) p.1 i d z
theorem Ho:∀ {l:List (Nat×TE)},(∀p∈l,PN p)→a8 (sS l)
 | [],_,t=> .inl rfl
 |(u,e)::r,h,t=>by
  cases eq:Nat.beq u t with
  |true=>
   have e1:=aL eq
   subst e1
   obtain ⟨i,d,z,hK⟩:=h (u,e) (by simp)
   have:sS ((u,e)::r) u=e:=by simp only [sS,eq]
   refine .inr ⟨i,d,z,hK.info,hK.und,?_,?_,hK.zero,?_,hK.one,?_,?_,?_,hK.bytes⟩
   all_goals rw [this]
   ·exact hK.desc
   ·exact hK.size
   ·exact hK.cells
   ·exact hK.kz
   ·exact hK.zs
   ·exact hK.ks
  |false=>
   have:sS ((u,e)::r) t=sS r t:=by simp only [sS,eq]
   rcases Ho (l:=r) (fun p hp=>h p (List.mem_cons_of_mem _ hp)) t with h1|⟨i,d,z,hK⟩
   ·exact .inl (by rw [this];exact h1)
   ·refine .inr ⟨i,d,z,hK.info,hK.und,?_,?_,hK.zero,?_,hK.one,?_,?_,?_,hK.bytes⟩
    all_goals rw [this]
    ·exact hK.desc
    ·exact hK.size
    ·exact hK.cells
    ·exact hK.kz
    ·exact hK.zs
    ·exact hK.ks
theorem St {t:Nat} {e:TE} {d:TypeDesc} {cells:List Value} {bytes:Nat} (hi:(Tryz.prog.info? t).map (fun i=>(i.zero.map fun z=>z.cells.toList,i.size,i.bytes))=some (some cells,e.size,bytes)) (hu:Tryz.prog.underlying t=some d) (hd:qx d e.ti)
  (hc:∀η A w,aO η A w e.zero cells) (h1:∀v∈cells,v.oneCell'=true) (hk:∀k,e.ti= .k k→k.rp.rep k.df cells∧e.size=k.n) (hl:cells.length=e.size) (hb:bytes≤4096):PN (t,e):=by
 obtain ⟨i,h2,h3⟩:=Option.map_eq_some_iff.1 hi
 simp only [Prod.mk.injEq] at h3
 obtain ⟨h4,h5,h6⟩:=h3
 obtain ⟨z,h7,h8⟩:=Option.map_eq_some_iff.1 h4
 exact ⟨i,d,z,h2,hu,hd,h5,h7,by rw [h8];exact hc,by rw [h8];exact h1,by rw [h8];exact fun k hk'=>(hk k hk').1,by rw [←Array.length_toList,h8,hl],fun k hk'=>(hk k hk').2,by rw [h6];exact hb⟩
theorem gv {t:Nat} {k:Kd} {d:TypeDesc} {v:Value} {bytes:Nat} (hv:k.rp.rep k.df [v]) (hn:k.n=1) (hd:qx d (.k k)) (hi:(Tryz.prog.info? t).map (fun i=>(i.zero.map fun z=>z.cells.toList,i.size,i.bytes))=some (some [v],1,bytes)) (hu:Tryz.prog.underlying t=some d) (hb:bytes≤4096):PN (t,⟨.k k,1,[.ob k k.df]⟩):=
 St hi hu hd (fun η A w=>⟨[v],[],rfl,hv,rfl⟩) (fun u hu=>k.rp.one _ _ hv u hu) (fun q hq=>by cases hq;exact ⟨hv,hn.symm⟩) rfl hb
theorem j2 {t e bytes:Nat} (hi:(Tryz.prog.info? t).map (fun i=>(i.zero.map fun z=>z.cells.toList,i.size,i.bytes))=some (some [.slice none 0 0],1,bytes)) (hu:Tryz.prog.underlying t=some (.slice e)) (hb:bytes≤4096):PN (t,⟨.sl e,1,[.cv (.slice none 0 0)]⟩):=
 St hi hu rfl (fun η A w=>⟨[_],[],rfl,⟨rfl,rfl⟩,rfl⟩) (fun u hu=>by simp at hu;rw [hu];rfl) (fun q hq=>by cases hq) rfl hb
theorem g8 {t e bytes:Nat} (hi:(Tryz.prog.info? t).map (fun i=>(i.zero.map fun z=>z.cells.toList,i.size,i.bytes))=some (some [.pointer none],1,bytes)) (hu:Tryz.prog.underlying t=some (.pointer e)) (hb:bytes≤4096):PN (t,⟨.ptr,1,[.cv (.pointer none)]⟩):=
 St hi hu ⟨e,rfl⟩ (fun η A w=>⟨[_],[],rfl,⟨rfl,rfl⟩,rfl⟩) (fun u hu=>by simp at hu;rw [hu];rfl) (fun q hq=>by cases hq) rfl hb
theorem dS {t:Nat} {e:TE} {d:TypeDesc} {cells:List Value} {bytes:Nat} (hi:(Tryz.prog.info? t).map (fun i=>(i.zero.map fun z=>z.cells.toList,i.size,i.bytes))=some (some cells,e.size,bytes)) (hu:Tryz.prog.underlying t=some d) (hd:qx d e.ti)
  (hc:∀η A w,aO η A w e.zero cells) (hn:li e.zero=true) (hk:∀k,e.ti≠ .k k) (hl:ql e.zero=e.size) (hb:bytes≤4096):PN (t,e):=
 St hi hu hd hc (ii hn (hc (fun _=>none) (fun _=>True) default)) (fun k h=>absurd h (hk k)) ((hc (fun _=>none) (fun _=>True) default).len.trans hl) hb
def ag (fn:Func):Code:=match fn.body with |some c=>c|none=> .skip
theorem cA:Tryz.prog.follows .mixedOrders=true:=by kernel_rfl
def uO (x:AV):AV:=match x with
 | .one (.cv (.int .i64 z))=> .one (.ob .int z)
 | .one (.cv (.bool b))=> .one (.ob .bool b)
 |x=>x
def cK:List AV→List AV
 | []=> []
 |x::r=>uO x::cK r
structure GR where
 outs:List AV
 us:List (Nat×Ch)
 pre:Option Prop
abbrev GF:Type:=List AV→Option GR
def lp:List Cl→(List (List UInt8)→R aG)→R aG
 | [],k=>k []
 |x::r,k=>oG (.one x) fun y=>match y with
  | .one (.ro .u8 l)=>lp r fun q=>k (l::q)
  |_=> .fail
def Q6 (x:Option Cl):Bool:=match x with |some (.vec _ _ _)=>true|_=>false
def j4:List Cl→(List Cl→R aG)→R aG
 | [],k=>k []
 |x::r,k=>match (match x with | .rw _=>true| .sub _ _ _=>true| .cv (.slice none 0 0)=>true|_=>false) with
  |true=>oG (.one x) fun y=>match y with
   | .one y=>j4 r fun l=>k (y::l)
   |_=> .fail
  |false=>j4 r fun l=>k (x::l)
def Iq (a:AV) (k:AV→R aG):R aG:=match a with
 | .agg l=>j4 l fun m=>k (.agg m)
 | .one (.sl b o n c)=> .hp b fun h=>match h with
  |some (.blk _ l)=>match Q6 (wZ l o) with
   |true=>oG (.one (.sl b o n c)) k
   |false=>match o,Nat.beq l.length n,Nat.ble c 16777216,Nat.ble n c with
    |0,true,true,true=>lp l fun q=>k (.one (.bb q))
    |_,_,_,_=> .fail
  |_=> .fail
 |a=>oG a k
def sX:List AV→(List AV→R aG)→R aG
 | [],k=>k []
 |a::r,k=>Iq a fun a=>sX r fun l=>k (a::l)
def PP {α:Type} (g:Nat→Nat) (x:Cl) (k:Cl→α):α:=match x with
 | .ptr b o=>fM (g b) fun b=>k (.ptr b o)
 | .rw b=>fM (g b) fun b=>k (.rw b)
 | .sl b o m c=>fM (g b) fun b=>k (.sl b o m c)
 | .sub b o m=>fM (g b) fun b=>k (.sub b o m)
 |x=>k x
def xn {α:Type} (g:Nat→Nat):List Cl→(List Cl→α)→α
 | [],k=>k []
 |x::r,k=>PP g x fun x=>xn g r fun r=>k (x::r)
def wz {α:Type} (g:Nat→Nat):List AV→(List AV→α)→α
 | [],k=>k []
 |x::r,k=>match x with
  | .one x=>PP g x fun x=>wz g r fun r=>k (.one x::r)
  | .agg l=>xn g l fun l=>wz g r fun r=>k (.agg l::r)
def wA {α:Type} (g:Nat→Nat):List (Nat×Ch)→(List (Nat×Option Ch)→α)→α
 | [],k=>k []
 |(b,c)::r,k=>fM (g b) fun b=>match c with
  | .blk E l=>xn g l fun l=>wA g r fun r=>k ((b,some (.blk E l))::r)
  | .row E q l=>wA g r fun r=>k ((b,some (.row E q l))::r)
theorem E7 {α:Type} (n:Nat) (x:Cl) (k:Cl→α):PP (dy n) x k=k (x.rn n):=by
 cases x<;>first |rfl|(dsimp only [PP];rw [bD];rfl)
theorem qG {α:Type} (n:Nat):∀(l:List Cl) (k:List Cl→α),xn (dy n) l k=k (l.map (Cl.rn n))
 | [],_=>rfl
 |x::r,k=>by rw [xn,E7,qG n r];rfl
theorem xm {α:Type} (n:Nat):∀(l:List AV) (k:List AV→α),wz (dy n) l k=k (l.map (AV.rn n))
 | [],_=>rfl
 | .one x::r,k=>by rw [wz,E7,xm n r];rfl
 | .agg l::r,k=>by rw [wz,qG,xm n r];rfl
def Hs (n:Nat) (l:List (Nat×Ch)):List (Nat×Option Ch):=l.map fun p=>(dy n p.1,some (p.2.rn n))
theorem xp {α:Type} (n:Nat):∀(l:List (Nat×Ch)) (k:List (Nat×Option Ch)→α),wA (dy n) l k=k (Hs n l)
 | [],_=>rfl
 |(b,.blk E l)::r,k=>by rw [wA,bD];simp only [qG,xp n r];rfl
 |(b,.row E q l)::r,k=>by rw [wA,bD];simp only [xp n r];rfl
theorem Ht {n:Nat} {l:List (Nat×Ch)} (h:iN l=true):Hs n l=iR n l:=by
 refine List.map_congr_left fun p hp=> ?_
 have:=mQ h p hp
 rw [show dy n p.1=n+p.1 by unfold dy;rw [show cC p.1=true by simpa [cC] using (show p.1<1000 by omega)]]
theorem lq {nx:Nat} {outs:List AV} {us:List (Nat×Ch)} {p:Option Prop} {sl:Nat→List AV} {H:Nat→Option Ch} {ds:List Bool} {res:aG} {rd:List cu} {qs:List (Bool×Bool)} (h:(wz (dy nx) outs fun o=>wA (dy nx) us fun u=>R.pure ⟨o,u,p,none⟩:R aG).run sl H ds= .ok res rd qs):res=⟨outs.map (AV.rn nx),Hs nx us,p,none⟩:=by
 rw [xm,xp] at h
 simp only [R.run,RR.ok.injEq] at h
 exact h.1.symm
def aq (G:GF):CF:=fun nx args=>sX args fun l=>match fc 0 (cK l),Nat.ble 1000 nx with
 |true,true=>match G (cK l) with
  |some ⟨outs,us,p⟩=>wz (dy nx) outs fun o=>wA (dy nx) us fun u=> .pure ⟨o,u,p,none⟩
  |none=> .fail
 |_,_=> .fail
section
variable {ty:Nat→TE} {ct:Nat→Option CF} {H:Nat→Option Ch} {η:aY} {w:World} {nx:Nat} {sl:Nat→List AV} {ds:List Bool} {res:aG} {qs:List (Bool×Bool)}
theorem AR (η:aY) (A:Nat→Prop) (w:World):Lt η A w η (fun _=>True) w:=⟨fun _ _ h=>h,fun _ _ _=>⟨rfl,trivial⟩⟩
theorem j5 (hH:bX H η w) {x:AV} {k:AV→R aG} {rd:List cu} (h:(oG x k).run sl H ds= .ok res rd qs) {v:Value} (hx:x.H η (ay H η) w v):∃y rd',(k y).run sl H ds= .ok res rd' qs∧y.H η (fun _=>True) w v:=by
 obtain ⟨y,rd1,h1,hy⟩:=lX h hH hx
 refine ⟨y,rd1,h1,?_⟩
 rcases hy with rfl|⟨q,m,rfl,hy⟩
 ·exact hx.later (AR _ _ _)
 ·exact ⟨v,rfl,hy⟩
theorem l9 (hH:bX H η w):∀ {l:List Cl} {k:List (List UInt8)→R aG} {rd:List cu} {cs:List Value},(lp l k).run sl H ds= .ok res rd qs→aO η (ay H η) w l cs→∃q rd',(k q).run sl H ds= .ok res rd' qs∧cs.length=l.length∧q.length=l.length∧∀i (h:i<q.length) (h':i<cs.length),eG (fun _=>True) w .u8 q[i] cs[i]
 | [],k,rd,cs,h,hc=>by cases hc;exact ⟨[],rd,h,rfl,rfl,fun i h=>(by cases h)⟩
 |x::r,k,rd,cs,h,⟨c1,t,e,hx,hr⟩=>by
  unfold lp at h
  have h1:∃v,c1= [v]∧AV.H η (ay H η) w (.one x) v:=by
   cases x
   case ob q z=>cases h
   case vec q n z=>cases h
   case any=>obtain ⟨v,rfl,_⟩:=hx;cases h
   case un=>cases h
   case cv u=>obtain ⟨rfl,h2⟩:=hx;exact ⟨_,rfl,rfl,h2⟩
   case ptr b o=>cases h
   case pix b o i=>cases h
   case pro q z=>cases h
   case sl b o n c=>obtain ⟨hn,g,h2,rfl⟩:=hx;exact ⟨_,rfl,hn,g,h2,rfl⟩
   case rw b=>obtain ⟨v,h2,rfl,h3⟩:=hx;exact ⟨_,rfl,v,h2,rfl,h3⟩
   case sub b lo n=>obtain ⟨v,a,c,h2,rfl,h3⟩:=hx;exact ⟨_,rfl,v,a,c,h2,rfl,h3⟩
   case ro q z=>obtain ⟨v,rfl,h2⟩:=hx;exact ⟨_,rfl,v,rfl,h2⟩
   case bb z=>cases h
   case pbb z=>cases h
   case ln=>cases h
   case mp v f=>cases h
   case rv v l=>obtain ⟨rfl,h2⟩:=hx;exact ⟨_,rfl,rfl,h2⟩
   case fv f l m=>cases h
  obtain ⟨v,rfl,hv⟩:=h1
  obtain ⟨y,rd1,h2,hy⟩:=j5 hH h hv
  split at h2
  ·rename_i z
   obtain ⟨q,rd2,h3,h4,h5,h6⟩:=l9 hH h2 hr
   obtain ⟨v',e',hz⟩:=hy
   cases e'
   refine ⟨z::q,rd2,h3,by rw [e];simp [h4],by simp [h5],fun i hi hi'=> ?_⟩
   subst e
   cases i with
   |zero=>exact hz
   |succ i=>exact h6 i (by simpa using hi) (by simpa using hi')
  ·cases h2
theorem jn (hH:bX H η w):∀ {l:List Cl} {k:List Cl→R aG} {rd:List cu} {cs:List Value},(j4 l k).run sl H ds= .ok res rd qs→aO η (ay H η) w l cs→∃m rd',(k m).run sl H ds= .ok res rd' qs∧aO η (fun _=>True) w m cs
 | [],k,rd,cs,h,hc=>⟨[],rd,h,hc⟩
 |x::r,k,rd,cs,h,⟨c1,t,e,hx,hr⟩=>by
  unfold j4 at h
  split at h
  ·rename_i hk
   have h1:∃v,c1= [v]:=by
    split at hk
    ·obtain ⟨v,_,rfl,_⟩:=hx;exact ⟨_,rfl⟩
    ·obtain ⟨v,a,c,_,rfl,_⟩:=hx;exact ⟨_,rfl⟩
    ·exact ⟨_,hx.1⟩
    ·cases hk
   obtain ⟨v,rfl⟩:=h1
   obtain ⟨y,rd1,h2,hy⟩:=j5 hH h (show AV.H η (ay H η) w (.one x) v from hx)
   split at h2
   ·rename_i y
    obtain ⟨m,rd2,h3,h4⟩:=jn hH h2 hr
    exact ⟨y::m,rd2,h3,[v],t,e,hy,h4⟩
   ·cases h2
  ·obtain ⟨m,rd2,h3,h4⟩:=jn hH h hr
   exact ⟨x::m,rd2,h3,c1,t,e,hx.later (AR _ _ _),h4⟩
theorem Ir (hH:bX H η w) {x:AV} {k:AV→R aG} {rd:List cu} (h:(Iq x k).run sl H ds= .ok res rd qs) {v:Value} (hx:x.H η (ay H η) w v):∃y rd',(k y).run sl H ds= .ok res rd' qs∧y.H η (fun _=>True) w v:=by
 unfold Iq at h
 split at h
 ·obtain ⟨cs,rfl,hc,h1c⟩:=hx
  obtain ⟨m,rd2,h3,h4⟩:=jn hH h hc
  exact ⟨_,rd2,h3,cs,rfl,h4,h1c⟩
 ·rename_i b o n c
  obtain ⟨rd',h1⟩:=bl h
  split at h1
  ·rename_i E l hb
   split at h1
   ·exact j5 hH h1 hx
   ·split at h1
    ·rename_i e1 e2 e3
     obtain ⟨hnc,g,hg,hv⟩:=hx
     obtain ⟨cs,hB,hc,h1c⟩:=dh hH hb hg
     obtain ⟨q,rd2,h2,h3,h4,h5⟩:=l9 hH h1 hc
     have g1:=aL ‹Nat.beq l.length n=true›
     have g2:=bU ‹Nat.ble c 16777216=true›
     have g3:=hB.range (q:=0) (n:=cs.length)
     rw [List.drop_zero,List.take_length] at g3
     refine ⟨_,rd2,h2,some ⟨g,0,none⟩,c,by rw [hv,h4,g1],by omega,?_,fun h=>(by cases h),fun _=>⟨g,0,cs,rfl,trivial,g3,by omega,fun i hi hi'=>h5 i hi hi'⟩⟩
     simp only [maxLen]
     omega
    ·cases h1
  ·cases h1
 ·exact j5 hH h hx
theorem fB (hH:bX H η w):∀ {args:List AV} {k:List AV→R aG} {rd:List cu} {vs:List Value},(sX args k).run sl H ds= .ok res rd qs→bp η (ay H η) w args vs→∃l rd',(k l).run sl H ds= .ok res rd' qs∧bp η (fun _=>True) w l vs
 | [],k,rd,vs,h,hv=>⟨[],rd,h,hv⟩
 |x::r,k,rd,vs,h,⟨v,t,e,hx,hr⟩=>by
  unfold sX at h
  obtain ⟨y,rd1,h1,hy⟩:=Ir hH h hx
  obtain ⟨l,rd2,h2,hl⟩:=fB hH h1 hr
  exact ⟨_,rd2,h2,v,t,e,hy,hl⟩
theorem Gv {A:Nat→Prop} {x:AV} {v:Value} (h:x.H η A w v):(uO x).H η A w v:=by
 unfold uO
 split
 ·exact h.1
 ·exact h.1
 ·exact h
theorem cR {A:Nat→Prop}:∀ {l:List AV} {vs:List Value},bp η A w l vs→bp η A w (cK l) vs
 | [],_,h=>h
 |_::_,_,⟨v,t,e,hx,hr⟩=>⟨v,t,e,Gv hx,cR hr⟩
theorem af (hT : a8 ty) (hO : ap ty ct) {f : Nat} {fn : Func} {c : Code} {rs : List ResultVar} (hf : Tryz.prog.funcs[f]? = some fn) (hn : (fn.name == "runtime.NumGoroutine") = false) (hb : fn.body = some c) (hr : fn.results = rs.toArray) {G : GF}
  (hG:∀l g,G l=some g→aW g.pre→l.length≤fn.ntmps∧g.outs.length=rs.length∧d6 g.outs=true∧iN g.us=true∧vc ty ct fn.ntmps c ⟨al 0 l,[],2000⟩ (aD ty fn.ntmps rs g.outs g.us)):ab f (aq G):=by
 refine ⟨⟨fn,c,hf,hn,hb⟩,fun nx args sl H ds res rd qs h hq hp η w vs hH hv hfree=> ?_⟩
 obtain ⟨l,rd1,h1,hl⟩:=fB hH h hv
 split at h1
 ·rename_i e1 e2
  split at h1
  ·rename_i outs us p e3
   have:=lq h1
   subst this
   obtain ⟨g1,g2,g3,g4,g5⟩:=hG _ _ e3 hp
   rw [Ht g4]
   exact Jq cA hT hO hf hb hr e1 g1 g2 g3 g4 g5 (bU e2) hH hfree (cR hl)
  ·cases h1
 ·cases h1
end
def ah:List (Nat×CF)→Nat→Option CF
 | [],_=>none
 |(g,C)::r,f=>match Nat.beq g f with |true=>some C|false=>ah r f
theorem aR:∀ {l:List (Nat×CF)},(∀p∈l,ab p.1 p.2)→∀f C,ah l f=some C→ab f C
 | [],_,f,C,h=>by cases h
 |(g,D)::r,hl,f,C,h=>by
  unfold ah at h
  cases e:Nat.beq g f with
  |true=>
   rw [e] at h
   have:=aL e
   subst this
   cases h
   exact hl (g,D) (by simp)
  |false=>
   rw [e] at h
   exact aR (fun p hp=>hl p (List.mem_cons_of_mem _ hp)) f C h
def gb (b:List UInt8):Nat→UInt64
 |0=>0
 |i+1=>if i<b.length then j3 (gb b i) 8|||(b.getD i 0).toUInt64 else j3 (gb b i) 8
def tt (x:UInt64) (n i:Nat):List UInt8:=(List.range n).map fun j=>if n-1-j<i then (iI x (8*(n-1-j))).toUInt8 else 0
theorem tu (x:UInt64) (n i:Nat):(tt x n i).length=n:=by simp [tt]
abbrev DH (lo n hi:Int):Prop:=lo≤n∧n≤hi
end Go.Proofs.YtnlhpncaldcllaaGreat
namespace Go.Proofs.YtnlhpncaldcllaaGreat
def Ca:List UInt64:= [4794697086780616226,8158064640168781261,13096744586834688815,16840607885511220156,4131703408338449720,6480981068601479193,10538285296894168987,12329834152419229976,15566598209576043074,1334009975649890238,2608012711638119052,6128411473006802146,8268148722764581231,9286055187155687089,11230858885718282805,13951009754708518548,16472876342353939154,17275323862435702243,1135362057144423861,2597628984639134821,3308224258029322869,5365058923640841347,6679025012923562964,8573033837759648693,10970295158949994411,12119686244451234320,12683024718118986047,13788192230050041572,14330467153632333762,15395433587784984357,489312712824947311,1452737877330783856,2861767655752347644,3322285676063803686,5560940570517711597,5996557281743188959,7280758554555802590,8532644243296465576,9350256976987008742,10552545826968843579,11727347734174303076,12113106623233404929,14000437183269869457,14369950271660146224,15101387698204529176,15463397548674623760,17586052441742319658,1182934255886127544,1847814050463011016,2177327727835720531,2830643537854262169,3796741975233480872,4115178125766777443,5681478168544905931,6601373596472566643,7507060721942968483,8399075790359081724,8693463985226723168,9568029438360202098,10144078919501101548,10430055236837252648,11840083180663258601,13761210420658862357,14299343276471374635,14566680578165727644,15097957966210449927,16922976911328602910,17689382322260857208,500013540394364858,748580250866718886,1242879168328830382,1977374033974150939,2944078676154940804,3659926193048069267,4368137639120453308,4836135668995329356,5532061633213252278,6448918945643986474,6902733635092675308,7801388544844847127]
def FY:List UInt64:= [7640891576956012808,13503953896175478587,4354685564936845355,11912009170470909681,5840696475078001361,11170449401992604703,2270897969802886507,6620516959819538809]
theorem F9:Ca.length=80:=by decide +kernel
def ax (l:List UInt64) (i:Nat):UInt64:=l.getD i 0
def TG (x:UInt64):UInt64:=ux (ux (jf x 1) (jf x 8)) (iI x 7)
def TH (x:UInt64):UInt64:=ux (ux (jf x 19) (jf x 61)) (iI x 6)
def TM (x:UInt64):UInt64:=ux (ux (jf x 28) (jf x 34)) (jf x 39)
def Tv (x:UInt64):UInt64:=ux (ux (jf x 14) (jf x 18)) (jf x 41)
def Tx (e f g:UInt64):UInt64:=ux (ua e f) (ua (un e) g)
def TX (a b c:UInt64):UInt64:=ux (ux (ua a b) (ua a c)) (ua b c)
def It (l:List UInt64) (t:Nat):UInt64:=up (up (up (ax l (t-16)) (TG (ax l (t-15)))) (ax l (t-7))) (TH (ax l (t-2)))
def wL (b:List UInt64):Nat→List UInt64
 |0=> []
 |t+1=>wL b t++ [if t<16 then ax b t else It (wL b t) t]
theorem nS (b:List UInt64):∀t,(wL b t).length=t
 |0=>rfl
 |t+1=>by rw [wL,List.length_append,nS b t];rfl
def T9 (v:List UInt64) (k w:UInt64):List UInt64:=
 [up (up (up (up (up (ax v 7) (Tv (ax v 4))) (Tx (ax v 4) (ax v 5) (ax v 6))) k) w) (up (TM (ax v 0)) (TX (ax v 0) (ax v 1) (ax v 2))),ax v 0,ax v 1,ax v 2,up (ax v 3) (up (up (up (up (ax v 7) (Tv (ax v 4))) (Tx (ax v 4) (ax v 5) (ax v 6))) k) w),ax v 4,ax v 5,ax v 6]
def rL (h w:List UInt64):Nat→List UInt64
 |0=>h
 |t+1=>T9 (rL h w t) (ax Ca t) (ax w t)
def turn (h b:List UInt64):List UInt64:=(List.range 8).map fun i=>up (ax h i) (ax (rL h (wL b 80) 80) i)
theorem Hn (h b:List UInt64):(turn h b).length=8:=by simp [turn]
def fF (x:UInt64):List UInt8:=(aV 8 x.toNat).reverse
def SX (l:List UInt8):UInt64:=UInt64.ofNat (bo l.reverse)
def g9 (l:List UInt8):List UInt64:=(List.range 16).map fun i=>SX ((l.drop (8*i)).take 8)
def dG (l:List UInt8):List UInt8:=l++(128::List.replicate ((240-(l.length+1)%128)%128) 0)++List.replicate 8 0++fF (UInt64.ofNat (8*l.length))
def Oi (m:List UInt8):Nat→List UInt64
 |0=>FY
 |i+1=>turn (Oi m i) (g9 (m.drop (128*i)))
theorem Ka (m:List UInt8):∀i,(Oi m i).length=8
 |0=>rfl
 |_+1=>Hn _ _
def aM (l:List UInt8):List UInt8:=((List.range 8).map fun i=>fF (ax (Oi (dG l) ((dG l).length/128)) i)).flatten
def de (l:List UInt32) (i:Nat):UInt32:=l.getD i 0
def Sm:List UInt32:=(Ca.take 64).map Kc
def TU:List UInt32:=FY.map Kc
def RF (x:UInt32):UInt32:=vx (vx (jg x 7) (jg x 18)) (ll x 3)
def RG (x:UInt32):UInt32:=vx (vx (jg x 17) (jg x 19)) (ll x 10)
def SZ (x:UInt32):UInt32:=vx (vx (jg x 2) (jg x 13)) (jg x 22)
def S4 (x:UInt32):UInt32:=vx (vx (jg x 6) (jg x 11)) (jg x 25)
def TQ (e f g:UInt32):UInt32:=vx (va e f) (va (vn e) g)
def TY (a b c:UInt32):UInt32:=vx (vx (va a b) (va a c)) (va b c)
def Tq (l:List UInt32) (t:Nat):UInt32:=vp (vp (vp (de l (t-16)) (RF (de l (t-15)))) (de l (t-7))) (RG (de l (t-2)))
def nU (b:List UInt32):Nat→List UInt32
 |0=> []
 |t+1=>nU b t++ [if t<16 then de b t else Tq (nU b t) t]
theorem j6 (b:List UInt32):∀t,(nU b t).length=t
 |0=>rfl
 |t+1=>by rw [nU,List.length_append,j6 b t];rfl
theorem Ja {l r:List UInt32} {j:Nat} (h:j<l.length):de (l++r) j=de l j:=by
 unfold de
 rw [List.getD_eq_getElem?_getD,List.getD_eq_getElem?_getD,List.getElem?_append_left h]
theorem j7 (b:List UInt32) {j:Nat}:∀ {t:Nat},j<t→de (nU b t) j=if j<16 then de b j else Tq (nU b j) j
 |0,h=>by omega
 |t+1,h=>by
  rw [nU]
  by_cases hj:j<t
  ·rw [Ja (by rw [j6];exact hj),j7 b hj]
  ·obtain rfl:j=t:=by omega
   unfold de
   rw [List.getD_eq_getElem?_getD,List.getElem?_append_right (by rw [j6];omega),j6,Nat.sub_self]
   rfl
theorem PC (b:List UInt32) {j:Nat} (h:j<16):de (nU b 64) j=de b j:=by rw [j7 b (by omega),if_pos h]
theorem PA (b:List UInt32) {j t:Nat} (h:j<t) (ht:t≤64):de (nU b t) j=de (nU b 64) j:=by rw [j7 b h,j7 b (Nat.lt_of_lt_of_le h ht)]
theorem PB (b:List UInt32) {j:Nat} (h:16≤j) (h2:j<64):de (nU b 64) j=vp (vp (vp (de (nU b 64) (j-16)) (RF (de (nU b 64) (j-15)))) (de (nU b 64) (j-7))) (RG (de (nU b 64) (j-2))):=by
 rw [j7 b h2,if_neg (by omega)]
 unfold Tq
 have k:=fun m (h1:0<m)=>PA b (j:=j-m) (t:=j) (by omega) (by omega)
 rw [k 16 (by omega),k 15 (by omega),k 7 (by omega),k 2 (by omega)]
def TJ (v:List UInt32) (k w:UInt32):UInt32:=vp (vp (vp (vp (de v 7) (S4 (de v 4))) (TQ (de v 4) (de v 5) (de v 6))) k) w
def Ua (v:List UInt32):UInt32:=vp (SZ (de v 0)) (TY (de v 0) (de v 1) (de v 2))
def RA (v:List UInt32) (k w:UInt32):List UInt32:= [vp (TJ v k w) (Ua v),de v 0,de v 1,de v 2,vp (de v 3) (TJ v k w),de v 4,de v 5,de v 6]
def Ry (h w:List UInt32):Nat→List UInt32
 |0=>h
 |t+1=>RA (Ry h w t) (de Sm t) (de w t)
def pJ (h b:List UInt32):List UInt32:=(List.range 8).map fun i=>vp (de h i) (de (Ry h (nU b 64) 64) i)
theorem pK (h b:List UInt32):(pJ h b).length=8:=by simp [pJ]
def Jd (x:UInt32):List UInt8:=(aV 4 x.toNat).reverse
def Nu (l:List UInt8):UInt32:=UInt32.ofNat (bo l.reverse)
def cQ (l:List UInt8):List UInt32:=(List.range 16).map fun i=>Nu ((l.drop (4*i)).take 4)
def CB (l:List UInt8):List UInt8:=l++(128::List.replicate ((119-l.length%64)%64) 0)++fF (UInt64.ofNat (8*l.length))
def DK (m:List UInt8):Nat→List UInt32
 |0=>TU
 |i+1=>pJ (DK m i) (cQ (m.drop (64*i)))
theorem Kb (m:List UInt8):∀i,(DK m i).length=8
 |0=>rfl
 |_+1=>pK _ _
def f9 (l:List UInt8):List UInt8:=((List.range 8).map fun i=>Jd (de (DK (CB l) ((CB l).length/64)) i)).flatten
theorem EC (x:UInt64):(fF x).length=8:=by unfold fF;rw [List.length_reverse,ar]
theorem qa (x:UInt32):(Jd x).length=4:=by unfold Jd;rw [List.length_reverse,ar]
def F4 (k:List UInt8):List UInt8:=(if 64<k.length then f9 k else k)
def fT (n:Nat) (l:List UInt8):List UInt8:=l++List.replicate (n-l.length) 0
def lh (k m:List UInt8):List UInt8:=f9 ((fT 64 (F4 k)).map (· ^^^0x5c)++f9 ((fT 64 (F4 k)).map (· ^^^0x36)++m))
def F2 (prk info:List UInt8):Nat→List UInt8
 |0=> []
 |i+1=>lh prk (F2 prk info i++info++ [UInt8.ofNat (i+1)])
def AF (prk info:List UInt8):Nat→List UInt8
 |0=> []
 |i+1=>AF prk info i++F2 prk info (i+1)
def F3 (salt ikm info:List UInt8) (n:Nat):List UInt8:=(AF (lh salt ikm) info ((n+31)/32)).take n
end Go.Proofs.YtnlhpncaldcllaaGreat
namespace Go.Proofs.YtnlhpncaldcllaaGreat
open Go Go.RowKit
def yi:GF:=fun l=>match l with
 | []=>some ⟨[.agg [.vec .u64 8 FY]],[],none⟩
 |_=>none
def ri:GF:=fun l=>match l with
 | []=>some ⟨[.agg [.vec .u64 80 Ca]],[],none⟩
 |_=>none
def bx {α:Type} (d:α) (n:Nat) (f:Nat→α) (old:List α) (i:Nat):List α:=(List.range n).map fun j=>if j<i then f j else old.getD j d
section
variable {α:Type} {d:α} {n:Nat} {f:Nat→α} {old:List α}
theorem uG (i:Nat):(bx d n f old i).length=n:=by simp [bx]
theorem ce {i j:Nat} (h:j<n):(bx d n f old i).getD j d=if j<i then f j else old.getD j d:=by
 simp [bx,List.getD_eq_getElem?_getD,h]
theorem dl (h:old.length=n):bx d n f old 0=old:=by
 apply List.ext_getElem (by simp [bx,h])
 intro j h1 h2
 simp [bx,List.getD_eq_getElem?_getD,h2]
theorem bq {i:Nat}:(bx d n f old i).set i (f i)=bx d n f old (i+1):=by
 apply List.ext_getElem (by simp [bx])
 intro j h1 h2
 rw [List.getElem_set]
 by_cases e:i=j
 ·subst e;simp [bx]
 ·rw [if_neg e]
  simp only [bx,List.getElem_map,List.getElem_range]
  by_cases e2:j<i
  ·rw [if_pos e2,if_pos (by omega)]
  ·rw [if_neg e2,if_neg (by omega)]
theorem b7 {i:Nat} (h:n≤i):bx d n f old i=(List.range n).map f:=by
 apply List.map_congr_left
 intro j hj
 rw [List.mem_range] at hj
 rw [if_pos (by omega)]
end
theorem ED (x:UInt64) (n:Nat):tt x n n=(aV n x.toNat).reverse:=by
 apply List.ext_getElem (by simp [tt,ar])
 intro j h1 h2
 simp only [tu] at h1
 rw [List.getElem_reverse,cD]
 simp only [tt,List.getElem_map,List.getElem_range,ar]
 rw [if_pos (by omega),iI,UInt64.toUInt8_ofNat']
theorem FT (l:List UInt8):∀n,n≤8→n≤l.length→(gb l n).toNat=bo (l.take n).reverse∧bo (l.take n).reverse<256^n
 |0,_,_=>⟨rfl,by simp [bo]⟩
 |n+1,h8,h=>by
  obtain ⟨h1,h2⟩:=FT l n (by omega) (by omega)
  have e:bo (l.take (n+1)).reverse=(l.getD n 0).toNat+256*bo (l.take n).reverse:=by
   rw [List.take_add_one,List.getElem?_eq_getElem (by omega),List.getD_eq_getElem?_getD,List.getElem?_eq_getElem (by omega),List.reverse_append]
   rfl
  have hb:=(l.getD n 0).toNat_lt
  have hp:256^(n+1)≤256^8:=Nat.pow_le_pow_right (by omega) h8
  have hl:bo (l.take (n+1)).reverse<256^(n+1):=by
   rw [e,Nat.pow_succ];omega
  refine ⟨?_,hl⟩
  rw [gb,if_pos (by omega),UInt64.toNat_or,j3,h1,UInt64.toNat_ofNat',UInt8.toNat_toUInt64]
  have e2:bo (l.take n).reverse*2^8%2^64=bo (l.take n).reverse*2^8:=Nat.mod_eq_of_lt (by rw [Nat.pow_succ] at hp hl;omega)
  rw [e2,e,←Nat.shiftLeft_eq,←Nat.shiftLeft_add_eq_or_of_lt (by simpa using hb),Nat.shiftLeft_eq]
  omega
theorem Q5 (x:UInt64):(iI x 32).toUInt32=Kc x:=by
 refine UInt32.toNat_inj.1 ?_
 rw [UInt64.toNat_toUInt32,iI,UInt64.toNat_ofNat',Kc,UInt32.toNat_ofNat']
 have:=x.toNat_lt
 omega
theorem je {α:Type} {d:α} {l:List α} {n:Nat} (h:l.length=n):((List.range n).map fun i=>l.getD i d)=l:=by
 apply List.ext_getElem (by simp [h])
 intro j h1 h2
 simp [List.getD_eq_getElem?_getD,h2]
theorem Gh {α β:Type} {d:α} {e:β} {l:List α} {f:α→β} {i:Nat} (h:i<l.length):(l.map f).getD i e=f (l.getD i d):=by
 simp [List.getD_eq_getElem?_getD,h]
theorem aZ {α:Type} {d:α} {f:Nat→α} {n i:Nat} (h:i<n):((List.range n).map f).getD i d=f i:=by
 simp [List.getD_eq_getElem?_getD,h]
theorem jd {α:Type} (f:Nat→List α) (n:Nat):((List.range (n+1)).map f).flatten=((List.range n).map f).flatten++f n:=by
 rw [List.range_succ];simp
theorem sd {p q:Prop} (hq:q) (hp:p:=by first |omega|exact And.intro (by omega) (by omega)|exact And.intro (by omega) (And.intro (by omega) (by omega))|exact And.intro (And.intro (by omega) (by omega)) (And.intro (by omega) (by omega))|exact And.intro (by decide) (by decide)|(dsimp only [yG,Nm.toInt];omega)|exact And.intro (And.intro (by decide) (by dsimp only [Nm.toInt];omega)) trivial|exact And.intro (by decide) (by dsimp only [Nm.toInt];omega)|(refine And.intro ?_ (And.intro ?_ (And.intro ?_ ?_))<;>omega)|(simp only [List.length_append,List.length_cons,List.length_nil,List.length_replicate,List.length_take,List.length_drop];omega)|exact Int.natCast_nonneg _):p∧q:=⟨hp,hq⟩
theorem sr {p q:Prop} (hq:q) (hp:p:=by rfl):p∧q:=⟨hp,hq⟩
theorem sj {ι:Type} {μ:ι→Nat} {i:ι} {P:ι→Prop} (j:ι) (h:P j) (hm:μ j<μ i:=by first |omega|(dsimp only;omega)):∃j,μ j<μ i∧P j:=⟨j,hm,h⟩
abbrev GH (b:List UInt8) (k:Nat):List UInt8:=((List.range k).map fun i=>Jd (de (DK (CB b) ((CB b).length/64)) i)).flatten
theorem y7 (b:List UInt8) (k:Nat):(GH b k).length=4*k:=by
 induction k with
 |zero=>rfl
 |succ k ih=>rw [GH,jd,List.length_append,ih,qa];omega
theorem ae {f:Nat} {C:CF} {l:List (Nat×CF)} (h:ab f C) (hl:∀p∈l,ab p.1 p.2):∀p∈(f,C)::l,ab p.1 p.2:=fun p hp=>by
 rcases List.mem_cons.1 hp with rfl|hp
 ·exact h
 ·exact hl p hp
theorem zw (l:List UInt8):(f9 l).length=32:=y7 l 8
theorem GN {l:List UInt8} {n:Nat} (h:l.length≤n):(fT n l).length=n:=by simp [fT];omega
theorem mP (k m:List UInt8):(lh k m).length=32:=zw _
theorem Ke (k m:List UInt8) (i:Nat):(F2 k m i).length≤32:=by
 cases i with
 |zero=>exact Nat.zero_le _
 |succ i=>exact Nat.le_of_eq (mP _ _)
theorem jC (k m:List UInt8):∀i,(AF k m i).length=32*i
 |0=>rfl
 |i+1=>by
  rw [AF,List.length_append,jC k m i,F2,mP];omega
section
variable {α:Type} {d:α} {n:Nat} {f:Nat→α} {old:List α} {P Q:Nat→Bool}
end
def kC (A:List UInt64) (x:Nat):UInt64:=ax A x^^^ax A (x+5)^^^ax A (x+10)^^^ax A (x+15)^^^ax A (x+20)
def kD (A:List UInt64) (x:Nat):UInt64:=kC A ((x+4)%5)^^^(j3 (kC A ((x+1)%5)) 1|||iI (kC A ((x+1)%5)) 63)
def bS (A:List UInt64):List UInt64:=(List.range 25).map fun k=>ax A k^^^kD A (k%5)
def rT (t:Nat):Nat:=(t+1)*(t+2)/2%64
def CY (A:List UInt64):Nat→(Nat×Nat)×List UInt64
 |0=>((1,0),(List.replicate 25 0).set 0 (ax A 0))
 |t+1=>(((CY A t).1.2,(2*(CY A t).1.1+3*(CY A t).1.2)%5),(CY A t).2.set ((CY A t).1.2+5*((2*(CY A t).1.1+3*(CY A t).1.2)%5)) (j3 (ax A ((CY A t).1.1+5*(CY A t).1.2)) (rT t)|||iI (ax A ((CY A t).1.1+5*(CY A t).1.2)) (64-rT t)))
theorem OU:∀t,t<24→0<rT t∧(t+1)*(t+2)≤1000:=by decide
theorem OV (x y:Nat):((y:Int)+5*((2*(x:Int)+3*(y:Int))%5)).toNat=y+5*((2*x+3*y)%5):=by
 rw [show 2*(x:Int)+3*(y:Int)=((2*x+3*y:Nat):Int) by omega]
 generalize 2*x+3*y=m
 omega
def eo (A:List UInt64):List UInt64:=(CY A 24).2
def gk (B:List UInt64):List UInt64:=(List.range 25).map fun k=>ax B k^^^(~~~ax B ((k%5+1)%5+5*(k/5))&&&ax B ((k%5+2)%5+5*(k/5)))
def Td (l:UInt8):UInt8:=if r8 l 7=1 then s8 l 1^^^113 else s8 l 1
def eL (A:List UInt64) (l:UInt8):Nat→List UInt64×UInt8
 |0=>(A,l)
 |j+1=>(if (eL A l j).2&&&1=1 then (eL A l j).1.set 0 (ax (eL A l j).1 0^^^j3 1 (j3 1 j-1).toNat) else (eL A l j).1,Td (eL A l j).2)
def i9 (s:List UInt64×UInt8):List UInt64×UInt8:=eL (gk (eo (bS s.1))) s.2 7
def pi (A:List UInt64):Nat→List UInt64×UInt8
 |0=>(A,1)
 |i+1=>i9 (pi A i)
def bh (A:List UInt64):List UInt64:=(pi A 24).1
theorem kt {A:List UInt64} {l:UInt8} (h:A.length=25):∀j,(eL A l j).1.length=25
 |0=>h
 |j+1=>by
  simp only [eL]
  split
  ·rw [List.length_set];exact kt h j
  ·exact kt h j
theorem lC {A:List UInt64} (h:A.length=25):∀i,(pi A i).1.length=25
 |0=>h
 |i+1=>kt (by simp [gk]) 7
theorem fX {A:List UInt64} (h:A.length=25):(bh A).length=25:=lC h 24
def mT (r:Nat):Prop:=r=72∨r=136∨r=168
def lj (r n:Nat):Nat:=(r-(n+1)%r)%r
theorem OX {r n:Nat} (h:mT r):lj r n≤168∧∃K,n+1+lj r n=r*K:=by
 unfold lj
 rcases h with rfl|rfl|rfl
 ·exact ⟨by omega,(n+1+(72-(n+1)%72)%72)/72,by omega⟩
 ·exact ⟨by omega,(n+1+(136-(n+1)%136)%136)/136,by omega⟩
 ·exact ⟨by omega,(n+1+(168-(n+1)%168)%168)/168,by omega⟩
def zy (b:List UInt8) (x:UInt8) (i:Nat):List UInt8:=b++x::List.replicate i 0
theorem Bq (b:List UInt8) (x:UInt8) (i:Nat):(zy b x i).length=b.length+1+i:=by simp [zy];omega
def ji (r:Nat) (x:UInt8) (b:List UInt8):List UInt8:=(zy b x (lj r b.length)).set (b.length+lj r b.length) ((zy b x (lj r b.length)).getD (b.length+lj r b.length) 0|||128)
theorem Br (r:Nat) (x:UInt8) (b:List UInt8):(ji r x b).length=b.length+1+lj r b.length:=by simp [ji,Bq]
def DP (s:List UInt64) (m:List UInt8) (o:Nat):Nat→List UInt64
 |0=>s
 |i+1=>(DP s m o i).set (i/8) (ax (DP s m o i) (i/8)^^^j3 (m.getD (o+i) 0).toUInt64 (8*(i%8)))
theorem lS {s:List UInt64} (h:s.length=25) (m:List UInt8) (o:Nat):∀i,(DP s m o i).length=25
 |0=>h
 |i+1=>by rw [DP,List.length_set];exact lS h m o i
def DN (r:Nat) (m:List UInt8):Nat→List UInt64
 |0=>List.replicate 25 0
 |k+1=>bh (DP (DN r m k) m (r*k) r)
theorem sJ (r:Nat) (m:List UInt8):∀k,(DN r m k).length=25
 |0=>rfl
 |k+1=>fX (lS (sJ r m k) _ _ _)
def f_ (s:List UInt64):Nat→List UInt64
 |0=>s
 |k+1=>bh (f_ s k)
theorem dX {s:List UInt64} (h:s.length=25):∀k,(f_ s k).length=25
 |0=>h
 |k+1=>fX (dX h k)
def Dc (r:Nat) (s:List UInt64) (j:Nat):UInt8:=(iI (ax (f_ s (j/r)) (j%r/8)) (8*(j%r%8))).toUInt8
def eS (r:Nat) (x:UInt8) (b:List UInt8) (n:Nat):List UInt8:=(List.range n).map (Dc r (DN r (ji r x b) ((ji r x b).length/r)))
theorem zA {r k i:Nat} (s:List UInt64) (h:i<r):Dc r s (r*k+i)=(iI (ax (f_ s k) (i/8)) (8*(i%8))).toUInt8:=by
 unfold Dc
 rw [Nat.mul_add_div (by omega),Nat.mul_add_mod,Nat.mod_eq_of_lt h,Nat.div_eq_of_lt h,Nat.add_zero]
theorem Th (i:Nat):((i:Int)/8).toNat=i/8:=by omega
theorem TD (i:Nat):(8*((i:Int)%8)).toNat=8*(i%8):=by omega
theorem zh {α:Type} (f:Nat→α) (n:Nat):(List.range (n+1)).map f=(List.range n).map f++ [f n]:=by rw [List.range_succ];simp
theorem v8 {r:Int} (h:0<r.toNat):r=(r.toNat:Int):=by omega
def gi (n:Nat) (b:List UInt8):List UInt8:=eS (200-2*n) 6 b n
def ep (k n:Nat) (b:List UInt8):List UInt8:=eS (200-2*k) 31 b (min n 65536)
theorem gZ (r:Nat) (x:UInt8) (b:List UInt8) (n:Nat):(eS r x b n).length=n:=by simp [eS]
set_option maxRecDepth 10000
def cI (c:List UInt8) (a:Nat):Nat:=(c.getD (a/8) 0).toNat/2^(a%8)%2
theorem z_ (c:List UInt8) (a:Nat):cI c a<2:=Nat.mod_lt _ (by omega)
theorem GX (x:UInt8) (n:Nat):(r8 x n&&&1).toNat=x.toNat/2^n%2:=by
 rw [UInt8.toNat_and,r8,UInt8.toNat_ofNat',show (1:UInt8).toNat=1 from rfl,Nat.and_one_is_mod]
 have:x.toNat/2^n<256:=Nat.lt_of_le_of_lt (Nat.div_le_self _ _) x.toNat_lt
 rw [Nat.mod_eq_of_lt this]
def aX:Nat→Nat
 |0=>1
 |n+1=>aX n*17%3329
theorem fC:∀n,aX n<3329
 |0=>by decide
 |n+1=>Nat.mod_lt _ (by omega)
def cm (k:Nat):Nat→Nat
 |0=>0
 |i+1=>cm k i*2|||(k/2^i&&&1)
theorem lO (k:Nat):∀i,cm k i<2^i
 |0=>by simp [cm]
 |i+1=>by
  have h:=lO k i
  refine Nat.or_lt_two_pow (by rw [Nat.pow_succ];omega) ?_
  rw [Nat.and_one_is_mod,Nat.pow_succ]
  have:=Nat.mod_lt (k/2^i) (show 2>0 by omega)
  have:=Nat.two_pow_pos i
  omega
def gu (l:List UInt16) (i:Nat):Nat:=(l.getD i 0).toNat
def ou (f g:List UInt16):List UInt16:=(List.range 256).map fun i=>UInt16.ofNat ((gu f i+gu g i)%3329)
def sh (f:List UInt16) (i:Nat):Nat:=gu f i%3329
def eP (f g:List UInt16):Nat→List UInt16
 |0=>List.replicate 256 0
 |i+1=>((eP f g i).set (2*i) (UInt16.ofNat ((sh f (2*i)*sh g (2*i)+sh f (2*i+1)*sh g (2*i+1)%3329*aX (2*cm i 7+1))%3329))).set (2*i+1) (UInt16.ofNat ((sh f (2*i)*sh g (2*i+1)+sh f (2*i+1)*sh g (2*i))%3329))
set_option maxRecDepth 10000
def gr (l:List UInt16) (z n st:Nat):Nat→List UInt16
 |0=>l
 |i+1=>((gr l z n st i).set (st+i+n) (UInt16.ofNat ((gu (gr l z n st i) (st+i)%3329+3329-z*gu (gr l z n st i) (st+i+n)%3329)%3329))).set (st+i) (UInt16.ofNat ((gu (gr l z n st i) (st+i)%3329+z*gu (gr l z n st i) (st+i+n)%3329)%3329))
def oo (l:List UInt16) (n k:Nat):Nat→List UInt16
 |0=>l
 |c+1=>gr (oo l n k c) (aX (cm (k+c) 7)) n (2*n*c) n
def ni (l:List UInt16):Nat→List UInt16
 |0=>l
 |m+1=>oo (ni l m) (128/2^m) (2^m) (2^m)
theorem Sq (m c:Nat) (h:m<7):(2*(128/2^m)*c<256→c+1≤2^m∧2*(128/2^m)*c+2*(128/2^m)≤256)∧(¬2*(128/2^m)*c<256→2^m≤c)∧2≤128/2^m∧128/2^m≤128∧2^m≤64∧128/2^(m+1)=128/2^m/2∧2^(m+1)=2^m+2^m:=by
 have:m=0∨m=1∨m=2∨m=3∨m=4∨m=5∨m=6:=by omega
 rcases this with rfl|rfl|rfl|rfl|rfl|rfl|rfl<;>simp<;>omega
def dn (s:List UInt8) (n:UInt8):List UInt16:=(List.range 256).map fun i=>UInt16.ofNat ((cI (ep 32 128 (s++ [n])) (4*i)+cI (ep 32 128 (s++ [n])) (4*i+1)+3329-cI (ep 32 128 (s++ [n])) (4*i+2)-cI (ep 32 128 (s++ [n])) (4*i+3))%3329)
set_option maxRecDepth 10000
set_option maxRecDepth 10000
def iP (d:Nat):List Nat→Nat
 | []=>0
 |v::r=>v+2^d*iP d r
theorem pt {d:Nat}:∀ {l:List Nat},(∀v∈l,v<2^d)→∀i,i<l.length→iP d l/2^(d*i)%2^d=l.getD i 0
 | [],_,i,hi=>by simp at hi
 |v::r,h,0,_=>by
  rw [iP,Nat.mul_zero,Nat.pow_zero,Nat.div_one,Nat.add_mul_mod_self_left,Nat.mod_eq_of_lt (h v (by simp))];rfl
 |v::r,h,i+1,hi=>by
  rw [iP,show d*(i+1)=d+d*i by rw [Nat.mul_succ,Nat.add_comm],Nat.pow_add,←Nat.div_div_eq_div_mul,Nat.add_mul_div_left _ _ (Nat.two_pow_pos d),Nat.div_eq_of_lt (h v (by simp)),Nat.zero_add]
  exact pt (fun u hu=>h u (List.mem_cons_of_mem _ hu)) i (by simpa using hi)
theorem vl {d:Nat}:∀ {l:List Nat},(∀v∈l,v<2^d)→iP d l<2^(d*l.length)
 | [],_=>by simp [iP]
 |v::r,h=>by
  have h1:=h v (by simp)
  have h2:=vl (l:=r) fun u hu=>h u (List.mem_cons_of_mem _ hu)
  rw [iP,List.length_cons,Nat.mul_succ,Nat.add_comm (d*r.length),Nat.pow_add]
  have h3:2^d*(iP d r+1)≤2^d*2^(d*r.length):=Nat.mul_le_mul_left _ h2
  rw [Nat.mul_succ] at h3
  omega
theorem Je (x:Nat) {k d:Nat} (h:k<d):x%2^d/2^k%2=x/2^k%2:=by
 obtain ⟨e,rfl⟩:∃e,d=k+(e+1):=⟨d-k-1,by omega⟩
 rw [Nat.pow_add,Nat.mod_mul_right_div_self]
 exact Nat.mod_mod_of_dvd _ ⟨2^e,by rw [Nat.pow_succ,Nat.mul_comm]⟩
theorem CG {d:Nat} {l:List Nat} (h:∀v∈l,v<2^d) {i k:Nat} (hi:i<l.length) (hk:k<d):iP d l/2^(d*i+k)%2=l.getD i 0/2^k%2:=by
 rw [←pt h i hi,Je _ hk,Nat.pow_add,Nat.div_div_eq_div_mul]
theorem Kr (V a:Nat):V%2^(a+1)=V%2^a+V/2^a%2*2^a:=by
 rw [Nat.pow_succ,Nat.mod_mul,Nat.mul_comm (2^a)]
theorem Kk {L X a b:Nat} (hX:X<2^a) (hb:b≤1):(aV L X).set (a/8) ((aV L X).getD (a/8) 0|||s8 (UInt8.ofNat b) (a%8))=aV L (X+b*2^a):=by
 apply List.ext_getElem (by simp [ar])
 intro j h1 h2
 rw [ar] at h2
 have hp:∀m,2^a=2^(8*m)*2^(a-8*m)∨a<8*m:=fun m=>by
  rcases Nat.lt_or_ge a (8*m) with h|h
  ·exact .inr h
  ·exact .inl (by rw [←Nat.pow_add];congr 1;omega)
 rw [List.getElem_set,cD]
 by_cases e:a/8=j
 ·rw [if_pos e,List.getD_eq_getElem?_getD,List.getElem?_eq_getElem (by rw [ar];omega),Option.getD_some,cD,cD,s8]
  rcases hp j with h|h
  ·rw [show a/8=j from e]
   have hr:a-8*j=a%8:=by omega
   rw [hr] at h
   have hq:X/2^(8*j)<2^(a%8):=by
    rw [h] at hX
    exact Nat.div_lt_of_lt_mul hX
   have e1:(X+b*2^a)/2^(8*j)=X/2^(8*j)+b*2^(a%8):=by
    rw [h,←Nat.mul_assoc,Nat.mul_comm b,Nat.mul_assoc,Nat.add_mul_div_left _ _ (Nat.two_pow_pos _)]
   rw [e1]
   generalize X/2^(8*j)=y at hq
   have h7:2^(a%8)≤2^7:=Nat.pow_le_pow_right (by omega) (by omega)
   refine UInt8.toNat_inj.1 ?_
   have hbm:b*2^(a%8)≤2^7:=by
    rcases (show b=0∨b=1 by omega) with rfl|rfl<;>omega
   rw [UInt8.toNat_or,UInt8.toNat_ofNat',UInt8.toNat_ofNat',UInt8.toNat_ofNat',UInt8.toNat_ofNat',Nat.mod_eq_of_lt (show b<2^8 by omega),Nat.mod_eq_of_lt (show y<2^8 by omega),Nat.mod_eq_of_lt (show b*2^(a%8)<2^8 by omega),Nat.mod_eq_of_lt (show y+b*2^(a%8)<2^8 by omega)]
   rw [Nat.or_comm,←Nat.shiftLeft_eq,←Nat.shiftLeft_add_eq_or_of_lt hq,Nat.add_comm]
  ·omega
 ·rw [if_neg e,cD]
  rcases Nat.lt_or_ge j (a/8) with h|h
  ·rcases hp (j+1) with h3|h3
   ·rw [show 8*(j+1)=8*j+8 by omega,Nat.pow_add,Nat.mul_assoc] at h3
    rw [h3,←Nat.mul_assoc,Nat.mul_comm b,Nat.mul_assoc,Nat.add_mul_div_left _ _ (Nat.two_pow_pos _)]
    refine UInt8.toNat_inj.1 ?_
    rw [UInt8.toNat_ofNat',UInt8.toNat_ofNat',←Nat.mul_assoc,Nat.mul_comm b,Nat.mul_assoc]
    omega
   ·omega
  ·have h4:2^(a+1)≤2^(8*j):=Nat.pow_le_pow_right (by omega) (by omega)
   rw [Nat.pow_succ] at h4
   have hbm:b*2^a≤2^a:=by
    rcases (show b=0∨b=1 by omega) with rfl|rfl<;>omega
   rw [Nat.div_eq_of_lt (by omega),Nat.div_eq_of_lt (by omega)]
def pv (d:Nat) (f:List UInt16) (i:Nat):Nat:=if d=12 then gu f i%3329 else gu f i%2^d
def gm (d:Nat) (f:List UInt16):Nat:=iP d ((List.range 256).map (pv d f))
def bN (d:Nat) (f:List UInt16):List UInt8:=aV (32*d) (gm d f)
theorem MQ (d:Nat) (f:List UInt16) (i:Nat):pv d f i<2^d:=by
 unfold pv
 split
 ·rename_i h;subst h;have:=Nat.mod_lt (gu f i) (show 3329>0 by omega);omega
 ·exact Nat.mod_lt _ (Nat.two_pow_pos d)
theorem tZ {d:Nat} (f:List UInt16) {i k:Nat} (hi:i<256) (hk:k<d):gm d f/2^(d*i+k)%2=pv d f i/2^k%2:=by
 rw [gm,CG (fun v hv=> ?_) (by simpa using hi) hk,aZ hi]
 rw [List.mem_map] at hv
 obtain ⟨j,_,rfl⟩:=hv
 exact MQ d f j
theorem JQ (d:Nat) (f:List UInt16):gm d f<2^(d*256):=by
 have:=vl (d:=d) (l:=(List.range 256).map (pv d f)) fun v hv=>by
  rw [List.mem_map] at hv
  obtain ⟨j,_,rfl⟩:=hv
  exact MQ d f j
 rw [List.length_map,List.length_range] at this
 exact this
theorem Ga (k:Nat):aV k 0=List.replicate k 0:=by
 apply List.ext_getElem (by simp [ar])
 intro j h1 h2
 rw [cD];simp
theorem ff (d:Nat) (f:List UInt16):(bN d f).length=32*d:=ar _ _
set_option maxRecDepth 10000
def kG (d:List UInt8):List UInt8:=gi 64 (d++ [3])
def mW (d:List UInt8):List UInt8:=(kG d).take 32
def B9 (d:List UInt8):List UInt8:=((kG d).drop 32).take ((kG d).length-32)
theorem yA (d:List UInt8):(kG d).length=64:=gZ _ _ _ _
theorem mX (d:List UInt8):(mW d).length=32:=by simp [mW,yA]
theorem F7 (d:List UInt8):(B9 d).length=32:=by simp [B9,yA]
def cY (nx:Nat) (ns:List Nat) (b:Nat):Nat:=match cC b with |true=>nx+b|false=>ns.getD (b-1000) 0
def Cl.rb (f:Nat→Nat):Cl→Cl
 | .ptr b j=> .ptr (f b) j
 | .rw b=> .rw (f b)
 | .sl b j m c=> .sl (f b) j m c
 | .sub b j m=> .sub (f b) j m
 |x=>x
def AV.rb (f:Nat→Nat):AV→AV
 | .one x=> .one (x.rb f)
 | .agg l=> .agg (l.map (Cl.rb f))
def Ch.rb (f:Nat→Nat):Ch→Ch
 | .blk E l=> .blk E (l.map (Cl.rb f))
 | .row E k l=> .row E k l
def gq (n b:Nat):Bool:=match Nat.blt b 16 with
 |true=>true
 |false=>match Nat.blt b 1000 with
  |true=>false
  |false=>Nat.blt b (1000+n)
def oN (n:Nat):Cl→Bool
 | .ptr b _=>gq n b| .sl b _ _ _=>gq n b| .rw b=>gq n b| .sub b _ _=>gq n b
 | .pix _ _ _=>false| .pro _ _=>false| .ro _ _=>false| .bb _=>false| .pbb _=>false| .mp _ _=>false| .rv _ _=>false| .fv _ _ _=>false
 |_=>true
def eV (n:Nat):List Cl→Bool
 | []=>true
 |x::r=>match oN n x with |true=>eV n r|false=>false
def cG (n:Nat):List AV→Bool
 | []=>true
 | .one x::r=>match oN n x with |true=>cG n r|false=>false
 | .agg l::r=>match eV n l with |true=>cG n r|false=>false
def tH (n:Nat):Ch→Bool
 | .blk _ l=>eV n l
 | .row _ _ _=>true
def gG (n:Nat):List (Nat×Ch)→Bool
 | []=>true
 |(b,c)::r=>match gq n b,tH n c with
  |true,true=>gG n r
  |_,_=>false
def Cl.inB (n:Nat):Cl→Bool
 | .ptr b _=>match Nat.blt b 1000 with |true=>false|false=>Nat.blt b (1000+n)
 | .sl b _ _ _=>match Nat.blt b 1000 with |true=>false|false=>Nat.blt b (1000+n)
 | .rw b=>match Nat.blt b 1000 with |true=>false|false=>Nat.blt b (1000+n)
 | .sub b _ _=>match Nat.blt b 1000 with |true=>false|false=>Nat.blt b (1000+n)
 | .pix _ _ _=>false
 | .fv _ _ _=>false
 |_=>true
def fJ (n:Nat):List Cl→Bool
 | []=>true
 |x::r=>match x.inB n with |true=>fJ n r|false=>false
def gA (n:Nat):List AV→Bool
 | []=>true
 | .one x::r=>match x.inB n with |true=>gA n r|false=>false
 | .agg l::r=>match fJ n l with |true=>gA n r|false=>false
def ka (n:Nat):List Ch→Bool
 | []=>true
 | .blk _ l::r=>match fJ n l,eV n l with |true,true=>ka n r|_,_=>false
 | .row _ _ _::r=>ka n r
def aK:Nat→List Ch→List (Nat×Nat×Ch)
 |_,[]=> []
 |i,c::r=>(i,1,c)::aK (i+1) r
def iD (d:List Nat):List (Nat×Nat×Ch)→List (Nat×Nat×Ch)
 | []=> []
 |(b,v,c)::r=>match bg b d with |true=>iD d r|false=>(b,v,c)::iD d r
def ng:List Nat→Bool
 | []=>true
 |x::r=>match bg x r with |true=>false|false=>ng r
def br (ty:Nat→TE) (N:Nat) (rs:List ResultVar) (outs:List AV) (us:List (Nat×Ch)) (cs:List Ch) (d:List Nat):KK:=fun e S'=>match e with
 | .exit _=>False
 |_=>jQ ty rs N S' fun l=>gN ⟨l,S'.hp,S'.nx⟩ 2000 (Gy N outs) ⟨wy N outs,us⟩ (iD d (aK 1000 cs)) fun _=>gO us S'.hp (iD d (aK 1000 cs)) True
def oE (f:Nat→Nat) (us:List (Nat×Ch)) (d:List Nat):List (Nat×Option Ch):=d.map (fun b=>(f b,none))++us.map fun p=>(f p.1,some (p.2.rb f))
section
variable {nx:Nat} {ns:List Nat} {η η' ηh:aY} {A A':Nat→Prop} {w:World}
theorem wS {a b:Nat}:Nat.blt a b=false↔b≤a:=by
 rw [←Bool.not_eq_true,Nat.blt_eq];omega
theorem kw {n b:Nat} (h:gq n b=true):b<16∨(1000≤b∧b<1000+n):=by
 unfold gq at h
 cases e:Nat.blt b 16 with
 |true=>exact .inl (by simpa using e)
 |false=>
  rw [e] at h
  cases e2:Nat.blt b 1000 with
  |true=>rw [e2] at h;cases h
  |false=>
   rw [e2] at h
   exact .inr ⟨wS.1 e2,by simpa using h⟩
theorem A4 {b:Nat} (h:b<1000):cY nx ns b=nx+b:=by
 unfold cY cC
 rw [show Nat.blt b 1000=true by simpa using h]
theorem ig {b:Nat} (h:1000≤b):cY nx ns b=ns.getD (b-1000) 0:=by
 unfold cY cC
 rw [wS.2 h]
theorem K4 {n b:Nat} (h:b<1000):dy n b=n+b:=by
 unfold dy cC
 rw [show Nat.blt b 1000=true by simpa using h]
theorem Bh {n b:Nat} (h:1000≤b):dy n b=b:=by
 unfold dy cC
 rw [wS.2 h]
theorem Cl.rn_rb {n:Nat} (x:Cl):x.rn n=x.rb (dy n):=by cases x<;>rfl
theorem AV.rn_rb {n:Nat} (x:AV):x.rn n=x.rb (dy n):=by
 cases x with
 |one x=>exact congrArg AV.one x.rn_rb
 |agg l=>exact congrArg AV.agg (List.map_congr_left fun x _=>x.rn_rb)
theorem Ch.rn_rb {n:Nat} (x:Ch):x.rn n=x.rb (dy n):=by
 cases x with
 |row E k l=>rfl
 |blk E l=>exact congrArg (Ch.blk E) (List.map_congr_left fun x _=>x.rn_rb)
theorem Cl.rb_id (x:Cl):x.rb id=x:=by cases x<;>rfl
theorem Ch.rb_id (x:Ch):x.rb id=x:=by
 cases x with
 |row E k l=>rfl
 |blk E l=>exact congrArg (Ch.blk E) ((List.map_congr_left fun x _=>x.rb_id).trans (List.map_id _))
variable {f g:Nat→Nat} {n:Nat}
theorem Cl.H.rbn (he:∀b,gq n b=true→∀v,ηh (f b)=some v→η' (g b)=some v) {x:Cl} (hx:oN n x=true) {cs:List Value} (h:(x.rb f).H ηh A w cs):(x.rb g).H η' A' w cs:=by
 cases x
 case any=>exact h
 case un=>exact h
 case cv=>exact h
 case ob=>exact h
 case vec=>exact h
 case ptr b j=>
  obtain ⟨g,h1,h2⟩:=h
  exact ⟨g,he b hx _ h1,h2⟩
 case pix b j i=>cases hx
 case pro k x=>cases hx
 case sl b j m c=>
  obtain ⟨hn,g,h1,h2⟩:=h
  exact ⟨hn,g,he b hx _ h1,h2⟩
 case rw b=>
  obtain ⟨v,h1,h2⟩:=h
  exact ⟨v,he b hx _ h1,h2⟩
 case sub b j m=>
  obtain ⟨v,a,c,h1,h2⟩:=h
  exact ⟨v,a,c,he b hx _ h1,h2⟩
 case ro k l=>cases hx
 case bb l=>cases hx
 case pbb l=>cases hx
 case ln=>exact h
 case mp v f=>cases hx
 case rv v l=>cases hx
 case fv f l m=>cases hx
theorem aO.rbn (he:∀b,gq n b=true→∀v,ηh (f b)=some v→η' (g b)=some v):∀ {l:List Cl},eV n l=true→∀ {cs:List Value},aO ηh A w (l.map (Cl.rb f)) cs→aO η' A' w (l.map (Cl.rb g)) cs
 | [],_,_,h=>h
 |x::r,hl,cs,⟨h,t,e,hx,hr⟩=>by
  unfold eV at hl
  cases e1:oN n x with
  |false=>rw [e1] at hl;cases hl
  |true=>rw [e1] at hl;exact ⟨h,t,e,hx.rbn he e1,aO.rbn he hl hr⟩
theorem tj {x:AV} {l:List AV} (h:cG n (x::l)=true):cG n [x]=true∧cG n l=true:=by
 cases x with
 |one x=>
  simp only [cG] at h ⊢
  cases e:oN n x with
  |false=>rw [e] at h;cases h
  |true=>rw [e] at h;exact ⟨rfl,h⟩
 |agg q=>
  simp only [cG] at h ⊢
  cases e:eV n q with
  |false=>rw [e] at h;cases h
  |true=>rw [e] at h;exact ⟨rfl,h⟩
theorem AV.H.rbn (he:∀b,gq n b=true→∀v,ηh (f b)=some v→η' (g b)=some v) {x:AV} (hx:cG n [x]=true) {v:Value} (h:(x.rb f).H ηh A w v):(x.rb g).H η' A' w v:=by
 cases x with
 |one x=>
  simp only [cG] at hx
  cases e:oN n x with
  |false=>rw [e] at hx;cases hx
  |true=>exact Cl.H.rbn (x:=x) he e h
 |agg l=>
  simp only [cG] at hx
  cases e:eV n l with
  |false=>rw [e] at hx;cases hx
  |true=>
   obtain ⟨cs,e1,h1,h2⟩:=h
   exact ⟨cs,e1,h1.rbn he e,h2⟩
theorem bp.rbn (he:∀b,gq n b=true→∀v,ηh (f b)=some v→η' (g b)=some v):∀ {l:List AV},cG n l=true→∀ {vs:List Value},bp ηh A w (l.map (AV.rb f)) vs→bp η' A' w (l.map (AV.rb g)) vs
 | [],_,_,h=>h
 |x::r,hl,vs,⟨v,t,e,hx,hr⟩=>by
  obtain ⟨h1,h2⟩:=tj hl
  exact ⟨v,t,e,hx.rbn he h1,hr.rbn he h2⟩
theorem Ch.H.rbn (he:∀b,gq n b=true→∀v,ηh (f b)=some v→η' (g b)=some v) {b:Nat} (hb:gq n b=true) {c:Ch} (hc:tH n c=true) (h:(c.rb f).H ηh A w (f b)):(c.rb g).H η' A' w (g b):=by
 cases c with
 |blk E l=>
  obtain ⟨g,cs,h1,h2,h3,h4⟩:=h
  exact ⟨g,cs,he b hb _ h1,h2,h3.rbn he hc,h4⟩
 |row E k l=>
  obtain ⟨v,cs,h1,h2⟩:=h
  exact ⟨v,cs,he b hb _ h1,h2⟩
theorem Ch.H.inb (he:∀b,1000≤b→b<1000+n→ηh b=η (cY nx ns b)) {b:Nat} (hb:1000≤b∧b<1000+n) {c:Ch} (hl:∀E l,c= .blk E l→∀cs,aO η A w (l.map (Cl.rb (cY nx ns))) cs→aO ηh A' w l cs) (h:(c.rb (cY nx ns)).H η A w (cY nx ns b)):c.H ηh A' w b:=by
 cases c with
 |blk E l=>
  obtain ⟨g,cs,h1,h2,h3,h4⟩:=h
  exact ⟨g,cs,by rw [he b hb.1 hb.2];exact h1,h2,hl E l rfl cs h3,h4⟩
 |row E k l=>
  obtain ⟨v,cs,h1,h2⟩:=h
  exact ⟨v,cs,by rw [he b hb.1 hb.2];exact h1,h2⟩
theorem fH:∀ {cs:List Ch},ka n cs=true→∀E l,Ch.blk E l∈cs→fJ n l=true∧eV n l=true
 | [],_,E,l,h=>(by cases h)
 | .row _ _ _::r,h,E,l,hm=>by
  rcases List.mem_cons.1 hm with h1|h1
  ·cases h1
  ·exact fH (cs:=r) h E l h1
 | .blk F m::r,h,E,l,hm=>by
  unfold ka at h
  cases e1:fJ n m<;>cases e2:eV n m<;>rw [e1,e2] at h<;>first |(cases h;done)|skip
  rcases List.mem_cons.1 hm with h1|h1
  ·cases h1;exact ⟨e1,e2⟩
  ·exact fH (cs:=r) h E l h1
theorem Cl.H.inb (he:∀b,1000≤b→b<1000+n→ηh b=η (cY nx ns b)) (hA:∀g,A g→A' g) {x:Cl} (hx:x.inB n=true) {cs:List Value} (h:(x.rb (cY nx ns)).H η A w cs):x.H ηh A' w cs:=by
 have hb:∀b,(match Nat.blt b 1000 with |true=>false|false=>Nat.blt b (1000+n))=true→ηh b=η (cY nx ns b):=fun b hb=>by
  cases e:Nat.blt b 1000 with
  |true=>rw [e] at hb;cases hb
  |false=>rw [e] at hb;exact he b (wS.1 e) (by simpa using hb)
 cases x
 case any=>exact h
 case un=>exact h
 case cv=>exact h
 case ob=>exact h
 case vec=>exact h
 case ptr b j=>
  obtain ⟨g,h1,h2⟩:=h
  exact ⟨g,by rw [hb b hx];exact h1,h2⟩
 case pix b j i=>cases hx
 case pro k x=>
  obtain ⟨g,q,us,h1,h2,h3⟩:=h
  exact ⟨g,q,us,h1,hA _ h2,h3⟩
 case sl b j m c=>
  obtain ⟨hn,g,h1,h2⟩:=h
  exact ⟨hn,g,by rw [hb b hx];exact h1,h2⟩
 case rw b=>
  obtain ⟨v,h1,h2⟩:=h
  exact ⟨v,by rw [hb b hx];exact h1,h2⟩
 case sub b j m=>
  obtain ⟨v,a,c,h1,h2⟩:=h
  exact ⟨v,a,c,by rw [hb b hx];exact h1,h2⟩
 case ro k l=>exact Cl.H.names (n:=0) (η:=η) (fun b hb=>by omega) hA rfl h
 case bb l=>exact Cl.H.names (n:=0) (η:=η) (fun b hb=>by omega) hA rfl h
 case pbb l=>exact Cl.H.names (n:=0) (η:=η) (fun b hb=>by omega) hA rfl h
 case ln=>exact h
 case mp v f=>exact Cl.H.names (n:=0) (η:=η) (fun b hb=>by omega) hA rfl h
 case rv v l=>exact Cl.H.names (n:=0) (η:=η) (fun b hb=>by omega) hA rfl h
 case fv f l m=>cases hx
theorem aO.inb (he:∀b,1000≤b→b<1000+n→ηh b=η (cY nx ns b)) (hA:∀g,A g→A' g):∀ {l:List Cl},fJ n l=true→∀ {cs:List Value},aO η A w (l.map (Cl.rb (cY nx ns))) cs→aO ηh A' w l cs
 | [],_,_,h=>h
 |x::r,hl,cs,⟨h,t,e,hx,hr⟩=>by
  unfold fJ at hl
  cases e1:x.inB n with
  |false=>rw [e1] at hl;cases hl
  |true=>rw [e1] at hl;exact ⟨h,t,e,hx.inb he hA e1,aO.inb he hA hl hr⟩
theorem bp.inb (he:∀b,1000≤b→b<1000+n→ηh b=η (cY nx ns b)) (hA:∀g,A g→A' g):∀ {l:List AV},gA n l=true→∀ {vs:List Value},bp η A w (l.map (AV.rb (cY nx ns))) vs→bp ηh A' w l vs
 | [],_,_,h=>h
 |x::r,hl,vs,⟨v,t,e,hx,hr⟩=>by
  have h12:(match x with | .one y=>y.inB n| .agg q=>fJ n q)=true∧gA n r=true:=by
   cases x with
   |one x=>
    simp only [gA] at hl
    cases e:x.inB n with
    |false=>rw [e] at hl;cases hl
    |true=>rw [e] at hl;exact ⟨e,hl⟩
   |agg q=>
    simp only [gA] at hl
    cases e:fJ n q with
    |false=>rw [e] at hl;cases hl
    |true=>rw [e] at hl;exact ⟨e,hl⟩
  refine ⟨v,t,e,?_,bp.inb he hA h12.2 hr⟩
  cases x with
  |one x=>exact Cl.H.inb (x:=x) he hA h12.1 hx
  |agg q=>
   obtain ⟨cs,e1,h1,h2⟩:=hx
   exact ⟨cs,e1,h1.inb he hA h12.1,h2⟩
theorem rB:∀ {cs:List Ch} {i b:Nat},aH (aK i cs) b=(if i≤b then cs[b-i]? else none)∧bz (aK i cs) b=(if i≤b∧b<i+cs.length then 1 else 0)
 | [],i,b=>by simp [aK,aH,bz];try omega
 |c::r,i,b=>by
  obtain ⟨h1,h2⟩:=rB (cs:=r) (i:=i+1) (b:=b)
  simp only [aK,aH,bz]
  cases e:Nat.beq i b with
  |true=>have:=aL e;subst this;simp
  |false=>
   have e:=Nat.ne_of_beq_eq_false e
   rw [h1,h2]
   constructor
   ·by_cases hb:i≤b
    ·rw [if_pos (by omega),if_pos hb,show b-i=(b-(i+1))+1 by omega];rfl
    ·rw [if_neg (by omega),if_neg hb]
   ·simp only [List.length_cons]
    by_cases hb:i+1≤b∧b<i+1+r.length
    ·rw [if_pos hb,if_pos (by omega)]
    ·rw [if_neg hb,if_neg (by omega)]
theorem Ap {d:List Nat} {b:Nat}:∀ {l:List (Nat×Nat×Ch)},bg b d=false→aH (iD d l) b=aH l b∧bz (iD d l) b=bz l b
 | [],_=>⟨rfl,rfl⟩
 |(u,v,c)::r,h=>by
  obtain ⟨h1,h2⟩:=Ap (l:=r) h
  cases e:bg u d with
  |true=>
   have hne:Nat.beq u b=false:=by
    cases e2:Nat.beq u b with
    |false=>rfl
    |true=>have:=aL e2;subst this;rw [h] at e;cases e
   simp only [iD,e,aH,bz,hne]
   exact ⟨h1,h2⟩
  |false=>
   simp only [iD,e,aH,bz,h1,h2]
   exact ⟨trivial,trivial⟩
theorem Dh {f:Nat→Nat} {d:List Nat}:∀ {us:List (Nat×Ch)} {H:Nat→Option Ch} {b:Nat} {c:Ch},bi (oE f us d) H b=some c→(∃p∈us,b=f p.1∧c=p.2.rb f)∨(H b=some c∧(∀p∈us,b≠f p.1)∧∀x∈d,b≠f x):=by
 have h1:∀ {us:List (Nat×Ch)} {H:Nat→Option Ch} {b:Nat} {c:Ch},bi (us.map fun p=>(f p.1,some (p.2.rb f))) H b=some c→(∃p∈us,b=f p.1∧c=p.2.rb f)∨(H b=some c∧∀p∈us,b≠f p.1):=fun {us}=>by
  induction us with
  |nil=>exact fun h=> .inr ⟨h,fun p hp=>(by cases hp)⟩
  |cons p us ih=>
   intro H b c h
   rcases ih (H:=fun x=>if x=f p.1 then some (p.2.rb f) else H x) h with ⟨q,hq,e⟩|⟨h1,h2⟩
   ·exact .inl ⟨q,List.mem_cons_of_mem _ hq,e⟩
   ·by_cases e:b=f p.1
    ·rw [if_pos e] at h1;cases h1;exact .inl ⟨p,by simp,e,rfl⟩
    ·rw [if_neg e] at h1
     exact .inr ⟨h1,fun q hq=>by
      rcases List.mem_cons.1 hq with rfl|hq
      ·exact e
      ·exact h2 q hq⟩
 induction d with
 |nil=>
  intro us H b c h
  rcases h1 h with h|⟨h,h2⟩
  ·exact .inl h
  ·exact .inr ⟨h,h2,fun x hx=>(by cases hx)⟩
 |cons x d ih=>
  intro us H b c h
  rcases ih (H:=fun y=>if y=f x then none else H y) h with h|⟨h,h2,h3⟩
  ·exact .inl h
  ·by_cases e:b=f x
   ·rw [if_pos e] at h;cases h
   ·rw [if_neg e] at h
    exact .inr ⟨h,h2,fun y hy=>by
     rcases List.mem_cons.1 hy with rfl|hy
     ·exact e
     ·exact h3 y hy⟩
theorem i7:∀ {us:List (Nat×Ch)},gG n us=true→∀p∈us,gq n p.1=true∧tH n p.2=true
 | [],_,p,hp=>(by cases hp)
 |(b,c)::r,h,p,hp=>by
  unfold gG at h
  cases e:gq n b<;>cases e2:tH n c<;>rw [e,e2] at h<;>first |(cases h;done)|skip
  rcases List.mem_cons.1 hp with rfl|hp
  ·exact ⟨e,e2⟩
  ·exact i7 h p hp
theorem nh:∀ {l:List Nat},ng l=true→∀i j,i<l.length→j<l.length→l.getD i 0=l.getD j 0→i=j
 | [],_,i,j,h,_,_=>by simp at h
 |x::r,h,i,j,hi,hj,e=>by
  unfold ng at h
  cases e1:bg x r with
  |true=>rw [e1] at h;cases h
  |false=>
   rw [e1] at h
   have hx:x ∉ r:=by rw [←cg];simp [e1]
   have hm:∀k,k<r.length→r.getD k 0∈r:=fun k hk=>by
    rw [List.getD_eq_getElem?_getD,List.getElem?_eq_getElem hk];exact List.getElem_mem hk
   simp only [List.length_cons] at hi hj
   cases i with
   |zero=>
    cases j with
    |zero=>rfl
    |succ j=>exact absurd (show x∈r from by have:x=r.getD j 0:=e;rw [this];exact hm j (by omega)) hx
   |succ i=>
    cases j with
    |zero=>exact absurd (show x∈r from by have:r.getD i 0=x:=e;rw [←this];exact hm i (by omega)) hx
    |succ j=>rw [nh h i j (by omega) (by omega) e]
end
section
variable {ty:Nat→TE} {ct:Nat→Option CF} {H:Nat→Option Ch} {η:aY} {w:World} {nx:Nat}
theorem Ok (hH:bX H η w) {b:Nat} (hb:H b≠none):∃v,η b=some v:=by
 cases e:H b with
 |none=>exact absurd e hb
 |some c=>
  have:=hH.chunk b c e
  cases c with
  |blk E l=>obtain ⟨g,cs,h1,_⟩:=this;exact ⟨_,h1⟩
  |row E k l=>obtain ⟨v,cs,h1,_⟩:=this;exact ⟨_,h1⟩
theorem AG (hH:bX H η w) {b g:Nat} (hb:H b≠none) (hg:bf η b=some g):g<w.heap.size:=by
 cases e:H b with
 |none=>exact absurd e hb
 |some c=>
  have:=hH.chunk b c e
  cases c with
  |blk E l=>
   obtain ⟨g',cs,h1,h2,_⟩:=this
   unfold bf at hg;rw [h1] at hg;cases hg;exact h2.lt
  |row E k l=>
   obtain ⟨u,cs,h1,h2,h3⟩:=this
   rcases h3.2 with ⟨rfl,_⟩|⟨g',cap,cur,rfl,_,h4,_⟩
   ·unfold bf at hg;rw [h1] at hg;cases hg
   ·unfold bf at hg;rw [h1] at hg;cases hg;exact (Array.getElem?_eq_some_iff.1 h4).1
theorem qh (hm:Tryz.prog.follows .mixedOrders=true) (hT:a8 ty) (hO:ap ty ct) {f:Nat} {fn:Func} {c:Code} {rs:List ResultVar} (hf:Tryz.prog.funcs[f]?=some fn) (hb:fn.body=some c) (hr:fn.results=rs.toArray) {l:List AV} {cs:List Ch} {ns d:List Nat}
  (hn:cs.length≤500) (hl:gA cs.length l=true) (hcs:ka cs.length cs=true) (hlen:l.length≤fn.ntmps) (hns:ns.length=cs.length) (hnd:ng ns=true) (hH0:∀j c,cs[j]?=some c→H (ns.getD j 0)=some (c.rb (cY nx ns)))
  {outs:List AV} {us:List (Nat×Ch)} (ho:outs.length=rs.length) (h16:cG cs.length outs=true) (hh16:gG cs.length us=true) (hvc:vc ty ct fn.ntmps c ⟨al 0 l,aK 1000 cs,2000⟩ (br ty fn.ntmps rs outs us cs d))
  (hH:bX H η w) (hfree:∀b,nx≤b→b<nx+16→η b=none) {vs:List Value} {A0:Nat→Prop} (hA0:∀g,A0 g→∀j,j<cs.length→bf η (ns.getD j 0)≠some g) (hv:bp η A0 w (l.map (AV.rb (cY nx ns))) vs) {pre:Option Prop}:
  Calls Tryz.prog f vs.toArray w fun e w'=>∃v η',e= .returned v∧bj H η w nx ⟨outs.map (AV.rb (cY nx ns)),oE (cY nx ns) us d,pre,none⟩ v w' η':=by
 refine calls_of_wp hf hb ?_
 let ηc:aY:=fun b=>if 1000≤b∧b<1000+cs.length then η (cY nx ns b) else none
 have hc1:∀b,1000≤b→b<1000+cs.length→ηc b=η (cY nx ns b):=fun b h1 h2=>by show (if _ then _ else _)=_;rw [if_pos ⟨h1,h2⟩]
 have hc0:∀b,2000≤b→ηc b=none:=fun b h1=>by show (if _ then _ else _)=_;rw [if_neg (by omega)]
 have hnm:∀j,cY nx ns (1000+j)=ns.getD j 0:=fun j=>by rw [ig (by omega),show 1000+j-1000=j by omega]
 have hlk:∀b c,aH (aK 1000 cs) b=some c→∃j,b=1000+j∧j<cs.length∧cs[j]?=some c:=fun b c h=>by
  rw [rB.1] at h
  split at h
  ·exact ⟨b-1000,by omega,(List.getElem?_eq_some_iff.1 h).1,h⟩
  ·cases h
 have hHj:∀j,j<cs.length→H (ns.getD j 0)≠none:=fun j hj=>by
  rw [hH0 j cs[j] (List.getElem?_eq_getElem hj)];simp
 have hfc:∀j,j<cs.length→bf ηc (1000+j)=bf η (ns.getD j 0):=fun j hj=>by
  unfold bf;rw [hc1 _ (by omega) (by omega),hnm]
 have hinj:∀i j,i<cs.length→j<cs.length→ns.getD i 0=ns.getD j 0→i=j:=fun i j hi hj e=>nh hnd i j (by omega) (by omega) e
 have hA:∀g,ay H η g→ay (aH (aK 1000 cs)) ηc g:=fun g ha b hb=>by
  cases e:aH (aK 1000 cs) b with
  |none=>exact absurd e hb
  |some c=>
   obtain ⟨j,rfl,hj,_⟩:=hlk b c e
   rw [hfc j hj]
   exact ha _ (hHj j hj)
 have hv0:bp ηc (ay (aH (aK 1000 cs)) ηc) w l vs:=bp.inb hc1 (fun g ha b hb=>by
  cases e:aH (aK 1000 cs) b with
  |none=>exact absurd e hb
  |some c=>
   obtain ⟨j,rfl,hj,_⟩:=hlk b c e
   rw [hfc j hj]
   exact hA0 g ha j hj) hl hv
 obtain ⟨hvl,hsl⟩:=lH (i:=0) hv0
 have hS:pX fn.ntmps ⟨al 0 l,aK 1000 cs,2000⟩ ηc {tmps:=vs.toArray++Array.replicate (fn.ntmps-vs.toArray.size) undef,defers:= []} w:=by
  refine ⟨⟨rfl,?_,fun t=> ?_,fun b c h=> ?_,fun b b' g hbb h1 h2 hg=> ?_⟩,hc0⟩
  ·simp;omega
  ·rcases hsl t with h|⟨x,v,h1,h2,h3,h4⟩
   ·show bF _ _ _ (bG (al 0 l) t) _
    rw [h];trivial
   ·show bF _ _ _ (bG (al 0 l) t) _
    rw [h1]
    have e:(vs.toArray++Array.replicate (fn.ntmps-vs.toArray.size) undef).getD t undef=v:=by
     rw [Array.getD_eq_getD_getElem?,Array.getElem?_append_left (by simp;exact (List.getElem?_eq_some_iff.1 h3).1)]
     simp only [Nat.sub_zero] at h3
     rw [List.getElem?_toArray,h3];rfl
    show bF _ _ _ [x] (Array.getD _ t undef)
    rw [e]
    exact h4
  ·obtain ⟨j,rfl,hj,hc⟩:=hlk b c h
   refine Ch.H.inb hc1 ⟨by omega,by omega⟩ (fun E q e cs' hq=> ?_) (hH.chunk _ _ ?_)
   ·subst e
    exact aO.inb hc1 hA (fH hcs E q (List.mem_of_getElem? hc)).1 hq
   ·rw [hnm];exact hH0 j c hc
  ·cases e1:aH (aK 1000 cs) b with
   |none=>exact absurd e1 h1
   |some c1=>
    cases e2:aH (aK 1000 cs) b' with
    |none=>exact absurd e2 h2
    |some c2=>
     obtain ⟨j,rfl,hj,_⟩:=hlk b c1 e1
     obtain ⟨j',rfl,hj',_⟩:=hlk b' c2 e2
     rw [hfc j hj] at hg
     rw [hfc j' hj']
     exact hH.apart _ _ g (fun e=>hbb (by rw [hinj j j' hj hj' e])) (hHj j hj) (hHj j' hj') hg
 refine wp_mono (nR hm hO c _ _ hvc _ _ _ hS) fun e a' w' hP=> ?_
 obtain ⟨e',S',η',h1,h2,⟨hS',_⟩,hF,hHp,hE,_⟩:=hP
 have key:(jQ ty rs fn.ntmps S' fun l=>gN ⟨l,S'.hp,S'.nx⟩ 2000 (Gy fn.ntmps outs) ⟨wy fn.ntmps outs,us⟩ (iD d (aK 1000 cs)) fun _=>gO us S'.hp (iD d (aK 1000 cs)) True)→a'.defers= []∧∃v,(results fn a'.tmps).run Tryz.prog w'= .ok v w'∧∃v' η'',Ending.returned v= .returned v'∧bj H η w nx ⟨outs.map (AV.rb (cY nx ns)),oE (cY nx ns) us d,pre,none⟩ v' w' η'':=fun hrd=>by
  obtain ⟨l2,vals,hmt,hres,hvl2,hsl2⟩:=nG hT hS' hrd
  refine ⟨hS'.df,_,jW hr hres,?_⟩
  have hget:∀j v,vals[j]?=some v→(a'.tmps++vals.toArray).getD (fn.ntmps+j) undef=v:=fun j v hj=>by
   rw [Array.getD_eq_getD_getElem?,Array.getElem?_append_right (by rw [hS'.sz];omega),hS'.sz,show fn.ntmps+j-fn.ntmps=j by omega,List.getElem?_toArray,hj];rfl
  have hS2:eH (bG l2) (aH S'.hp) (fn.ntmps+vals.length) η' {tmps:=a'.tmps++vals.toArray,defers:= []} w':=by
   refine ⟨rfl,by simp [hS'.sz],fun t=> ?_,hS'.chunk,hS'.apart⟩
   rcases hsl2 t with h|⟨j,v,rfl,h3,h4⟩
   ·rw [h];trivial
   ·show bF _ _ _ _ (Array.getD _ _ undef)
    rw [hget j v h3]
    exact h4
  obtain ⟨τ,hτ,hrest,_,_,hX⟩:=jH (S:=⟨l2,S'.hp,S'.nx⟩) hS2 hmt
  obtain ⟨hrest,_⟩:=gP hrest
  have hM:iJ 2000 (iE us (iD d (aK 1000 cs))) η' (ay (aH S'.hp) η') τ (bZ 2000 τ η') (fun _=>True):=
   ⟨fun b _ hlt v hv=>by rw [cX hlt];exact hv,fun b c hb hs=>by rw [cB (eM hb),hs],fun b hb hs=>by rw [cB (eM hb),hs],fun _ _=>trivial,fun _ _ _ _=>trivial⟩
  obtain ⟨x1,x2⟩:=hX _ _ hM
  let ηf:aY:=fun b=>if nx≤b∧b<nx+16 then bZ 2000 τ η' (2000+(b-nx)) else η b
  have hff:∀b,¬(nx≤b∧b<nx+16)→ηf b=η b:=fun b h=>by show (if _ then _ else _)=_;rw [if_neg h]
  have hfn:∀b,b<16→ηf (nx+b)=bZ 2000 τ η' (2000+b):=fun b h=>by show (if _ then _ else _)=_;rw [if_pos (by omega),show 2000+(nx+b-nx)=2000+b by omega]
  have hout:∀b,H b≠none→¬(nx≤b∧b<nx+16):=fun b hb h=>by
   obtain ⟨v,hv⟩:=Ok hH hb
   rw [hfree b h.1 h.2] at hv;cases hv
  have hold:∀b,H b≠none→ηf b=η b:=fun b hb=>hff b (hout b hb)
  have he:∀b,gq cs.length b=true→∀v,bZ 2000 τ η' (dy 2000 b)=some v→ηf (cY nx ns b)=some v:=fun b hb v hv=>by
   rcases kw hb with h|⟨h3,h4⟩
   ·rw [K4 (by omega)] at hv
    rw [A4 (by omega),hfn b h];exact hv
   ·rw [Bh h3,cX (by omega),hE b (by show b<2000;omega),hc1 b h3 h4] at hv
    rw [hold _ (by rw [ig h3];exact hHj _ (by omega))];exact hv
  -- what stands at a name
  have hcase:∀b c,bi (oE (cY nx ns) us d) H b=some c→(∃p∈us,b=cY nx ns p.1∧c=p.2.rb (cY nx ns))∨(H b=some c∧((∃j,j<cs.length∧b=ns.getD j 0∧aH S'.hp (1000+j)=cs[j]?∧iE us (iD d (aK 1000 cs)) (1000+j)=true)∨∀j,j<cs.length→b≠ns.getD j 0)):=fun b c hb=>by
   rcases Dh hb with h|⟨h3,h4,h5⟩
   ·exact .inl h
   ·refine .inr ⟨h3,?_⟩
    by_cases hj:∃j,j<cs.length∧b=ns.getD j 0
    ·obtain ⟨j,hj,rfl⟩:=hj
     have hd:bg (1000+j) d=false:=by
      cases e:bg (1000+j) d with
      |false=>rfl
      |true=>exact absurd (hnm j).symm (h5 _ ((cg _ _).1 e))
     obtain ⟨g1,g2⟩:=Ap (l:=aK 1000 cs) hd
     obtain ⟨g3,g4⟩:=rB (cs:=cs) (i:=1000) (b:=1000+j)
     rw [if_pos (by omega),show 1000+j-1000=j by omega] at g3
     rw [if_pos (by omega)] at g4
     have hm:cJ (1000+j) us=false:=by
      cases e:cJ (1000+j) us with
      |false=>rfl
      |true=>
       rw [fk] at e
       obtain ⟨p,hp,e2⟩:=e
       exact absurd (by rw [e2,hnm]) (h4 p hp)
     have hk:cJ (1000+j) (iD d (aK 1000 cs))=true:=jF (c:=cs[j]) (by rw [g1,g3];exact List.getElem?_eq_getElem hj)
     refine .inl ⟨j,hj,rfl,?_,by unfold iE;rw [hm];exact hk⟩
     rcases hrest (1000+j) cs[j] (by rw [g1,g3];exact List.getElem?_eq_getElem hj) with h6|h6
     ·rw [hm] at h6;cases h6
     ·rw [g2,g4] at h6
      rcases hHp.2 (1000+j) with ⟨_,h7⟩|h7|h7
      ·rw [h7];exact g3
      ·have h7:2000≤bz S'.hp (1000+j):=h7
       have h6:bz S'.hp (1000+j)=1:=h6
       omega
      ·have h6:bz S'.hp (1000+j)=1:=h6
       omega
    ·exact .inr fun j hj' e=>hj ⟨j,hj',e⟩
  have hsrc:∀p∈us,p.1<16→∀g,bf ηf (cY nx ns p.1)=some g→∃a,bm τ.m p.1=some (some a)∧aH S'.hp a≠none∧bf η' a=some g:=fun p hp hlt g hg=>by
   have hbn:cC p.1=true:=by unfold cC;simp;omega
   obtain ⟨dd,d1,d2⟩:=(x2 p hp).2.2 hbn
   have eh:=cB (nx:=2000) (τ:=τ) (η:=η') (show p.1<1000 by omega)
   rw [d1] at eh
   unfold bf at hg
   rw [A4 (by omega),hfn _ hlt] at hg
   cases dd with
   |none=>rw [eh] at hg;cases hg
   |some a=>rw [eh] at hg;exact ⟨a,d1,d2 a rfl,hg⟩
  have hkeep:∀p∈us,1000≤p.1→aH S'.hp p.1≠none∧iE us (iD d (aK 1000 cs)) p.1=true:=fun p hp h3=>by
   have hbn:cC p.1=false:=by unfold cC;exact wS.2 h3
   refine ⟨(x2 p hp).2.1 hbn,?_⟩
   unfold iE
   rw [(fk _ _).2 ⟨p,hp,rfl⟩]
  -- two sorts: new ones, and those that were
  have hsort:∀b,bi (oE (cY nx ns) us d) H b≠none→(∃p∈us,p.1<16∧b=cY nx ns p.1)∨(H b≠none∧ηf b=η b∧((∃j,j<cs.length∧b=ns.getD j 0∧aH S'.hp (1000+j)≠none∧iE us (iD d (aK 1000 cs)) (1000+j)=true)∨∀j,j<cs.length→b≠ns.getD j 0)):=fun b hb=>by
   cases e:bi (oE (cY nx ns) us d) H b with
   |none=>exact absurd e hb
   |some c=>
    rcases hcase b c e with ⟨p,hp,e1,e2⟩|⟨h3,h4⟩
    ·rcases kw (i7 hh16 p hp).1 with h5|⟨h5,h6⟩
     ·exact .inl ⟨p,hp,h5,e1⟩
     ·right
      obtain ⟨k1,k2⟩:=hkeep p hp h5
      have hj:p.1-1000<cs.length:=by omega
      rw [ig h5] at e1
      subst e1
      exact ⟨hHj _ hj,hold _ (hHj _ hj),.inl ⟨p.1-1000,hj,rfl,by rw [show 1000+(p.1-1000)=p.1 by omega];exact k1,by rw [show 1000+(p.1-1000)=p.1 by omega];exact k2⟩⟩
    ·right
     refine ⟨by rw [h3];simp,hold _ (by rw [h3];simp),?_⟩
     rcases h4 with ⟨j,hj,e1,e2,e3⟩|h4
     ·exact .inl ⟨j,hj,e1,by rw [e2,List.getElem?_eq_getElem hj];simp,e3⟩
     ·exact .inr h4
  have hfE:∀j,j<cs.length→bf η' (1000+j)=bf η (ns.getD j 0):=fun j hj=>by
   rw [←hfc j hj]
   unfold bf
   rw [hE _ (by show 1000+j<2000;omega)]
  have hanon:∀g,g<w.heap.size→ay H η g→ay (bi (oE (cY nx ns) us d) H) ηf g:=fun g hg ha b hb=>by
   rcases hsort b hb with ⟨p,hp,h3,rfl⟩|⟨h3,h4,_⟩
   ·intro hgb
    obtain ⟨a,a1,a2,a3⟩:=hsrc p hp h3 g hgb
    exact (hF.anon g hg (hA g ha)).2 a a2 a3
   ·unfold bf;rw [h4];exact ha b h3
  have hfw:Fw H η w (bi (oE (cY nx ns) us d) H) ηf w':=⟨hF.os,hF.tape,hF.output,hF.size,fun b v hv=>by
   rw [hff b (fun h=>by rw [hfree b h.1 h.2] at hv;cases hv)];exact hv,fun g hg ha=>⟨(hF.anon g hg (hA g ha)).1,hanon g hg ha⟩⟩
  -- a new one and one that was
  have hnewold:∀p∈us,p.1<16→∀b,H b≠none→((∃j,j<cs.length∧b=ns.getD j 0∧aH S'.hp (1000+j)≠none∧iE us (iD d (aK 1000 cs)) (1000+j)=true)∨∀j,j<cs.length→b≠ns.getD j 0)→∀g,bf ηf (cY nx ns p.1)=some g→bf η b≠some g:=fun p hp hlt b hb hor g hg hgb=>by
   obtain ⟨a,a1,a2,a3⟩:=hsrc p hp hlt g hg
   rcases hor with ⟨j,hj,rfl,k1,k2⟩|hno
   ·refine hS'.apart a (1000+j) g ?_ a2 k1 a3 (by rw [hfE j hj];exact hgb)
    rintro rfl
    have:=hτ.kept _ _ a1
    rw [k2] at this;cases this
   ·refine (hF.anon g (AG hH hb hgb) fun b' hb'=> ?_).2 a a2 a3
    cases e:aH (aK 1000 cs) b' with
    |none=>exact absurd e hb'
    |some c'=>
     obtain ⟨j,rfl,hj,_⟩:=hlk b' c' e
     rw [hfc j hj]
     exact hH.apart b _ g (hno j hj) hb (hHj j hj) hgb
  have hall:=kP (nx:=2000) (val:=fun t=>(a'.tmps++vals.toArray).getD t undef) (ho.trans hvl2.symm) hget x1
  have hall2:bp ηf (ay (bi (oE (cY nx ns) us d) H) ηf) w' (outs.map (AV.rb (cY nx ns))) vals:=by
   rw [List.map_congr_left fun x _=>AV.rn_rb (n:=2000) x] at hall
   exact hall.rbn he h16
  refine ⟨_,ηf,rfl,⟨?_,⟨fun b c hbc=> ?_,fun b b' g hbb h3 h4 hg=> ?_⟩,hfw,fun b hb=>hff b (by omega),trivial⟩⟩
  ·show bF _ _ _ (outs.map (AV.rb (cY nx ns))) (A_ vals)
   rcases outs with _|⟨x,_|⟨y,outs⟩⟩
   ·trivial
   ·obtain ⟨v,t,e,h1,h2⟩:=hall2
    cases h2
    rw [e]
    exact h1
   ·obtain ⟨v,t,e,h1,v2,t2,e2,h3,h4⟩:=hall2
    subst e2
    rw [e]
    exact ⟨_,rfl,_,_,rfl,h1,_,_,rfl,h3,h4⟩
  ·rcases hcase b c hbc with ⟨p,hp,rfl,rfl⟩|⟨h3,h4⟩
   ·obtain ⟨k1,k2⟩:=i7 hh16 p hp
    have:=(x2 p hp).1
    rw [Ch.rn_rb] at this
    exact Ch.H.rbn he k1 k2 this
   ·rcases h4 with ⟨j,hj,rfl,k1,_⟩|hno
    ·rw [List.getElem?_eq_getElem hj] at k1
     have h5:=hH0 j cs[j] (List.getElem?_eq_getElem hj)
     rw [h3] at h5
     cases h5
     have h6:=hS'.chunk (1000+j) _ k1
     have hok:gq cs.length (1000+j)=true:=by
      unfold gq
      rw [wS.2 (by omega),wS.2 (by omega)]
      simp;omega
     have hch:tH cs.length cs[j]=true:=by
      cases e:cs[j] with
      |row E k l=>rfl
      |blk E l=>exact (fH hcs E l (by rw [←e];exact List.getElem_mem hj)).2
     rw [←hnm j]
     have h7:(cs[j].rb (dy 2000)).H (bZ 2000 τ η') (fun _=>True) w' (dy 2000 (1000+j)):=Ch.H.rbn (f:=id) (g:=dy 2000) (n:=cs.length) (ηh:=η') (η':=bZ 2000 τ η') (fun b hb v hv=>by
      rcases kw hb with h8|⟨h8,h9⟩
      ·have:η' b=ηc b:=hE b (by show b<2000;omega)
       rw [show η' (id b)=η' b from rfl,this,show ηc b=none from if_neg (by omega)] at hv
       cases hv
      ·rw [Bh h8,cX (by omega)];exact hv) hok hch (by rw [Ch.rb_id];exact h6)
     exact Ch.H.rbn he hok hch h7
    ·refine (hH.chunk b c h3).later hfw.lt fun g hg=>(hF.anon g (AG hH (by rw [h3];simp) hg) fun b' hb'=> ?_).1
     cases e:aH (aK 1000 cs) b' with
     |none=>exact absurd e hb'
     |some c'=>
      obtain ⟨j,rfl,hj,_⟩:=hlk b' c' e
      rw [hfc j hj]
      exact hH.apart b _ g (hno j hj) (by rw [h3];simp) (hHj j hj) hg
  ·rcases hsort b h3 with ⟨p,hp,p1,rfl⟩|⟨q1,q2,q3⟩
   ·rcases hsort b' h4 with ⟨p',hp',p1',rfl⟩|⟨q1,q2,q3⟩
    ·intro hg'
     obtain ⟨a,a1,a2,a3⟩:=hsrc p hp p1 g hg
     obtain ⟨b,b1,b2,b3⟩:=hsrc p' hp' p1' g hg'
     refine hS'.apart a b g ?_ a2 b2 a3 b3
     rintro rfl
     exact hbb (by rw [hτ.inj _ _ _ a1 b1])
    ·unfold bf;rw [q2];exact hnewold p hp p1 b' q1 q3 g hg
   ·unfold bf at hg;rw [q2] at hg
    rcases hsort b' h4 with ⟨p',hp',p1',rfl⟩|⟨q1',q2',q3'⟩
    ·intro hg'
     exact hnewold p' hp' p1' b q1 q3 g hg' hg
    ·unfold bf;rw [q2'];exact hH.apart b b' g hbb q1 q1' hg
 cases e with
 |normal=>cases h1;exact key h2
 |ret=>cases h1;exact key h2
 |exit id=>cases h1;exact h2.elim
 |panic c=>cases h1
 |outgrown=>cases h1
 |goto l=>cases h1
end
def jJ {α:Type} (b:Nat):List Nat→Nat→(Nat→List Nat→α)→α
 | [],i,k=>fM i fun i=>k i [b]
 |a::r,i,k=>match Nat.beq a b with
  |true=>fM i fun i=>k i (a::r)
  |false=>jJ b r (i+1) fun i r=>k i (a::r)
def Oh {α:Type} (x:Cl) (ns:List Nat) (k:Cl→List Nat→α):α:=match x with
 | .ptr b o=>jJ b ns 1000 fun b ns=>k (.ptr b o) ns
 | .rw b=>jJ b ns 1000 fun b ns=>k (.rw b) ns
 | .sl b o n c=>jJ b ns 1000 fun b ns=>k (.sl b o n c) ns
 | .sub b o n=>jJ b ns 1000 fun b ns=>k (.sub b o n) ns
 |x=>k x ns
def pc {α:Type}:List Cl→List Nat→(List Cl→List Nat→α)→α
 | [],ns,k=>k [] ns
 |x::r,ns,k=>Oh x ns fun x ns=>pc r ns fun r ns=>k (x::r) ns
def TA {α:Type} (x:AV) (ns:List Nat) (k:AV→List Nat→α):α:=match x with
 | .one x=>Oh x ns fun x ns=>k (.one x) ns
 | .agg l=>pc l ns fun l ns=>k (.agg l) ns
def uk {α:Type}:List AV→List Nat→(List AV→List Nat→α)→α
 | [],ns,k=>k [] ns
 |x::r,ns,k=>TA x ns fun x ns=>uk r ns fun r ns=>k (x::r) ns
def Cs:List Nat→Nat→Option Nat
 | [],_=>none
 |a::_,0=>some a
 |_::r,i+1=>Cs r i
def J7 (k:List Nat→List Ch→R aG):Nat→Nat→List Nat→List Ch→R aG
 |0,_,_,_=> .fail
 |m+1,j,ns,cs=>match Cs ns j with
  |none=>k ns cs
  |some b=> .hp b fun c=>match c with
   |none=> .fail
   |some (.row E q l)=>J7 k m (j+1) ns (cs++ [.row E q l])
   |some (.blk E l)=>pc l ns fun l ns=>J7 k m (j+1) ns (cs++ [.blk E l])
structure PV where
 outs:List AV
 us:List (Nat×Ch)
 d:List Nat
 pre:Option Prop
abbrev fb:Type:=List AV→List Ch→Option PV
def uU (l:List AV) (ns:List Nat) (cs:List Ch):Bool:=match gA cs.length l,ka cs.length cs,Nat.beq ns.length cs.length,ng ns with
 |true,true,true,true=>Nat.ble cs.length 500
 |_,_,_,_=>false
def JX {α:Type} (g:Nat→Nat):List Nat→(List (Nat×Option Ch)→α)→α
 | [],k=>k []
 |b::r,k=>fM (g b) fun b=>JX g r fun r=>k ((b,none)::r)
theorem E6 {α:Type} (g:Nat→Nat) (x:Cl) (k:Cl→α):PP g x k=k (x.rb g):=by
 cases x<;>first |rfl|(dsimp only [PP];rw [bD];rfl)
theorem qF {α:Type} (g:Nat→Nat):∀(l:List Cl) (k:List Cl→α),xn g l k=k (l.map (Cl.rb g))
 | [],_=>rfl
 |x::r,k=>by rw [xn,E6,qF g r];rfl
theorem xl {α:Type} (g:Nat→Nat):∀(l:List AV) (k:List AV→α),wz g l k=k (l.map (AV.rb g))
 | [],_=>rfl
 | .one x::r,k=>by rw [wz,E6,xl g r];rfl
 | .agg l::r,k=>by rw [wz,qF,xl g r];rfl
theorem xo {α:Type} (g:Nat→Nat):∀(l:List (Nat×Ch)) (k:List (Nat×Option Ch)→α),wA g l k=k (l.map fun p=>(g p.1,some (p.2.rb g)))
 | [],_=>rfl
 |(b,.blk E l)::r,k=>by rw [wA,bD];simp only [qF,xo g r];rfl
 |(b,.row E q l)::r,k=>by rw [wA,bD];simp only [xo g r];rfl
theorem E8 {α:Type} (g:Nat→Nat):∀(l:List Nat) (k:List (Nat×Option Ch)→α),JX g l k=k (l.map fun b=>(g b,none))
 | [],_=>rfl
 |b::r,k=>by rw [JX,bD,E8 g r];rfl
theorem qj {g:Nat→Nat} {outs:List AV} {us:List (Nat×Ch)} {d:List Nat} {p:Option Prop} {sl:Nat→List AV} {H:Nat→Option Ch} {ds:List Bool} {res:aG} {rd:List cu} {qs:List (Bool×Bool)} (h:(wz g outs fun o=>wA g us fun u=>JX g d fun d=>R.pure ⟨o,d++u,p,none⟩:R aG).run sl H ds= .ok res rd qs):res=⟨outs.map (AV.rb g),oE g us d,p,none⟩:=by
 rw [xl,xo,E8] at h
 simp only [R.run,RR.ok.injEq] at h
 exact h.1.symm
def gB (G:fb):CF:=fun nx args=>uk args [] fun l ns=>J7 (fun ns cs=>match uU (cK l) ns cs with
 |true=>match G (cK l) cs with
  |some ⟨outs,us,d,p⟩=>wz (cY nx ns) outs fun o=>wA (cY nx ns) us fun u=>JX (cY nx ns) d fun d=> .pure ⟨o,d++u,p,none⟩
  |none=> .fail
 |false=> .fail) 40 0 ns []
def nX (a b:List Nat):Prop:=∃m,b=a++m
theorem nX.refl (a:List Nat):nX a a:=⟨[],by simp⟩
theorem nX.trans {a b c:List Nat} (h:nX a b) (k:nX b c):nX a c:=by
 obtain ⟨m,rfl⟩:=h
 obtain ⟨n,rfl⟩:=k
 exact ⟨m++n,by simp⟩
theorem ei (b:Nat):∀(ns:List Nat) (i:Nat),∃j ns',(∀ {α:Type} (k:Nat→List Nat→α),jJ b ns i k=k (i+j) ns')∧nX ns ns'∧ns'[j]?=some b
 | [],i=>⟨0,[b],fun k=>by simp [jJ,bD],⟨[b],rfl⟩,rfl⟩
 |a::r,i=>by
  cases e:Nat.beq a b with
  |true=>exact ⟨0,a::r,fun k=>by simp [jJ,e,bD],nX.refl _,by simp [aL e]⟩
  |false=>
   obtain ⟨j,ns',h1,⟨m,h2⟩,h3⟩:=ei b r (i+1)
   exact ⟨j+1,a::ns',fun k=>by simp only [jJ,e];rw [h1,show i+1+j=i+(j+1) by omega],⟨m,by rw [h2];rfl⟩,by simpa using h3⟩
theorem ie {nx j b:Nat} {ns ns':List Nat} (h:ns[j]?=some b) (he:nX ns ns'):cY nx ns' (1000+j)=b:=by
 obtain ⟨m,rfl⟩:=he
 rw [ig (by omega),show 1000+j-1000=j by omega,List.getD_eq_getElem?_getD,List.getElem?_append_left (List.getElem?_eq_some_iff.1 h).1,h]
 rfl
theorem pb (nx:Nat) (x:Cl) (ns:List Nat):∃x' ns',(∀ {α:Type} (k:Cl→List Nat→α),Oh x ns k=k x' ns')∧nX ns ns'∧∀ns'',nX ns' ns''→x'.rb (cY nx ns'')=x:=by
 cases x
 case ptr b o=>
  obtain ⟨j,ns',h1,h2,h3⟩:=ei b ns 1000
  exact ⟨.ptr (1000+j) o,ns',fun k=>h1 _,h2,fun ns'' he=>by show Cl.ptr _ _=_;rw [ie h3 he]⟩
 case rw b=>
  obtain ⟨j,ns',h1,h2,h3⟩:=ei b ns 1000
  exact ⟨.rw (1000+j),ns',fun k=>h1 _,h2,fun ns'' he=>by show Cl.rw _=_;rw [ie h3 he]⟩
 case sl b o n c=>
  obtain ⟨j,ns',h1,h2,h3⟩:=ei b ns 1000
  exact ⟨.sl (1000+j) o n c,ns',fun k=>h1 _,h2,fun ns'' he=>by show Cl.sl _ _ _ _=_;rw [ie h3 he]⟩
 case sub b o n=>
  obtain ⟨j,ns',h1,h2,h3⟩:=ei b ns 1000
  exact ⟨.sub (1000+j) o n,ns',fun k=>h1 _,h2,fun ns'' he=>by show Cl.sub _ _ _=_;rw [ie h3 he]⟩
 all_goals exact ⟨_,ns,fun k=>rfl,nX.refl _,fun _ _=>rfl⟩
theorem fN (nx:Nat):∀(l:List Cl) (ns:List Nat),∃l' ns',(∀ {α:Type} (k:List Cl→List Nat→α),pc l ns k=k l' ns')∧nX ns ns'∧∀ns'',nX ns' ns''→l'.map (Cl.rb (cY nx ns''))=l
 | [],ns=>⟨[],ns,fun k=>rfl,nX.refl _,fun _ _=>rfl⟩
 |x::r,ns=>by
  obtain ⟨x',n1,h1,h2,h3⟩:=pb nx x ns
  obtain ⟨r',n2,h4,h5,h6⟩:=fN nx r n1
  exact ⟨x'::r',n2,fun k=>by simp only [pc];rw [h1,h4],h2.trans h5,fun ns'' he=>by rw [List.map_cons,h3 _ (h5.trans he),h6 _ he]⟩
theorem FR (nx:Nat) (x:AV) (ns:List Nat):∃x' ns',(∀ {α:Type} (k:AV→List Nat→α),TA x ns k=k x' ns')∧nX ns ns'∧∀ns'',nX ns' ns''→x'.rb (cY nx ns'')=x:=by
 cases x with
 |one x=>
  obtain ⟨x',n1,h1,h2,h3⟩:=pb nx x ns
  exact ⟨.one x',n1,fun k=>h1 fun x ns=>k (.one x) ns,h2,fun ns'' he=>congrArg AV.one (h3 _ he)⟩
 |agg l=>
  obtain ⟨x',n1,h1,h2,h3⟩:=fN nx l ns
  exact ⟨.agg x',n1,fun k=>h1 fun x ns=>k (.agg x) ns,h2,fun ns'' he=>congrArg AV.agg (h3 _ he)⟩
theorem ib (nx:Nat):∀(l:List AV) (ns:List Nat),∃l' ns',(∀ {α:Type} (k:List AV→List Nat→α),uk l ns k=k l' ns')∧nX ns ns'∧∀ns'',nX ns' ns''→l'.map (AV.rb (cY nx ns''))=l
 | [],ns=>⟨[],ns,fun k=>rfl,nX.refl _,fun _ _=>rfl⟩
 |x::r,ns=>by
  obtain ⟨x',n1,h1,h2,h3⟩:=FR nx x ns
  obtain ⟨r',n2,h4,h5,h6⟩:=ib nx r n1
  exact ⟨x'::r',n2,fun k=>by simp only [uk];rw [h1,h4],h2.trans h5,fun ns'' he=>by rw [List.map_cons,h3 _ (h5.trans he),h6 _ he]⟩
theorem A6:∀(l:List Nat) (i:Nat),Cs l i=l[i]?
 | [],_=>rfl
 |_::_,0=>rfl
 |_::r,i+1=>by simp only [Cs,List.getElem?_cons_succ];exact A6 r i
section
variable {ty:Nat→TE} {ct:Nat→Option CF} {H:Nat→Option Ch} {η:aY} {w:World} {nx:Nat} {sl:Nat→List AV} {ds:List Bool} {res:aG} {qs:List (Bool×Bool)}
theorem mL (nx:Nat) {k:List Nat→List Ch→R aG}:∀ {m j:Nat} {ns:List Nat} {cs:List Ch} {rd:List cu},(J7 k m j ns cs).run sl H ds= .ok res rd qs→cs.length=j→
  ∃ns' cs' rd',(k ns' cs').run sl H ds= .ok res rd' qs∧nX ns ns'∧(∀i,i<j→cs'[i]?=cs[i]?)∧∀i c,j≤i→cs'[i]?=some c→H (ns'.getD i 0)=some (c.rb (cY nx ns'))
 |0,j,ns,cs,rd,h,_=>by cases h
 |m+1,j,ns,cs,rd,h,hj=>by
  unfold J7 at h
  rw [A6] at h
  split at h
  ·refine ⟨ns,cs,rd,h,nX.refl _,fun i hi=>rfl,fun i c hi hc=> ?_⟩
   have:=(List.getElem?_eq_some_iff.1 hc).1
   omega
  ·rename_i b hb
   obtain ⟨rd1,h1⟩:=bl h
   split at h1
   ·cases h1
   ·rename_i E q l hc
    obtain ⟨ns',cs',rd',g1,g2,g3,g4⟩:=mL nx h1 (by simp [hj])
    refine ⟨ns',cs',rd',g1,g2,fun i hi=> ?_,fun i c hi hci=> ?_⟩
    ·rw [g3 i (by omega),List.getElem?_append_left (by omega)]
    ·rcases Nat.lt_or_ge j i with h2|h2
     ·exact g4 i c (by omega) hci
     ·obtain rfl:i=j:=by omega
      rw [g3 i (by omega),List.getElem?_append_right (by omega),hj,Nat.sub_self] at hci
      cases hci
      have:=ie (nx:=nx) hb g2
      rw [ig (by omega),show 1000+i-1000=i by omega] at this
      rw [this,hc]
      rfl
   ·rename_i E l hc
    obtain ⟨l',n1,e1,e2,e3⟩:=fN nx l ns
    rw [e1] at h1
    obtain ⟨ns',cs',rd',g1,g2,g3,g4⟩:=mL nx h1 (by simp [hj])
    refine ⟨ns',cs',rd',g1,e2.trans g2,fun i hi=> ?_,fun i c hi hci=> ?_⟩
    ·rw [g3 i (by omega),List.getElem?_append_left (by omega)]
    ·rcases Nat.lt_or_ge j i with h2|h2
     ·exact g4 i c (by omega) hci
     ·obtain rfl:i=j:=by omega
      rw [g3 i (by omega),List.getElem?_append_right (by omega),hj,Nat.sub_self] at hci
      cases hci
      have:=ie (nx:=nx) hb (e2.trans g2)
      rw [ig (by omega),show 1000+i-1000=i by omega] at this
      rw [this,hc]
      exact congrArg (fun z=>some (Ch.blk E z)) (e3 _ g2).symm
theorem Gw (f:Nat→Nat) (x:AV):uO (x.rb f)=(uO x).rb f:=by
 rcases x with x|l
 ·cases x
  case cv v=>
   cases v<;>try rfl
   rename_i k z;cases k<;>rfl
  all_goals rfl
 ·rfl
theorem ij (f:Nat→Nat):∀l:List AV,cK (l.map (AV.rb f))=(cK l).map (AV.rb f)
 | []=>rfl
 |x::r=>by simp only [List.map_cons,cK,Gw,ij f r]
theorem aQ (hT : a8 ty) (hO : ap ty ct) {f : Nat} {fn : Func} {c : Code} {rs : List ResultVar} (hf : Tryz.prog.funcs[f]? = some fn) (hn : (fn.name == "runtime.NumGoroutine") = false) (hb : fn.body = some c) (hr : fn.results = rs.toArray) {G : fb}
  (hG:∀l cs g,G l cs=some g→aW g.pre→l.length≤fn.ntmps∧g.outs.length=rs.length∧cG cs.length g.outs=true∧gG cs.length g.us=true∧vc ty ct fn.ntmps c ⟨al 0 l,aK 1000 cs,2000⟩ (br ty fn.ntmps rs g.outs g.us cs g.d)):ab f (gB G):=by
 refine ⟨⟨fn,c,hf,hn,hb⟩,fun nx args sl H ds res rd qs h hq hp η w vs hH hv hfree=> ?_⟩
 obtain ⟨l',n1,e1,e2,e3⟩:=ib nx args []
 unfold gB at h
 rw [e1] at h
 obtain ⟨ns,cs,rd',g1,g2,g3,g4⟩:=mL nx h rfl
 split at g1
 ·rename_i hok
  split at g1
  ·rename_i outs us d p e4
   have:=qj g1
   subst this
   unfold uU at hok
   split at hok
   ·rename_i k1 k2 k3 k4
    obtain ⟨q1,q2,q3,q4,q5⟩:=hG _ _ _ e4 hp
    refine qh cA hT hO hf hb hr (bU hok) k1 k2 q1 (aL k3) k4 (fun j c hc=>g4 j c (Nat.zero_le _) hc) q2 q3 q4 q5 hH hfree (A0:=ay H η) (fun g ha j hj=>ha _ (by rw [g4 j cs[j] (Nat.zero_le _) (List.getElem?_eq_getElem hj)];simp)) ?_
    rw [←ij,e3 ns g2]
    exact cR hv
   ·cases hok
  ·cases g1
 ·cases g1
end
set_option maxRecDepth 10000
set_option maxRecDepth 10000
set_option maxRecDepth 10000
theorem uC {l:List UInt64} {cs:List Value}:aU Kd.u64.rp l cs↔cs=l.map fun x=> .int .u64 (x.toNat:Int):=by
 induction l generalizing cs with
 |nil=>exact Iff.rfl
 |cons x l ih=>
  constructor
  ·rintro ⟨h,r,h1,rfl,h2⟩
   rw [show h= [_] from h1,ih.1 h2];rfl
  ·rintro rfl
   exact ⟨[.int .u64 (x.toNat:Int)],_,rfl,rfl,ih.2 rfl⟩
section
variable {η:aY} {A:Nat→Prop} {w:World}
end
def sZ (a b:F):F:=a+b
def wn (a b:F):F:=a-b
def bH (a b:F):F:=a*b
set_option maxRecDepth 10000
def pV:Nat:=57896044618658097711785492504343953926634992332820282019728792003956564819968
def jo (l:List UInt8):F:=fn (bo (l.take 32)%pV)
theorem AM (l:List UInt8) (n:Nat):bo (l++List.replicate n 0)=bo l:=by rw [m7,Cf,Nat.mul_zero,Nat.add_zero]
set_option maxRecDepth 10000
theorem dI {ty ty':Nat→TE} {t:Nat} {i:TypeInfo} {d:TypeDesc} {z:Value} (h:s9 ty t i d z) (h1:(ty' t).ti=(ty t).ti) (h2:(ty' t).size=(ty t).size) (h3:∀η A w,aO η A w (ty' t).zero z.cells.toList):s9 ty' t i d z:=
 ⟨h.info,h.und,by rw [h1];exact h.desc,by rw [h2];exact h.size,h.zero,h3,h.one,by rw [h1];exact h.kz,by rw [h2];exact h.zs,by rw [h1,h2];exact h.ks,h.bytes⟩
def DG (a:F):F:= -a
theorem F1:(fn 1:F)=1:=by decide +kernel
end Go.Proofs.YtnlhpncaldcllaaGreat
