/- What SR rests on, part 1 of 6: my own texts, put together (merge.py). -/
import Derived.Test.YtknlbpjcjdenbaaGreatRows
import Derived.WalkKit
import Derived.ProofKit
import Derived.Lib.Hide
import Derived.OpenShut
import Derived.WalkSpells
import Derived.StillTactics
import Derived.Laws.Pointers
import Derived.Laws.CopyOwn
import Derived.Laws.AppendOwnNone
import Derived.Deep.RegionHeld3
import Derived.RowKit3
import Derived.BigQuiet
import Derived.Deep.QuietTactic
import Derived.Deep.LoopGhost
import Derived.Deep.DeepFit
import Derived.WalkLawsBesides
import Derived.Shelf.Spec.BitsCarry
import Derived.Maps.RangeWalk
import Derived.Deep.MidRow
import Derived.Laws.IdiomStrings
import Derived.Great.BuildSlice
import Derived.Lib.AppendZerosOnto
import Derived.Deep.DeepCutAuto
import Derived.Lib.SliceRun
import Derived.Laws.ResultCell
import Derived.Laws.CopyRow
import Derived.Deep.Cut
import Derived.Deep.RegionLaw
import Derived.Laws.Tables
import Derived.StillTailTactics
import Derived.Shelf.SlIter.Nil
import Derived.Shelf.SlLaysM
import Derived.Shelf.SortM.Plain
import Derived.Shelf.SortM.SortNone
import Derived.ShutString
import Derived.ChangeOld
import Derived.ChangeMaps5
set_option maxRecDepth 100000
namespace Go.Proofs.YtknlbpjcjdenbaaGreat
open Go.RowKit
theorem DD {k:IntKind} {a b:Int} (h:a=b):Ending.returned (.int k a)=Ending.returned (.int k b):=by rw [h]
theorem jg {a b:Bool} (h:a=b):Ending.returned (.bool a)=Ending.returned (.bool b):=by rw [h]
def bV (c:UInt8):Value:= .int .u8 (c.toNat:Int)
structure kK (w:World) (a:Option Addr) (n cap:Nat) (l:List UInt8):Prop where
 hlen:l.length=n
 hcap:n≤cap
 hmax:cap≤maxLen
 get:∀i (h:i<l.length),∃b o,a=some ⟨b,o,none⟩∧w.cell? ⟨b,o+i,none⟩=some (bV l[i])
 hnil:a=none→cap=0
def aj (w:World) (g:Nat) (cs:List Value) (E:TypeId):Prop:=w.heap[g]?=some (.cells cs.toArray E (0,0))
theorem aj.lt {w:World} {g:Nat} {cs:List Value} {E:TypeId} (h:aj w g cs E):g<w.heap.size:=by
 unfold aj at h
 by_cases hg:g<w.heap.size
 ·exact hg
 ·rw [Array.getElem?_eq_none (by omega)] at h;simp at h
theorem aj.cell {w:World} {g:Nat} {cs:List Value} {E:TypeId} (h:aj w g cs E) (i:Nat):w.cell? ⟨g,i,none⟩=cs[i]?:=by
 unfold aj at h
 simp [World.cell?,h]
theorem aj.frozen {w:World} {g:Nat} {cs:List Value} {E:TypeId} (h:aj w g cs E) (i:Nat):w.frozen? ⟨g,i,none⟩=false:=by
 unfold aj at h
 simp [World.frozen?,h]
theorem aj.below {w w':World} {B g:Nat} {cs:List Value} {E:TypeId} (h:aj w g cs E) (hb:Below B w w') (hg:g<B):aj w' g cs E:=by
 unfold aj at*
 rw [hb.block g hg];exact h
theorem aj.below' {w w':World} {g:Nat} {cs:List Value} {E:TypeId} (h:aj w g cs E) (hb:Below w.heap.size w w'):aj w' g cs E:=h.below hb h.lt
theorem aj.alloc {w:World} {g:Nat} {cs:List Value} {E:TypeId} (h:aj w g cs E) (o:Obj):aj (w.alloc o) g cs E:=
 h.below ((Below.refl _ _).alloc (Nat.le_refl _) o) h.lt
theorem aj.drew {w:World} {g:Nat} {cs:List Value} {E:TypeId} (h:aj w g cs E):aj w.drew g cs E:=h
theorem aj.set {w:World} {g:Nat} {cs:List Value} {E:TypeId} (h:aj w g cs E) (i:Nat) (v:Value):aj (w.setCell ⟨g,i,none⟩ v) g (cs.set i v) E:=by
 unfold aj at*
 simp [World.setCell,Array.getElem?_modify,h]
theorem aj.other {w:World} {g:Nat} {cs:List Value} {E:TypeId} (h:aj w g cs E) (a:Addr) (hne:a.block≠g) (v:Value):aj (w.setCell a v) g cs E:=by
 unfold aj at*
 rw [Below.heap_setCell _ _ _ _ (by omega)];exact h
theorem aj.new (w:World) (cs:Array Value) (E:TypeId):aj (w.alloc (.cells cs E)) w.heap.size cs.toList E:=by
 unfold aj
 show (w.heap.push _)[w.heap.size]?=_
 simp
theorem aj.new' {w:World} {cs:Array Value} {E:TypeId} {g:Nat} (hg:g=w.heap.size):aj (w.alloc (.cells cs E)) g cs.toList E:=by
 subst hg;exact aj.new _ _ _
theorem aj.own {w:World} {base E g n:Nat} {xs:List Value} (h:w.ownsRow base E 1 (.slice (some ⟨g,0,none⟩) n n) n xs):aj w g xs E:=by
 obtain ⟨h1,h2⟩:=h
 rcases h2 with ⟨h2,_⟩|⟨g',cap,cur,hv,_,hg,_,_,hs,ht⟩
 ·cases h2
 ·obtain ⟨h3,_,h5⟩:g=g'∧n=n∧n=cap:=by simpa using hv
  subst h3 h5
  have:cur.toList=xs:=by rw [←ht,List.take_of_length_le (by simp [hs])]
  unfold aj
  rw [hg,←this]
def row (n:Nat) (f:Nat→Value):List Value:=(List.range n).map f
theorem uZ {n:Nat} {f:Nat→Value} {k:Nat} (h:k<n):(row n f)[k]?=some (f k):=by simp [row,h]
theorem l7 {n:Nat} {f g:Nat→Value} (h:∀i,i<n→f i=g i):row n f=row n g:=by
 unfold row;apply List.map_congr_left;intro i hi;exact h i (by simpa using hi)
theorem gw {n:Nat} {f g:Nat→Value} (k:Nat) (v:Value) (hk:g k=v) (h:∀i,i<n→i≠k→g i=f i):(row n f).set k v=row n g:=by
 apply List.ext_getElem
 ·simp [row]
 ·intro i h1 h2
  have hi:i<n:=by simpa [row] using h2
  rw [List.getElem_set]
  split
  ·rename_i e;subst e;simp [row,hk]
  ·rename_i e;simp [row,h i hi (fun x=>e x.symm)]
theorem aj.at {w:World} {g n E:Nat} {f:Nat→Value} (h:aj w g (row n f) E) {k:Nat} (hk:k<n):w.cell? ⟨g,k,none⟩=some (f k):=by rw [h.cell,uZ hk]
theorem EO {w w':World} {base E n:Nat} {v:Value} {xs:List Value} (h:w.ownsRow base E 1 v n xs) (hb:Below w.heap.size w w'):w'.ownsRow base E 1 v n xs:=by
 obtain ⟨h1,h2⟩:=h
 refine ⟨h1,?_⟩
 rcases h2 with h2|⟨g,cap,cur,hv,hg,hh,r⟩
 ·exact Or.inl h2
 ·have hlt:g<w.heap.size:=aj.lt (cs:=cur.toList) (E:=E) (by unfold aj;simpa using hh)
  exact Or.inr ⟨g,cap,cur,hv,hg,by rw [hb.block g hlt];exact hh,r⟩
theorem dS {w:World} {p:Addr} {v:Value} (h:w.cell? p=some v):p.block<w.heap.size:=by
 by_cases hg:p.block<w.heap.size
 ·exact hg
 ·unfold World.cell? at h
  rw [Array.getElem?_eq_none (by omega)] at h;simp at h
theorem kK.below {w w':World} {a:Option Addr} {n cap:Nat} {l:List UInt8} (h:kK w a n cap l) (hb:Below w.heap.size w w'):kK w' a n cap l:=by
 refine ⟨h.hlen,h.hcap,h.hmax,fun i hi=> ?_,h.hnil⟩
 obtain ⟨b,o,ha,hc⟩:=h.get i hi
 exact ⟨b,o,ha,by rw [hb.cell (dS hc)];exact hc⟩
theorem kK.blk {w:World} {g E n cap:Nat} {l:List UInt8} (r:List Value) (h:aj w g (l.map bV++r) E) (hn:l.length=n) (hc:n≤cap) (hm:cap≤maxLen):kK w (some ⟨g,0,none⟩) n cap l:=
 ⟨hn,hc,hm,fun i hi=>⟨g,0,rfl,by rw [Nat.zero_add,h.cell,List.getElem?_append_left (by simpa using hi)];simp [hi]⟩,fun h=>by cases h⟩
theorem kK.cases {w:World} {a:Option Addr} {n cap:Nat} {l:List UInt8} (h:kK w a n cap l):
  (n=0∧l= [])∨∃b o,0<n∧a=some ⟨b,o,none⟩∧∀i (hi:i<l.length),w.cell? ⟨b,o+i,none⟩=some (bV l[i]):=by
 by_cases h0:n=0
 ·exact .inl ⟨h0,List.eq_nil_of_length_eq_zero (by rw [h.hlen,h0])⟩
 ·obtain ⟨b,o,ha,_⟩:=h.get 0 (by have:=h.hlen;omega)
  refine .inr ⟨b,o,by omega,ha,fun i hi=> ?_⟩
  obtain ⟨b',o',ha',hc⟩:=h.get i hi
  rw [ha] at ha'
  simp at ha'
  obtain ⟨rfl,rfl⟩:=ha'
  exact hc
theorem Below.alloc' {a w:World} (h:Below a.heap.size a w) (o:Obj):Below a.heap.size a (w.alloc o):=h.alloc h.size o
theorem Below.call {a w w1:World} (h:Below a.heap.size a w) (hb:Below w.heap.size w w1):Below a.heap.size a w1:=h.trans (hb.mono h.size)
theorem P6 {W w1:World} (hb:Below W.heap.size W w1):(∀b o,b<W.heap.size→w1.cell? ⟨b,o,none⟩=W.cell? ⟨b,o,none⟩)∧(∀b o,b<W.heap.size→w1.frozen? ⟨b,o,none⟩=W.frozen? ⟨b,o,none⟩):=
 ⟨fun b o h=>hb.cell (p:=⟨b,o,none⟩) h,fun b o h=>hb.frozen (p:=⟨b,o,none⟩) h⟩
theorem kw:∀(xs ys:List Int),xs.length=ys.length→((List.range xs.length).all fun i=>xs.getD i 0 ==ys.getD i 0)=(xs ==ys)
 | [],[],_=>rfl
 |x::xs,y::ys,h=>by
  have ih:=kw xs ys (by simpa using h)
  rw [List.length_cons,List.range_succ_eq_map,List.all_cons,List.all_map]
  simp only [List.getD_cons_zero,Function.comp_def,List.getD_cons_succ,ih]
  simp [List.cons_beq_cons]
 | [],_::_,h=>by simp at h
 |_::_,[],h=>by simp at h
theorem Qn {P:Program} (w:World) (d:Nat) (t e:TypeId) (n:Nat) (k:IntKind) (ht:P.underlying t=some (.array n e)) (he:P.underlying e=some (.int k)) (hsz:∀w,(sizeOf e).run P w= .ok 1 w)
  (xs ys:List Int) (hx:xs.length=n) (hy:ys.length=n):
  (Op.equalIn (d+2) t (.agg (xs.map (Value.int k)).toArray) (.agg (ys.map (Value.int k)).toArray)).run P w= .ok (xs ==ys) w:=by
 rw [←kw xs ys (hx.trans hy.symm),hx,List.range_eq_range',Op.equalIn]
 simp only [Sem.run_bind,run_underlying ht,Result.andThen_ok,hsz,Std.Legacy.Range.forIn_eq_forIn_range',Std.Legacy.Range.size,Nat.sub_zero,Nat.add_sub_cancel,Nat.div_one]
 have hl:∀i∈List.range' 0 n 1,i<n:=fun i hi=>by simpa using (List.mem_range'_1.1 hi).2
 generalize List.range' 0 n 1=l at hl ⊢
 induction l with
 |nil=>simp
 |cons i l ih=>
  have hi:i<n:=hl i (by simp)
  have px:(part e (xs.map (Value.int k)).toArray (i*1)).run P w= .ok (Value.int k (xs.getD i 0)) w:=by
   simp [part,isAgg,run_underlying he,List.getD,List.getElem?_eq_getElem (show i<xs.length by omega)]
  have py:(part e (ys.map (Value.int k)).toArray (i*1)).run P w= .ok (Value.int k (ys.getD i 0)) w:=by
   simp [part,isAgg,run_underlying he,List.getD,List.getElem?_eq_getElem (show i<ys.length by omega)]
  have pe:(Op.equalIn (d+1) e (Value.int k (xs.getD i 0)) (Value.int k (ys.getD i 0))).run P w= .ok (xs.getD i 0 ==ys.getD i 0) w:=by
   rw [run_equalIn_int w d e k k _ _ he]
  simp only [List.forIn_cons,Sem.run_bind,px,py,pe,Result.andThen_ok,List.all_cons]
  cases hb:(xs.getD i 0 ==ys.getD i 0)
  ·simp
  ·simp only [Bool.not_true,Bool.false_eq_true,if_false,Sem.run_pure,Result.andThen_ok,Bool.true_and]
   exact ih fun j hj=>hl j (by simp [hj])
theorem dt {P:Program} {c:Code} {Q:Exit→Act→World→Prop} {a:Act} {w:World} (F:World→Prop) (hF:F w) (h:∀W,F W→Code.wp P c Q a W):Code.wp P c Q a w:=h w hF
end Go.Proofs.YtknlbpjcjdenbaaGreat
namespace Go.Proofs.YtknlbpjcjdenbaaGreat
def lw (n i:Nat):Nat:=n/2^(64*i)%18446744073709551616
theorem eG (n i:Nat):lw n i<18446744073709551616:=by unfold lw;exact Nat.mod_lt _ (by omega)
def cy (a b i:Nat):Nat:=(a%2^(64*i)+b%2^(64*i))/2^(64*i)
def bw (a b i:Nat):Nat:=if a%2^(64*i)<b%2^(64*i) then 1 else 0
theorem lk (i:Nat):2^(64*(i+1))=2^(64*i)*18446744073709551616:=by
 rw [Nat.mul_add,Nat.pow_add]
theorem NK (a b:Nat):cy a b 0=0:=by simp [cy,Nat.mod_one]
theorem M1 (a b:Nat):bw a b 0=0:=by simp [bw,Nat.mod_one]
theorem Uj (a b i:Nat):cy a b i≤1:=by
 unfold cy
 have hp:0<2^(64*i):=Nat.two_pow_pos _
 have h1:=Nat.mod_lt a hp
 have h2:=Nat.mod_lt b hp
 have h3:(a%2^(64*i)+b%2^(64*i))/2^(64*i)<2:=Nat.div_lt_of_lt_mul (by omega)
 omega
theorem VF (a b i:Nat):bw a b i≤1:=by unfold bw;split<;>omega
theorem ic (n P M:Nat):n%(P*M)=(n/P%M)*P+n%P:=by
 rw [Nat.mod_mul];rw [Nat.mul_comm P];omega
theorem wy (a b i:Nat):(lw a i+lw b i+cy a b i)%18446744073709551616=lw (a+b) i∧(lw a i+lw b i+cy a b i)/18446744073709551616=cy a b (i+1):=by
 have hp:0<2^(64*i):=Nat.two_pow_pos _
 unfold lw cy
 rw [lk]
 generalize 2^(64*i)=P at hp
 have ea:=Nat.div_add_mod a P
 have eb:=Nat.div_add_mod b P
 have e:(a+b)/P=a/P+b/P+(a%P+b%P)/P:=by
  have:a+b=(a%P+b%P)+P*(a/P+b/P):=by rw [Nat.mul_add];omega
  rw [this,Nat.add_mul_div_left _ _ hp]
  have h1:(a%P+b%P+P*(a/P+b/P))%P=(a%P+b%P)%P:=by rw [Nat.add_mul_mod_self_left]
  omega
 constructor
 ·rw [e];omega
 ·rw [ic a,ic b,←Nat.div_div_eq_div_mul]
  have:a/P%18446744073709551616*P+a%P+(b/P%18446744073709551616*P+b%P)=(a%P+b%P)+P*(a/P%18446744073709551616+b/P%18446744073709551616):=by
   rw [Nat.mul_add,Nat.mul_comm P,Nat.mul_comm P];omega
  rw [this,Nat.add_mul_div_left _ _ hp]
  congr 1;omega
theorem Ja (a b i:Nat) (hi:i<4) (hb:b<2^256):
  (((lw a i:Int)-lw b i-bw a b i)%18446744073709551616=lw (a+2^256-b) i)∧((if (lw a i:Int)<lw b i+bw a b i then (1:Int) else 0)=bw a b (i+1)):=by
 have hp:0<2^(64*i):=Nat.two_pow_pos _
 obtain ⟨q,hq⟩:∃q,(2:Nat)^256=2^(64*i)*(18446744073709551616*q):=by
  refine ⟨2^(256-64*(i+1)),?_⟩
  rw [←Nat.mul_assoc,←lk,←Nat.pow_add]
  congr 1;omega
 unfold lw bw
 rw [lk,hq]
 rw [hq] at hb
 generalize 2^(64*i)=P at hp hb
 have ea:=Nat.div_add_mod a P
 have eb:=Nat.div_add_mod b P
 have ha1:=Nat.mod_lt a hp
 have hb1:=Nat.mod_lt b hp
 have hbq:b/P<18446744073709551616*q:=Nat.div_lt_of_lt_mul hb
 rw [ic a,ic b]
 constructor
 ·by_cases h:a%P<b%P
  ·rw [if_pos h]
   have e:a+P*(18446744073709551616*q)-b=(a%P+P-b%P)+P*(a/P+18446744073709551616*q-b/P-1):=by
    rw [Nat.mul_sub,Nat.mul_sub,Nat.mul_add,Nat.mul_one]
    have:P*(b/P)+P≤P*(18446744073709551616*q):=by
     rw [←Nat.mul_succ];exact Nat.mul_le_mul_left _ hbq
    omega
   have hs:a%P+P-b%P<P:=by omega
   rw [e,Nat.add_mul_div_left _ _ hp,Nat.div_eq_of_lt hs]
   clear e hs ea eb hb
   generalize a/P=x at*
   generalize b/P=y at*
   omega
  ·rw [if_neg h]
   have e:a+P*(18446744073709551616*q)-b=(a%P-b%P)+P*(a/P+18446744073709551616*q-b/P):=by
    rw [Nat.mul_sub,Nat.mul_add]
    have:P*(b/P)≤P*(18446744073709551616*q):=Nat.mul_le_mul_left _ (Nat.le_of_lt hbq)
    omega
   have hs:a%P-b%P<P:=by omega
   rw [e,Nat.add_mul_div_left _ _ hp,Nat.div_eq_of_lt hs]
   clear e hs ea eb hb
   generalize a/P=x at*
   generalize b/P=y at*
   omega
 ·have key:(a/P%18446744073709551616*P+a%P<b/P%18446744073709551616*P+b%P)↔(a/P%18446744073709551616<b/P%18446744073709551616+(if a%P<b%P then 1 else 0)):=by
   generalize a/P%18446744073709551616=x
   generalize b/P%18446744073709551616=y
   have hxy:x<y∨x=y∨y<x:=by omega
   rcases hxy with h|h|h
   ·have:x*P+P≤y*P:=by rw [←Nat.succ_mul];exact Nat.mul_le_mul_right _ h
    split<;>omega
   ·subst h;split<;>omega
   ·have:y*P+P≤x*P:=by rw [←Nat.succ_mul];exact Nat.mul_le_mul_right _ h
    split<;>omega
  by_cases h:a%P<b%P
  ·simp only [h,if_true] at key ⊢
   by_cases h2:a/P%18446744073709551616<b/P%18446744073709551616+1
   ·rw [if_pos (key.2 h2)]
    generalize a/P=x at*
    generalize b/P=y at*
    rw [if_pos (by omega)];rfl
   ·rw [if_neg (fun hh=>h2 (key.1 hh))]
    generalize a/P=x at*
    generalize b/P=y at*
    rw [if_neg (by omega)];rfl
  ·simp only [h,if_false] at key ⊢
   by_cases h2:a/P%18446744073709551616<b/P%18446744073709551616+0
   ·rw [if_pos (key.2 h2)]
    generalize a/P=x at*
    generalize b/P=y at*
    rw [if_pos (by omega)];rfl
   ·rw [if_neg (fun hh=>h2 (key.1 hh))]
    generalize a/P=x at*
    generalize b/P=y at*
    rw [if_neg (by omega)];rfl
theorem SR (n i:Nat) (hi:i<4):lw (n%2^256) i=lw n i:=by
 have h:i=0∨i=1∨i=2∨i=3:=by omega
 unfold lw
 rcases h with rfl|rfl|rfl|rfl<;>simp only [Nat.reduceMul,Nat.reducePow]<;>omega
def Lq:Nat:=7237005577332262213973186563042994240857116359379907606001950938285454250989
def once (a:Nat):Nat:=if a<Lq then a else a-Lq
theorem xa {a:Nat} (h:a<2*Lq):once a=a%Lq:=by
 unfold once;unfold Lq at *;split<;>omega
theorem CJ (N j:Nat):lw N (j/64)/2^(j%64)%2=N/2^j%2:=by
 unfold lw
 have h1:j%64<64:=Nat.mod_lt _ (by omega)
 have h2:(18446744073709551616:Nat)=2^(j%64)*(2*2^(63-j%64)):=by
  rw [show (18446744073709551616:Nat)=2^64 from rfl,←Nat.pow_succ',←Nat.pow_add];congr 1;omega
 rw [h2,Nat.mod_mul_right_div_self,Nat.mod_mul_right_mod,Nat.div_div_eq_div_mul,←Nat.pow_add]
 congr 3;omega
theorem uE (N j:Nat):once (2*(N/2^(j+1)%Lq)+N/2^j%2)=N/2^j%Lq:=by
 have hL:0<Lq:=by unfold Lq;omega
 have h1:=Nat.mod_lt (N/2^(j+1)) hL
 rw [xa (by omega)]
 have e:N/2^j=2*(N/2^(j+1))+N/2^j%2:=by
  rw [Nat.pow_succ,←Nat.div_div_eq_div_mul];omega
 conv=>rhs;rw [e]
 rw [Nat.add_mod,Nat.mul_mod,Nat.mod_mod,←Nat.mul_mod,←Nat.add_mod]
theorem Jo (r b:Nat) (hb:b<2):lw (r+r+b) 0=lw (r+r) 0+b∧∀i,lw (r+r+b) (i+1)=lw (r+r) (i+1):=by
 constructor
 ·simp only [lw,Nat.mul_zero,Nat.pow_zero,Nat.div_one];omega
 ·intro i
  unfold lw
  congr 1
  rw [show 64*(i+1)=1+(64*i+63) from by omega,Nat.pow_add,←Nat.div_div_eq_div_mul,←Nat.div_div_eq_div_mul]
  congr 1;omega
theorem Mn (r:Nat):lw (r+r) 0%2=0:=by simp only [lw,Nat.mul_zero,Nat.pow_zero,Nat.div_one];omega
def bm:List UInt8→Nat
 | []=>0
 |c::l=>c.toNat+256*bm l
theorem qd (l m:List UInt8):bm (l++m)=bm l+256^l.length*bm m:=by
 induction l with
 |nil=>simp [bm]
 |cons c l ih=>simp only [List.cons_append,bm,ih,List.length_cons,Nat.pow_succ,Nat.mul_add];rw [Nat.mul_comm (256^l.length) 256,Nat.mul_assoc];omega
theorem Im (l:List UInt8):bm l<256^l.length:=by
 induction l with
 |nil=>simp [bm]
 |cons c l ih=>
  have:=c.toNat_lt
  simp only [bm,List.length_cons,Nat.pow_succ]
  omega
theorem fy (l:List UInt8) (k:Nat) (hk:k<l.length):bm (l.take (k+1))=bm (l.take k)+l[k].toNat*256^k:=by
 rw [List.take_succ_eq_append_getElem hk,qd]
 simp [bm,List.length_take,Nat.min_eq_left (Nat.le_of_lt hk)]
 rw [Nat.mul_comm]
theorem Gb (n:Nat):bm (List.replicate n 0)=0:=by
 induction n with
 |zero=>rfl
 |succ n ih=>simp [List.replicate_succ,bm,ih]
theorem dY (l:List UInt8) (k:Nat):bm (l.take k)<256^k:=
 Nat.lt_of_lt_of_le (Im _) (Nat.pow_le_pow_right (by omega) (by simp;omega))
theorem Hg (k:Nat):(256:Nat)^k=2^(8*k):=by rw [Nat.pow_mul]
theorem Ol (n k c:Nat) (hn:n<256^k) (hc:c<256):lw n (k/8)|||c*2^(8*(k%8))=lw (n+c*256^k) (k/8):=by
 rw [Hg] at*
 have hk:8*k=64*(k/8)+8*(k%8):=by omega
 have hr:8*(k%8)≤56:=by omega
 unfold lw
 rw [hk,Nat.pow_add] at hn
 rw [hk,Nat.pow_add]
 clear hk
 generalize 64*(k/8)=Q at*
 generalize 8*(k%8)=R at*
 have hq:0<2^Q:=Nat.two_pow_pos _
 have h1:n/2^Q<2^R:=Nat.div_lt_of_lt_mul hn
 have h2:2^R≤2^56:=Nat.pow_le_pow_right (by omega) hr
 have h3:c*2^R≤255*2^R:=Nat.mul_le_mul_right _ (by omega)
 have e:n+c*(2^Q*2^R)=n+2^Q*(c*2^R):=by rw [←Nat.mul_assoc,Nat.mul_comm c,Nat.mul_assoc]
 rw [e,Nat.add_mul_div_left _ _ hq,Nat.mod_eq_of_lt (by omega),Nat.mod_eq_of_lt (by omega)]
 have h4:=Nat.shiftLeft_add_eq_or_of_lt h1 c
 rw [Nat.shiftLeft_eq] at h4
 rw [Nat.or_comm,←h4];omega
theorem xw (n k c j:Nat) (hn:n<256^k) (hc:c<256) (hj:j≠k/8):lw (n+c*256^k) j=lw n j:=by
 rw [Hg] at*
 unfold lw
 by_cases h:j<k/8
 ·have e:n+c*2^(8*k)=n+2^(64*j)*(18446744073709551616*(c*2^(8*k-64*j-64))):=by
   rw [show 8*k=64*j+(64+(8*k-64*j-64)) from by omega,Nat.pow_add,Nat.pow_add,show (18446744073709551616:Nat)=2^64 from rfl]
   rw [show 64*j+(64+(8*k-64*j-64))-64*j-64=8*k-64*j-64 from by omega]
   generalize 2^(8*k-64*j-64)=y
   generalize 2^(64*j)=x
   rw [show c*(x*(2^64*y))=x*(2^64*(c*y)) from by grind]
  rw [e,Nat.add_mul_div_left _ _ (Nat.two_pow_pos _),Nat.add_mul_mod_self_left]
 ·have hb:n+c*2^(8*k)<2^(64*j):=by
   have h1:c*2^(8*k)≤255*2^(8*k):=Nat.mul_le_mul_right _ (by omega)
   have h2:2^(8*k+8)≤2^(64*j):=Nat.pow_le_pow_right (by omega) (by omega)
   rw [Nat.pow_add] at h2
   omega
  rw [Nat.div_eq_of_lt hb,Nat.div_eq_of_lt (Nat.lt_of_le_of_lt (Nat.le_add_right _ _) hb)]
def bq (k n:Nat):List UInt8:=(List.range k).map fun i=>UInt8.ofNat (n/2^(8*i))
theorem au (k n:Nat):(bq k n).length=k:=by simp [bq]
theorem c_ (k n i:Nat) (h:i<(bq k n).length):(bq k n)[i]=UInt8.ofNat (n/2^(8*i)):=by simp [bq]
theorem ga (j k n:Nat):bq (j+k) n=bq j n++bq k (n/2^(8*j)):=by
 apply List.ext_getElem
 ·simp [au]
 ·intro i h1 h2
  rw [c_]
  by_cases h:i<j
  ·rw [List.getElem_append_left (by simpa [au] using h),c_]
  ·rw [List.getElem_append_right (by simpa [au] using h),c_,au,Nat.div_div_eq_div_mul,←Nat.pow_add]
   simp [au] at h1;congr 3;omega
theorem jU (n:Nat):UInt8.ofNat (n%256)=UInt8.ofNat n:=by
 apply UInt8.toNat_inj.1;simp
theorem Pg (k n:Nat):bq k (n%2^(8*k))=bq k n:=by
 apply List.ext_getElem
 ·simp [au]
 ·intro i h1 h2
  have hi:i<k:=by simpa [au] using h1
  rw [c_,c_,←jU,←jU (n/_)]
  congr 1
  rw [show 8*k=8*i+(8+(8*k-8*i-8)) from by omega,Nat.pow_add,Nat.mod_mul_right_div_self,Nat.pow_add,show (2:Nat)^8=256 from rfl,Nat.mod_mul_right_mod]
theorem lW (k n:Nat):bm (bq k n)=n%2^(8*k):=by
 induction k generalizing n with
 |zero=>simp [bq,bm,Nat.mod_one]
 |succ k ih=>
  rw [show k+1=1+k from by omega,ga,show bq 1 n= [UInt8.ofNat n] from by simp [bq],List.singleton_append,bm,ih]
  rw [show 8*(1+k)=8*1+8*k from by omega,Nat.pow_add,Nat.mod_mul]
  simp
theorem Dd (l:List UInt8):bq l.length (bm l)=l:=by
 induction l with
 |nil=>rfl
 |cons c l ih=>
  rw [List.length_cons,show l.length+1=1+l.length from by omega,ga,show bq 1 (bm (c::l))= [UInt8.ofNat (bm (c::l))] from by simp [bq]]
  have h1:bm (c::l)/2^(8*1)=bm l:=by have:=c.toNat_lt;simp only [bm];omega
  have h2:UInt8.ofNat (bm (c::l))=c:=by
   apply UInt8.toNat_inj.1;have:=c.toNat_lt;simp [bm]
  rw [h1,ih,h2];rfl
theorem ir (n k:Nat):bq (8*(k+1)) n=bq (8*k) n++bq 8 (lw n k):=by
 rw [Nat.mul_add,ga]
 congr 1
 rw [←Pg 8 (n/_)]
 congr 1
 unfold lw
 rw [←Nat.mul_assoc]
end Go.Proofs.YtknlbpjcjdenbaaGreat
namespace Go.Proofs.YtknlbpjcjdenbaaGreat
open Go.RowKit
theorem CB:(Tryz.prog.info? 5).map (fun i=>(i.zero,i.size,i.bytes))=some (some (.int .u8 0),1,1):=by kernel_rfl
def adds (x y c:Int):Int:=(x+y+c)%18446744073709551616
def BN (x y c:Int):Int:=(x+y+c)/18446744073709551616
def Nd (x y c:Int):Int:=(x-y-c)%18446744073709551616
def MO (x y c:Int):Int:=if x<y+c then 1 else 0
structure Wd (x:Int):Prop where
 lo:0≤x
 hi:x<18446744073709551616
structure Cy (x:Int):Prop where
 lo:0≤x
 hi:x≤1
theorem Cy.zero:Cy 0:=⟨by omega,by omega⟩
theorem Nc {x y c:Int} (hx:Wd x) (hy:Wd y) (hc:Cy c):Cy (BN x y c):=by
 have:=hx.lo;have:=hx.hi;have:=hy.lo;have:=hy.hi;have:=hc.lo;have:=hc.hi;unfold BN;exact ⟨by omega,by omega⟩
theorem Kr {x y c:Int} (hx:Wd x) (hy:Wd y) (hc:Cy c) (w:World):(callFunc 207 #[.int .u64 x,.int .u64 y,.int .u64 c]).run Tryz.prog w= .ok (.value (.tuple #[.int .u64 (adds x y c),.int .u64 (BN x y c)])) w:=by
 rw [run_callFunc_extern Tryz.func207 (by kernel_rfl) (by kernel_rfl) (by kernel_rfl) (e:=add64Entry) (by kernel_rfl),run_add64 x y c hx.lo hy.lo hc.lo hc.hi];rfl
theorem Vn {x y c:Int} (hx:Wd x) (hy:Wd y) (hc:Cy c) (w:World):(callFunc 221 #[.int .u64 x,.int .u64 y,.int .u64 c]).run Tryz.prog w= .ok (.value (.tuple #[.int .u64 (Nd x y c),.int .u64 (MO x y c)])) w:=by
 obtain ⟨x0,x1⟩:=hx;obtain ⟨y0,y1⟩:=hy;obtain ⟨c0,c1⟩:=hc
 obtain ⟨x,rfl⟩:=Int.eq_ofNat_of_zero_le x0;obtain ⟨y,rfl⟩:=Int.eq_ofNat_of_zero_le y0;obtain ⟨c,rfl⟩:=Int.eq_ofNat_of_zero_le c0
 have e1:(((x+18446744073709551616-y-c)%18446744073709551616:Nat):Int)=Nd x y c:=by unfold Nd;omega
 have e2:((if x<y+c then 1 else 0:Nat):Int)=MO x y c:=by unfold MO;split<;>split<;>omega
 rw [run_callFunc_extern Tryz.func221 (by kernel_rfl) (by kernel_rfl) (by kernel_rfl) (e:=sub64Entry) (by kernel_rfl),run_sub64 x y c (by omega),←e1,←e2];rfl
theorem fp {x:Int}:IntKind.u64.wrap x=x%18446744073709551616:=IntKind.wrap_u64 x
theorem Jz {x:Int} (h:Wd x):bits BinOp.and IntKind.u64 x 4294967295=x%4294967296:=by
 obtain ⟨x,rfl⟩:=Int.eq_ofNat_of_zero_le h.lo
 have h1:=h.hi
 rw [show (4294967295:Int)=((4294967295:Nat):Int) from rfl,u64_and_nat x 4294967295 (by omega) (by omega)]
 have e:x&&&4294967295=x%4294967296:=Nat.and_two_pow_sub_one_eq_mod x 32
 rw [e];omega
theorem vE {a b m:Int} (ha:0≤a) (hb:0≤b) (ha':a≤m) (hb':b≤m):0≤a*b∧a*b≤m*m:=
 ⟨Int.mul_nonneg ha hb,Int.mul_le_mul ha' hb' hb (by omega)⟩
theorem Fu {x y:Int} (hx:Wd x) (hy:Wd y):
  IntKind.u64.wrap (IntKind.u64.wrap (IntKind.u64.wrap (x/4294967296*(y/4294967296))+IntKind.u64.wrap (IntKind.u64.wrap (x/4294967296*bits BinOp.and IntKind.u64 y 4294967295)+IntKind.u64.wrap (bits BinOp.and IntKind.u64 x 4294967295*bits BinOp.and IntKind.u64 y 4294967295)/4294967296)/4294967296)+
   IntKind.u64.wrap (bits BinOp.and IntKind.u64 (IntKind.u64.wrap (IntKind.u64.wrap (x/4294967296*bits BinOp.and IntKind.u64 y 4294967295)+IntKind.u64.wrap (bits BinOp.and IntKind.u64 x 4294967295*bits BinOp.and IntKind.u64 y 4294967295)/4294967296)) 4294967295+IntKind.u64.wrap (bits BinOp.and IntKind.u64 x 4294967295*(y/4294967296)))/4294967296)
  =x*y/18446744073709551616:=by
 have e:=Jz (x:=IntKind.u64.wrap (IntKind.u64.wrap (x/4294967296*bits BinOp.and IntKind.u64 y 4294967295)+IntKind.u64.wrap (bits BinOp.and IntKind.u64 x 4294967295*bits BinOp.and IntKind.u64 y 4294967295)/4294967296)) (by rw [fp];exact ⟨by omega,by omega⟩)
 rw [e,Jz hx,Jz hy]
 simp only [fp]
 obtain ⟨hx0,hx1⟩:=hx;obtain ⟨hy0,hy1⟩:=hy
 have ex:x=x/4294967296*4294967296+x%4294967296:=by omega
 have ey:y=y/4294967296*4294967296+y%4294967296:=by omega
 have bx1:0≤x/4294967296∧x/4294967296≤4294967295:=by omega
 have bx0:0≤x%4294967296∧x%4294967296≤4294967295:=by omega
 have by1:0≤y/4294967296∧y/4294967296≤4294967295:=by omega
 have by0:0≤y%4294967296∧y%4294967296≤4294967295:=by omega
 generalize x/4294967296=x1 at*
 generalize x%4294967296=x0 at*
 generalize y/4294967296=y1 at*
 generalize y%4294967296=y0 at*
 have e2:x*y=18446744073709551616*(x1*y1)+4294967296*(x1*y0)+4294967296*(x0*y1)+x0*y0:=by rw [ex,ey];grind
 rw [e2]
 have b11:=vE bx1.1 by1.1 bx1.2 by1.2
 have b10:=vE bx1.1 by0.1 bx1.2 by0.2
 have b01:=vE bx0.1 by1.1 bx0.2 by1.2
 have b00:=vE bx0.1 by0.1 bx0.2 by0.2
 generalize x1*y1=p11 at*
 generalize x1*y0=p10 at*
 generalize x0*y1=p01 at*
 generalize x0*y0=p00 at*
 clear ex ey e e2
 omega
set_option maxHeartbeats 400000 in
theorem su {x y:Int} (hx:Wd x) (hy:Wd y) (w:World):Calls Tryz.prog 206 #[.int .u64 x,.int .u64 y] w fun e w'=>e= .returned (.tuple #[.int .u64 (x*y/18446744073709551616),.int .u64 (x*y%18446744073709551616)])∧w=w':=by
 have H:=Lib.hid (Fu hx hy)
 obtain ⟨hx0,hx1⟩:=hx;obtain ⟨hy0,hy1⟩:=hy
 go_enter Tryz.func206,Tryz.ntmps206
 go_wp2
 go_ret2
 refine ⟨?_,rfl⟩
 rw [H.out,fp];rfl
def TM (x y:Int):Int:=x*y/18446744073709551616
def Ty (x y:Int):Int:=x*y%18446744073709551616
theorem ML {x y:Int} (hx:Wd x) (hy:Wd y) (w:World):Calls Tryz.prog 206 #[.int .u64 x,.int .u64 y] w fun e w'=>e= .returned (.tuple #[.int .u64 (TM x y),.int .u64 (Ty x y)])∧w=w':=su hx hy w
theorem LE (x y:Int):Wd (Ty x y):=by unfold Ty;exact ⟨by omega,by omega⟩
theorem sJ (w:World) {ops:Array Oper} {rest:List Oper} {o:Oper} {a:Act} {Q:Exit→Act→World→Prop} (hgd:o.guard=none) (s x:Operand)
  (ho:o.op= .call {callee:= .builtin .append,args:= #[s,x],argTypes:= #[30,30]}) (base:Nat) (v:Value) (n:Nat) (l:List UInt8) (hs:a.eval s=v) (hown:w.ownsRow base 5 1 v n (l.map bV))
  (sa:Option Addr) (m sc:Nat) (r:List UInt8) (hx:a.eval x= .slice sa m sc) (hr:kK w sa m sc r) (hlen:n+m≤70368744177664) (hbase:base≤w.heap.size) (w0:World) (hb0:Below base w0 w)
  (h:∀v' w',w'.ownsRow base 5 1 v' (n+m) ((l++r).map bV)→Below base w0 w'→wpList Tryz.prog ops Q rest (a.put o.dst v') w'):wpList Tryz.prog ops Q (o::rest) a w:=by
 obtain ⟨i0,hi,hz0,hz1,hz2⟩:=info_parts (show (Tryz.prog.info? 5).map (fun i=>(i.zero,i.size,i.bytes))=some (some (.int .u8 0),1,1) from by kernel_rfl)
 cases sa with
 |none=>
  obtain rfl:=hr.hnil rfl
  obtain rfl:m=0:=by have:=hr.hcap;omega
  obtain rfl:r= []:=List.eq_nil_of_length_eq_zero hr.hlen
  refine wpList_append_own_none hgd s x 30 ho base 5 i0 1 Tryz.underlying30 hi v n (l.map bV) hs hown hx ?_
  exact h v w (by simpa using hown) hb0
 |some ad=>
  refine wpList_append_own w hgd s x 30 ho base 5 i0 (.int .u8 0) 1 1 Tryz.underlying30 hi hz0 hz1 hz2 rfl (by decide) v n (l.map bV) hs hown ad m sc (r.map bV) hx (by simp [hr.hlen]) ?_ ?_ (by unfold maxLen;omega) (by omega) hbase ?_
  ·intro j u hu
   obtain ⟨hj,hv⟩:=List.getElem?_eq_some_iff.1 hu
   simp at hj
   obtain ⟨b,q,hab,hc⟩:=hr.get j hj
   simp at hab
   subst hab
   rw [show Addr.add ⟨b,q,none⟩ j=⟨b,q+j,none⟩ from by unfold Addr.add;split<;>simp_all,hc,←hv]
   simp
  ·intro u hu
   simp at hu
   obtain ⟨c,_,rfl⟩:=hu
   rfl
  ·intro v' w' hown' hgr _
   rw [←List.map_append] at hown'
   refine h v' w' hown' (hb0.grown hgr hbase fun q hq=> ?_)
   rcases hown.2 with ⟨h,_⟩|⟨g,cap,cur,hv,hg,_⟩
   ·rw [h] at hq;simp [Value.ownBlock] at hq
   ·rw [hv] at hq;simp [Value.ownBlock] at hq;omega
def first (l:List UInt8) (k:Nat):List UInt8:=l.take k++List.replicate (k-l.length) 0
theorem tf (l:List UInt8) (k:Nat):(first l k).length=k:=by unfold first;simp;omega
theorem Hd (l:List UInt8):∀v∈l.map bV,v.oneCell'=true:=by intro v hv;simp at hv;obtain ⟨c,_,rfl⟩:=hv;rfl
def QD (k:Nat):List Value:=(List.replicate k (0:UInt8)).map bV
def LM (l:List UInt8) (n:Nat):List Value:=(l.take n).map bV
theorem O0 (k:Nat):(QD k).length=k:=by simp [QD]
theorem EA (l:List UInt8) (n:Nat):(LM l n).length=min n l.length:=by simp [LM]
theorem NU (l:List UInt8) (n:Nat):∀v∈LM l n,v.oneCell'=true:=Hd _
theorem RC (k:Nat):(madeCells #[Value.int .u8 0] k).toList=QD k:=by
 apply List.ext_getElem
 ·simp [size_madeCells,QD]
 ·intro i h1 h2
  simp [madeCells,bV,Nat.mod_one,QD]
theorem tP (l:List UInt8) (k n:Nat) (hn:l.length=n):splice (QD k) 0 (LM l (Nat.min n k))=(first l k).map bV:=by
 unfold splice first QD LM
 subst hn
 rw [show (Nat.min l.length k)=min l.length k from rfl]
 simp only [List.take_zero,List.nil_append,Nat.zero_add,←List.map_drop,←List.map_append,List.length_map,List.length_take,List.drop_replicate]
 congr 2
 ·rw [Nat.min_comm,←List.take_take,List.take_length]
 ·congr 1;omega
theorem po (b o j:Nat):Addr.add ⟨b,o,none⟩ j=⟨b,o+j,none⟩:=by
 unfold Addr.add;split
 ·rename_i h;subst h;rfl
 ·rfl
theorem kK.src {w:World} {a:Option Addr} {n cap:Nat} {l:List UInt8} (h:kK w a n cap l) (m:Nat) (hpos:0<(LM l m).length):
  ∃ad,a=some ad∧∀j v,(LM l m)[j]?=some v→w.cell? (ad.add j)=some v:=by
 rcases h.cases with ⟨h0,h0'⟩|⟨b,o,hn0,ha,hc⟩
 ·subst h0';simp [LM] at hpos
 ·refine ⟨⟨b,o,none⟩,ha,fun j v hv=> ?_⟩
  unfold LM at hv
  obtain ⟨hj,hv⟩:=List.getElem?_eq_some_iff.1 hv
  simp at hj
  rw [po,hc j (by omega),←hv]
  simp
theorem Ro:(Tryz.prog.info? 5).map (·.size)=some 1:=by kernel_rfl
set_option maxHeartbeats 400000 in
theorem sK {a:Option Addr} {n cap:Nat} {l:List UInt8} (k:Nat) (hk:k≤1000) (w:World) (h:kK w a n cap l):
  Calls Tryz.prog 179 #[.slice a n cap,.int .i64 k] w fun e w'=>e= .returned (.slice (some ⟨w.heap.size,0,none⟩) k k)∧aj w' w.heap.size ((first l k).map bV) 5∧Below w.heap.size w w':=by
 obtain ⟨i0,hi,hz0,hz1,hz2⟩:=info_parts CB
 have hkk:k≤maxLen:=by unfold maxLen;omega
 have hgl:=Lib.hid h.hlen
 go_enter Tryz.func179,Tryz.ntmps179
 go_wp2_with (at_make;refine wpList_make_full _ rfl _ _ 30 rfl w.heap.size 5 i0 (.int .u8 0) 1 Tryz.underlying30 hi hz0 hz1 .i64 .i64 _ _ k rfl rfl rfl rfl ?_ hkk (Nat.le_refl _) ?_)
 ·rw [hz2];omega
 ·intro w1 hown hgr
  have hB:=aj.own hown
  have hb1:Below w.heap.size w w1:=(Below.refl _ _).grown hgr (Nat.le_refl _) (by simp)
  rw [RC k] at hB
  clear hown hgr hi hz0 hz1 hz2
  have h1:=h.below hb1
  go_wp2_with (refine wpList_copy_splice rfl (.tmp 8) (.tmp 9) 30 30 rfl 5 Tryz.underlying30 Ro _ _ _ _ _ _ rfl rfl w.heap.size 0 (QD k) 5 hB (LM l (Nat.min n k)) ?_ ?_ ?_ (NU _ _) w.heap.size w hb1 (Nat.le_refl _) ?_)
  ·rw [EA,hgl.out];show min (min n k) n=min n k;omega
  ·exact fun hpos=>h1.src _ hpos
  ·rw [O0,EA];show 0+min (min n k) l.length≤k;omega
  ·intro w2 hB2 hb2
   have hB3:Hid (aj w2 w.heap.size ((first l k).map bV) 5):=by
    rw [tP l k n hgl.out] at hB2;exact hB2
   clear hB2
   go_wp2
   go_ret
   exact ⟨rfl,hB3.out,hb2⟩
theorem Vj (w:World):(Instr.makeSlice 30 (.int .i64 8) (.int .i64 8)).run Tryz.prog w= .ok (.slice (some ⟨w.heap.size,0,none⟩) 8 8) (w.alloc (.cells #[.int .u8 0,.int .u8 0,.int .u8 0,.int .u8 0,.int .u8 0,.int .u8 0,.int .u8 0,.int .u8 0] 5)):=by kernel_rfl
theorem zX (n:Nat) (hn:n<18446744073709551616):(bq 8 n).map bV= [.int .u8 ((n:Int)%256),.int .u8 ((n:Int)/256%256),.int .u8 ((n:Int)/65536%256),.int .u8 ((n:Int)/16777216%256),.int .u8 ((n:Int)/4294967296%256),
  .int .u8 ((n:Int)/1099511627776%256),.int .u8 ((n:Int)/281474976710656%256),.int .u8 ((n:Int)/72057594037927936)]:=by
 have h:n/72057594037927936%256=n/72057594037927936:=by omega
 simp [bq,bV,List.range,List.range.loop]
 omega
set_option maxHeartbeats 400000 in
theorem e_ {n:Nat} (hn:n<18446744073709551616) (w:World):
  Calls Tryz.prog 178 #[.int .u64 n] w fun e w'=>e= .returned (.slice (some ⟨w.heap.size,0,none⟩) 8 8)∧aj w' w.heap.size ((bq 8 n).map bV) 5∧Below w.heap.size w w':=by
 have hn0:(0:Int)≤(n:Int):=by omega
 have hn1:(n:Int)<18446744073709551616:=by omega
 have hmk:=Vj
 go_enter Tryz.func178,Tryz.ntmps178
 go_wp2
 refine wp_loop_rounds 9 ?_
 iterate 9 (rw [rounds_succ];go_wp2)
 go_ret
 refine ⟨rfl,?_,(Below.refl _ _).alloc (Nat.le_refl _) _⟩
 rw [zX n hn]
 exact aj.new w _ _
theorem Mw {l m:List UInt8} (k:Nat) (hl:k<l.length) (hm:k<m.length) (h:l.take k=m.take k) (e:l[k]=m[k]):l.take (k+1)=m.take (k+1):=by
 rw [List.take_succ_eq_append_getElem hl,List.take_succ_eq_append_getElem hm,h,e]
set_option maxHeartbeats 400000 in
theorem wU {a b:Option Addr} {n m cap cap':Nat} {l r:List UInt8} (w:World) (hl:kK w a n cap l) (hr:kK w b m cap' r):
  Calls Tryz.prog 49 #[.slice a n cap,.slice b m cap'] w fun e w'=>e= .returned (.bool (decide (l=r)))∧Below w.heap.size w w':=by
 by_cases hnm:n=m
 ·subst hnm
  have HL:=Lib.hid hl.hlen;have HR:=Lib.hid hr.hlen
  rcases hl.cases with ⟨h0,h1⟩|⟨ba,oa,hn0,rfl,hca⟩
  ·subst h0 h1
   obtain rfl:r= []:=List.eq_nil_of_length_eq_zero HR.out
   go_enter Tryz.func49,Tryz.ntmps49
   go_wp2
   refine wp_loop_rounds 1 ?_
   rw [rounds_succ]
   go_wp2
   go_ret
   exact ⟨rfl,Below.refl _ _⟩
  ·rcases hr.cases with ⟨h0,h1⟩|⟨bb,ob,_,rfl,hcb⟩
   ·omega
   ·have hm63:(n:Int)≤9223372036854775807:=by have:=hl.hcap;have:=hl.hmax;unfold maxLen at *;omega
    clear hl hr
    go_enter Tryz.func49,Tryz.ntmps49
    go_wp2
    go_loopw [13] (fun i wr=>∃k:Nat,k≤n∧i= .int .i64 k∧l.take k=r.take k∧Below w.heap.size w wr) (fun i _=>n-(intOf i).toNat)
    case atStart=>exact ⟨0,Nat.zero_le _,rfl,by simp,Below.refl _ _⟩
    case round=>
     obtain ⟨k,hk,rfl,htk,hbel⟩:=hrel
     by_cases hlt:k<n
     ·have hkl:k<l.length:=by rw [HL.out];exact hlt
      have hkr:k<r.length:=by rw [HR.out];exact hlt
      have c1:wr.cell? ⟨ba,oa+k,none⟩=some (.int .u8 (l[k].toNat:Int)):=by have:=hca k hkl;rw [hbel.cell (dS this)];exact this
      have c2:wr.cell? ⟨bb,ob+k,none⟩=some (.int .u8 (r[k].toNat:Int)):=by have:=hcb k hkr;rw [hbel.cell (dS this)];exact this
      have HT:=Lib.hid htk;clear htk
      clear hca hcb
      by_cases he:l[k]=r[k]
      ·have HE:=Lib.hid (Mw k hkl hkr HT.out he)
       have hz:((l[k].toNat:Int) != (r[k].toNat:Int))=false:=by rw [he];simp
       clear he
       generalize (l[k].toNat:Int)=x at*
       generalize (r[k].toNat:Int)=y at*
       go_wp2
       go_quiet (fail)
       go_wp2
       go_roundw
       case rel=>exact ⟨k+1,by omega,by go_num,HE.out,by repeat (first|exact hbel|apply Below.drew|apply below_drewN)⟩
       case measure=>simp [intOf];omega
      ·have HE:Hid (decide (l=r)=false):=Lib.hid (by simp;intro h;subst h;exact he rfl)
       have hz:((l[k].toNat:Int) != (r[k].toNat:Int))=true:=by
        simp;intro h;exact he (UInt8.toNat_inj.1 (by omega))
       clear he
       generalize (l[k].toNat:Int)=x at*
       generalize (r[k].toNat:Int)=y at*
       go_wp2
       go_quiet (fail)
       go_wp2
       go_ret
       exact ⟨by rw [HE.out];rfl,by repeat (first|exact hbel|apply Below.drew|apply below_drewN)⟩
     ·have hkn:k=n:=by omega
      have HE:Hid (decide (l=r)=true):=Lib.hid (by simp;rw [←List.take_of_length_le (show l.length≤k by rw [HL.out];omega),htk,List.take_of_length_le (by rw [HR.out];omega)])
      clear htk hkn hca hcb
      go_wp2
      go_ret
      exact ⟨by rw [HE.out];rfl,hbel⟩
 ·have HE:Hid (decide (l=r)=false):=Lib.hid (by simp;intro h;subst h;exact hnm (hl.hlen.symm.trans hr.hlen))
  have hz:((n:Int) != (m:Int))=true:=by simp;omega
  clear hl hr
  go_enter Tryz.func49,Tryz.ntmps49
  go_wp2
  go_ret
  exact ⟨by rw [HE.out];rfl,Below.refl _ _⟩
set_option maxHeartbeats 400000 in
theorem FK {a b:Option Addr} {n m cap cap':Nat} {l r:List UInt8} (w:World) (hl:kK w a n cap l) (hr:kK w b m cap' r):
  Calls Tryz.prog 26 #[.slice a n cap,.slice b m cap'] w fun e w'=>e= .returned (.bool (decide (l=r)))∧Below w.heap.size w w':=by
 go_enter Tryz.func26,Tryz.ntmps26
 go_wp2_with (go_at_call 49;refine (wU _ hl hr).mono ?_;rintro e w' ⟨rfl,hb⟩)
 go_ret
 exact ⟨rfl,hb⟩
def wV (n i:Nat):Value:= .int .u64 (lw n i:Nat)
theorem Ri (f:Nat→Value):row 4 f= [f 0,f 1,f 2,f 3]:=rfl
theorem W2 (i:Nat):wV 0 i= .int .u64 0:=by unfold wV lw;rw [Nat.zero_div];rfl
theorem wK (x k c:Nat) (ci:Int) (hci:ci=(c:Int)) (hx:x<256^k) (hc:c<256):
  bits BinOp.or IntKind.u64 (lw x (k/8):Nat) (IntKind.u64.wrap (ci*2^(8*(k%8))))=(lw (x+c*256^k) (k/8):Nat):=by
 subst hci
 have h1:c*2^(8*(k%8))<18446744073709551616:=by
  have h2:2^(8*(k%8))≤2^56:=Nat.pow_le_pow_right (by omega) (by omega)
  have h3:c*2^(8*(k%8))≤255*2^56:=Nat.mul_le_mul (by omega) h2
  omega
 have e:(c:Int)*2^(8*(k%8))=((c*2^(8*(k%8)):Nat):Int):=by simp
 rw [e,fp,show ((c*2^(8*(k%8)):Nat):Int)%18446744073709551616=((c*2^(8*(k%8)):Nat):Int) from by omega,u64_or_nat _ _ (eG _ _) h1,Ol x k c hx hc]
def qK (c:UInt8):Bool:=(decide (97≤c.toNat)&&decide (c.toNat≤122))||(decide (48≤c.toNat)&&decide (c.toNat≤57))
def bl (s:ByteArray):Bool:=s.data.toList.all qK&& !s.data.toList.isEmpty&&decide (s.size≤12)
theorem iE (s:ByteArray):s.toList=s.data.toList:=by
 rcases s with ⟨⟨l⟩⟩
 exact ByteArray.toList_mk l
theorem rD {s:ByteArray} {k:Nat} (hk:k<s.data.toList.length) (h:qK (s.data.toList.getD k 0)=false):bl s=false:=by
 have:s.data.toList.all qK=false:=by
  rw [List.all_eq_false]
  refine ⟨s.data.toList[k],List.getElem_mem hk,?_⟩
  rw [List.getD_eq_getElem?_getD,List.getElem?_eq_getElem hk] at h
  simpa using h
 rw [bl,this];rfl
set_option maxHeartbeats 1000000 in
theorem cV (s:ByteArray) (hm:s.size≤1000) (w:World):
  Calls Tryz.prog 20 #[.string s] w fun e w'=>e= .returned (.bool (bl s))∧w=w':=by
 obtain ⟨n,hn⟩:∃n,n=s.size:=⟨_,rfl⟩
 have hs0:(s.size:Int)=n:=by omega
 have HN:=Lib.hid hn
 have hn1:(n:Int)≤1000:=by omega
 clear hn hm
 go_enter Tryz.func20,Tryz.ntmps20
 go_wp2
 go_loopw [7] (fun i wr=>∃(k:Nat),k≤n∧i= .int .i64 k∧(s.data.toList.take k).all qK=true∧w=wr) (fun i _=>n-(intOf i).toNat)
 case atStart=>exact ⟨0,by omega,rfl,by simp,rfl⟩
 case round=>
  obtain ⟨k,hk,rfl,hall,rfl⟩:=hrel
  by_cases hlt:k<n
  ·have hk2:k<s.data.toList.length:=by have:=HN.out;show k<s.size;omega
   obtain ⟨c,hc⟩:∃c,c=s.data.toList.getD k 0:=⟨_,rfl⟩
   obtain ⟨C,hC⟩:∃C:Int,C=(c.toNat:Int):=⟨_,rfl⟩
   have hi0:∀h,((s[k]'h).toNat:Int)=C:=fun h=>by
    rw [hC,hc,List.getD_eq_getElem?_getD,List.getElem?_eq_getElem hk2];rfl
   have HTK:Hid ((s.data.toList.take (k+1)).all qK=qK c):=Lib.hid (by
    rw [List.take_succ_eq_append_getElem hk2,List.all_append,hall,hc,List.getD_eq_getElem?_getD,List.getElem?_eq_getElem hk2];simp)
   have HBAD:Hid (qK c=false→bl s=false):=Lib.hid fun h=>rD hk2 (by rw [←hc];exact h)
   have HC:=Lib.hid hC
   have hc0:0≤C:=by omega
   have hc1:C<256:=by have:=c.toNat_lt;omega
   have t1:(0:Int)≤(k:Int):=by omega
   have t2:(k:Int)<(n:Int):=by omega
   clear hC hc hall
   by_cases a1:97≤C
   ·by_cases a2:C≤122
    ·go_wp2
     refine ⟨⟨k+1,hlt,rfl,?_,trivial⟩,?_⟩
     ·rw [HTK.out]
      have:=HC.out
      simp only [qK,Bool.or_eq_true,Bool.and_eq_true,decide_eq_true_eq]
      omega
     ·simp only [intOf]
      omega
    ·have a3:48≤C:=by omega
     have a4:¬C≤57:=by omega
     go_wp2
     go_ret
     rw [HBAD.out (by
      have:=HC.out
      simp only [qK,Bool.or_eq_false_iff,Bool.and_eq_false_iff,decide_eq_false_iff_not]
      omega)]
     exact ⟨rfl,rfl⟩
   ·by_cases a3:48≤C
    ·by_cases a4:C≤57
     ·go_wp2
      refine ⟨⟨k+1,hlt,rfl,?_,trivial⟩,?_⟩
      ·rw [HTK.out]
       have:=HC.out
       simp only [qK,Bool.or_eq_true,Bool.and_eq_true,decide_eq_true_eq]
       omega
      ·simp only [intOf]
       omega
     ·go_wp2
      go_ret
      rw [HBAD.out (by
       have:=HC.out
       simp only [qK,Bool.or_eq_false_iff,Bool.and_eq_false_iff,decide_eq_false_iff_not]
       omega)]
      exact ⟨rfl,rfl⟩
    ·go_wp2
     go_ret
     rw [HBAD.out (by
      have:=HC.out
      simp only [qK,Bool.or_eq_false_iff,Bool.and_eq_false_iff,decide_eq_false_iff_not]
      omega)]
     exact ⟨rfl,rfl⟩
  ·have t3:¬(k:Int)<(n:Int):=by omega
   have hkn:k=n:=by omega
   have hall2:s.data.toList.all qK=true:=by
    have e:s.data.toList.take k=s.data.toList:=List.take_of_length_le (by have:=HN.out;show s.size≤k;omega)
    rw [e] at hall;exact hall
   have HALL:=Lib.hid hall2
   clear hall hall2
   by_cases he:s.data.toList= []
   ·have HR:Hid (bl s=false):=Lib.hid (by rw [bl,he];rfl)
    have e1:s.toList= []:=(iE s).trans he
    go_wp2
    go_ret
    rw [HR.out]
    exact ⟨rfl,rfl⟩
   ·have e2:(s.data.toList.isEmpty)=false:=by cases h:s.data.toList with |nil=>exact absurd h he|cons a l=>rfl
    have HR:Hid (bl s=decide (s.size≤12)):=Lib.hid (by rw [bl,HALL.out,e2];rfl)
    have e3:(s.toList.isEmpty)=false:=by rw [iE];exact e2
    have e4:s.toList≠ []:=fun h=>he ((iE s).symm.trans h)
    have e5:(s.toList == [])=false:=by rw [iE];cases h:s.data.toList with |nil=>exact absurd h he|cons a l=>rfl
    by_cases hs:(s.size:Int)≤12
    ·have hs1:(n:Int)≤12:=by omega
     have HR2:Hid (bl s=true):=Lib.hid (by rw [HR.out];exact decide_eq_true (by omega))
     clear he e2
     go_wp2
     go_ret
     rw [HR2.out]
     exact ⟨rfl,rfl⟩
    ·have hs1:¬(n:Int)≤12:=by omega
     have HR2:Hid (bl s=false):=Lib.hid (by rw [HR.out];exact decide_eq_false (by omega))
     clear he e2
     go_wp2
     go_ret
     rw [HR2.out]
     exact ⟨rfl,rfl⟩
end Go.Proofs.YtknlbpjcjdenbaaGreat
namespace Go.Proofs.YtknlbpjcjdenbaaGreat
open Go Go.RowKit
structure Fr (F:Nat→Prop) (w w':World):Prop where
 os:w'.os=w.os
 tape:w'.tape=w.tape
 output:w'.output=w.output
 size:w.heap.size≤w'.heap.size
 block:∀b,b<w.heap.size→¬F b→w'.heap[b]?=w.heap[b]?
theorem Fr.refl (F:Nat→Prop) (w:World):Fr F w w:=⟨rfl,rfl,rfl,Nat.le_refl _,fun _ _ _=>rfl⟩
theorem Fr.trans {F F':Nat→Prop} {a b c:World} (h:Fr F a b) (k:Fr F' b c) (hF:∀x,F' x→F x∨a.heap.size≤x):Fr F a c:=
 ⟨k.os.trans h.os,k.tape.trans h.tape,k.output.trans h.output,Nat.le_trans h.size k.size,fun x hx hn=>(k.block x (Nat.lt_of_lt_of_le hx h.size) (fun hf=>by rcases hF x hf with h1|h1;exact hn h1;omega)).trans (h.block x hx hn)⟩
theorem Fr.mono {F F':Nat→Prop} {a b:World} (h:Fr F a b) (hF:∀x,F x→F' x∨a.heap.size≤x):Fr F' a b:=
 ⟨h.os,h.tape,h.output,h.size,fun x hx hn=>h.block x hx (fun hf=>by rcases hF x hf with h1|h1;exact hn h1;omega)⟩
theorem Fr.of_below {F:Nat→Prop} {w w':World} (h:Below w.heap.size w w'):Fr F w w':=⟨h.os,h.tape,h.output,h.size,fun b hb _=>h.block b hb⟩
theorem Fr.below {F:Nat→Prop} {w w':World} {B:Nat} (h:Fr F w w') (hB:B≤w.heap.size) (hF:∀x,F x→B≤x):Below B w w':=
 ⟨h.os,h.tape,h.output,h.size,fun b hb=>h.block b (by omega) (fun hf=>by have:=hF b hf;omega)⟩
theorem Fr.call {F:Nat→Prop} {a w w':World} (h:Fr F a w) (hb:Below w.heap.size w w'):Fr F a w':=h.trans (F':=fun _=>False) (.of_below hb) (fun _ hf=>hf.elim)
theorem Fr.alloc {F:Nat→Prop} {a w:World} (h:Fr F a w) (o:Obj):Fr F a (w.alloc o):=h.call ((Below.refl _ _).alloc (Nat.le_refl _) o)
theorem Fr.drew {F:Nat→Prop} {a w:World} (h:Fr F a w):Fr F a w.drew:=h.call (Below.refl _ _).drew
theorem Fr.setCell {F:Nat→Prop} {a w:World} {g o:Nat} (h:Fr F a w) (hg:F g∨a.heap.size≤g) (v:Value):Fr F a (w.setCell ⟨g,o,none⟩ v):=
 h.trans (F':=fun x=>x=g) ⟨rfl,rfl,rfl,by simp,fun b _ hn=>Below.heap_setCell w ⟨g,o,none⟩ v b hn⟩ (fun x hx=>by cases hx;exact hg)
theorem Fr.blk {F:Nat→Prop} {w w':World} (h:Fr F w w') {g E:Nat} {cs:List Value} (hb:aj w g cs E) (hF:¬F g):aj w' g cs E:=by
 have hl:=hb.lt
 unfold aj at*
 rw [h.block g hl hF];exact hb
end Go.Proofs.YtknlbpjcjdenbaaGreat
namespace Go.Proofs.YtknlbpjcjdenbaaGreat
open Go Go.RowKit Go.Maps
set_option maxHeartbeats 1000000 in
theorem yR (w:World):Calls Tryz.prog 9 #[] w fun e w'=>e= .returned (.pointer (some ⟨w.heap.size,0,none⟩))∧aj w' w.heap.size [.map none] 60∧Below w.heap.size w w':=by
 go_enter Tryz.func9,Tryz.ntmps9
 go_wp2
 go_ret
 exact ⟨rfl,aj.new _ _ _,(by repeat (first|(with_reducible refine Below.alloc' ?_ _)|(with_reducible refine Below.drew ?_)|(with_reducible refine below_drewN ?_ _)|((with_reducible refine Below.setCell ?_ ?_ _);rotate_left;(focus (first|exact Nat.le_refl _|(simp;done)|(simp;omega))))|(with_reducible assumption)|(with_reducible exact Below.refl _ _)))⟩
def hP (v:Value):Option (DataW Value×List MemPlace):=match v with
 | .pointer _=>some (.held v,[])
 |_=>none
theorem DV {v x:Value} {ps:List MemPlace} (h:hP v=some (.held x,ps)):v=x:=by
 unfold hP at h
 split at h
 ·cases h;rfl
 ·cases h
theorem Jw:Keyed Tryz.prog 9:=string_keyed Tryz.underlying9
theorem H6 (s:ByteArray) (h:s.size≤1000):keyOf Tryz.prog 9 (.string s)=some (.string s.data.toList):=Go.WideMaps.keyOf_string_mk Tryz.underlying9 (by unfold maxLen;omega)
theorem Ih (w:World):(zeroValue 64).run Tryz.prog w= .ok (.pointer none) w:=by kernel_rfl
theorem jX {w:World} {mb m:Nat} {D:DataW Value} (ho:w.ownsMap Tryz.prog 9 hP mb m D) {s:ByteArray} (h:s.size≤1000):
  ∃v,(Instr.lookup 58 (.map (some mb)) (.string s) false).run Tryz.prog w= .ok v w∧hP v=some (D.atKey (.string s.data.toList) (.held (.pointer none)),[]):=by
 obtain ⟨v,ps,hr,hv⟩:=ho.lookup Jw Tryz.underlying58 (Ih w) (zd:= .held (.pointer none)) (zp:= []) rfl (H6 s h)
 refine ⟨v,hr,?_⟩
 generalize D.atKey (.string s.data.toList) (.held (.pointer none))=d at hv
 unfold hP at hv ⊢
 split at hv
 ·cases hv;rfl
 ·cases hv
structure wI (w:World) (g mb m:Nat) (D:DataW Value):Prop where
 top:aj w g [.map (some mb)] 60
 map:w.ownsMap Tryz.prog 9 hP mb m D
def yK (D:DataW Value) (s:ByteArray) (p:Option Addr):Prop:=D.atKey (.string s.data.toList) (.held (.pointer none))= .held (.pointer p)
set_option maxHeartbeats 1000000 in
theorem KR (p:Option Addr) (s:ByteArray) (hm:s.size≤1000) (hb:bl s=false) (w:World):
  Calls Tryz.prog 35 #[.pointer p,.string s] w fun e w'=>e= .returned (.tuple #[.pointer none,.int .i64 1])∧w=w':=by
 have HM:=Lib.hid hm
 have HB:=Lib.hid hb
 clear hm hb
 go_enter Tryz.func35,Tryz.ntmps35
 go_wp2_with (go_at_call 20;go_must (refine (cV s HM.out _).mono ?_;rintro e w1 ⟨rfl,rfl⟩;rw [HB.out]))
 go_ret2
 exact ⟨rfl,rfl⟩
set_option maxHeartbeats 1000000 in
theorem Hh (s:ByteArray) (hm:s.size≤1000) (hb:bl s=true) (w:World):
  Calls Tryz.prog 35 #[.pointer none,.string s] w fun e w'=>e= .returned (.tuple #[.pointer none,.int .i64 7])∧w=w':=by
 have HM:=Lib.hid hm
 have HB:=Lib.hid hb
 clear hm hb
 go_enter Tryz.func35,Tryz.ntmps35
 go_wp2_with (go_at_call 20;go_must (refine (cV s HM.out _).mono ?_;rintro e w1 ⟨rfl,rfl⟩;rw [HB.out]))
 go_ret2
 exact ⟨rfl,rfl⟩
set_option maxHeartbeats 1000000 in
theorem jz (s:ByteArray) (hm:s.size≤1000) (hb:bl s=true) {w:World} {g mb m:Nat} {D:DataW Value} (hE:wI w g mb m D) {q:Addr} (hp:yK D s (some q)):
  Calls Tryz.prog 35 #[.pointer (some ⟨g,0,none⟩),.string s] w fun e w'=>e= .returned (.tuple #[.pointer (some q),.int .i64 0])∧w=w':=by
 have HM:=Lib.hid hm
 have HB:=Lib.hid hb
 have hl:(Instr.lookup 58 (.map (some mb)) (.string s) false).run Tryz.prog w= .ok (.pointer (some q)) w:=by
  obtain ⟨v,h1,h2⟩:=jX hE.map hm
  rw [show D.atKey (.string s.data.toList) (.held (.pointer none))= .held (.pointer (some q)) from hp] at h2
  rw [←DV h2]
  exact h1
 have hc:=hE.top.cell 0
 clear hm hb hE hp
 go_enter Tryz.func35,Tryz.ntmps35
 go_wp2_with (go_at_call 20;go_must (refine (cV s HM.out _).mono ?_;rintro e w1 ⟨rfl,rfl⟩;rw [HB.out]))
 go_ret2
 exact ⟨rfl,rfl⟩
set_option maxHeartbeats 1000000 in
theorem Fs (s:ByteArray) (hm:s.size≤1000) (hb:bl s=true) {w:World} {g:Nat} (hE:aj w g [.map none] 60):
  Calls Tryz.prog 35 #[.pointer (some ⟨g,0,none⟩),.string s] w fun e w'=>e= .returned (.tuple #[.pointer none,.int .i64 7])∧w=w':=by
 have HM:=Lib.hid hm
 have HB:=Lib.hid hb
 have hc:=hE.cell 0
 have hl:(Instr.lookup 58 (.map none) (.string s) false).run Tryz.prog w= .ok (.pointer none) w:=by
  simpa using Maps.look_nil (w:=w) false Jw Tryz.underlying58 (Ih w) (H6 s hm)
 clear hm hb hE
 go_enter Tryz.func35,Tryz.ntmps35
 go_wp2_with (go_at_call 20;go_must (refine (cV s HM.out _).mono ?_;rintro e w1 ⟨rfl,rfl⟩;rw [HB.out]))
 go_ret2
 exact ⟨rfl,rfl⟩
set_option maxHeartbeats 1000000 in
theorem Ab (p:Option Addr) (s:ByteArray) {w:World} {q:Value} {n:Int} (h0:n≠0) (hf:Calls Tryz.prog 35 #[.pointer p,.string s] w fun e w'=>e= .returned (.tuple #[q,.int .i64 n])∧w=w'):
  Calls Tryz.prog 13 #[.pointer p,.string s] w fun e w'=>e= .returned (.int .i64 0)∧w=w':=by
 go_enter Tryz.func13,Tryz.ntmps13
 go_wp2_with (go_at_call 35;go_must (refine hf.mono ?_;rintro e w1 ⟨rfl,rfl⟩))
 go_ret
 exact ⟨rfl,rfl⟩
set_option maxHeartbeats 1000000 in
theorem rQ (p:Option Addr) (s:ByteArray) {w:World} {b k c:Nat} {a:Option Addr} (hk:w.cell? ⟨b,11,none⟩=some (.slice a k c)) (hf:Calls Tryz.prog 35 #[.pointer p,.string s] w fun e w'=>e= .returned (.tuple #[.pointer (some ⟨b,0,none⟩),.int .i64 0])∧w=w'):
  Calls Tryz.prog 13 #[.pointer p,.string s] w fun e w'=>e= .returned (.int .i64 (k:Int))∧w=w':=by
 go_enter Tryz.func13,Tryz.ntmps13
 go_wp2_with (go_at_call 35;go_must (refine hf.mono ?_;rintro e w1 ⟨rfl,rfl⟩))
 go_ret
 exact ⟨rfl,rfl⟩
end Go.Proofs.YtknlbpjcjdenbaaGreat
namespace Go.Proofs.YtknlbpjcjdenbaaGreat
structure Pr (p:Nat):Prop where
 two:2≤p
 div:∀m,m∣p→m=1∨m=p
theorem Pr.cop {p a:Nat} (h:Pr p) (ha:¬p∣a):Nat.Coprime p a:=by
 rcases h.div (Nat.gcd p a) (Nat.gcd_dvd_left p a) with h1|h1
 ·exact h1
 ·exact absurd (h1▸Nat.gcd_dvd_right p a) ha
theorem Pr.mul {p a b:Nat} (h:Pr p) (hd:p∣a*b):p∣a∨p∣b:=by
 by_cases ha:p∣a
 ·exact .inl ha
 ·exact .inr ((h.cop ha).dvd_of_dvd_mul_left hd)
theorem rC:∀n,2≤n→∃p,Pr p∧p∣n:=by
 intro n
 induction n using Nat.strongRecOn with
 |_ n ih=>
  intro hn
  by_cases h:∃m,m∣n∧m≠1∧m≠n
  ·obtain ⟨m,hd,h1,h2⟩:=h
   have hle:=Nat.le_of_dvd (by omega) hd
   have h0:m≠0:=by rintro rfl;have:=Nat.eq_zero_of_zero_dvd hd;omega
   obtain ⟨p,hp,hpm⟩:=ih m (by omega) (by omega)
   exact ⟨p,hp,Nat.dvd_trans hpm hd⟩
  ·refine ⟨n,⟨hn,fun m hm=> ?_⟩,Nat.dvd_refl n⟩
   by_cases h1:m=1
   ·exact .inl h1
   ·by_cases h2:m=n
    ·exact .inr h2
    ·exact absurd ⟨m,hm,h1,h2⟩ h
def choose:Nat→Nat→Nat
 |_,0=>1
 |0,_+1=>0
 |n+1,k+1=>choose n k+choose n (k+1)
theorem gA:∀n k,n<k→choose n k=0
 |0,k+1,_=>rfl
 |n+1,k+1,h=>by rw [choose,gA n k (by omega),gA n (k+1) (by omega)]
theorem nu:∀n,choose n n=1
 |0=>rfl
 |n+1=>by rw [choose,nu n,gA n (n+1) (by omega)]
theorem gx (n:Nat):choose n 0=1:=by cases n<;>rfl
theorem iH:∀n k,(k+1)*choose (n+1) (k+1)=(n+1)*choose n k
 |0,0=>rfl
 |0,k+1=>by simp [choose]
 |n+1,0=>by
  have h:=iH n 0
  rw [gx] at h
  have e:choose (n+1+1) (0+1)=choose (n+1) 0+choose (n+1) (0+1):=rfl
  rw [e,gx]
  omega
 |n+1,k+1=>by
  have h1:=iH n k
  have h2:=iH n (k+1)
  have e1:choose (n+1+1) (k+1+1)=choose (n+1) (k+1)+choose (n+1) (k+1+1):=rfl
  have e2:choose (n+1) (k+1)=choose n k+choose n (k+1):=rfl
  generalize hA:choose (n+1) (k+1)=A at*
  generalize choose (n+1) (k+1+1)=B at*
  generalize choose (n+1+1) (k+1+1)=C at*
  generalize choose n k=a at*
  generalize choose n (k+1)=b at*
  subst e1 e2
  grind
def dF (n x:Nat):Nat→Nat
 |0=>0
 |k+1=>dF n x k+choose n k*x^k
theorem nG (n x:Nat):∀k,dF (n+1) x (k+1)=dF n x (k+1)+x*dF n x k
 |0=>by simp [dF,gx]
 |k+1=>by
  have h:=nG n x k
  rw [dF,h]
  simp only [dF,choose,Nat.pow_succ]
  grind
theorem Us (n x:Nat):(x+1)^n=dF n x (n+1):=by
 induction n with
 |zero=>simp [dF,choose]
 |succ n ih=>
  have e:dF n x (n+1+1)=dF n x (n+1):=by
   show dF n x (n+1)+choose n (n+1)*x^(n+1)=_
   rw [gA n (n+1) (by omega)];omega
  rw [nG,Nat.pow_succ,ih,e,Nat.mul_add,Nat.mul_one,Nat.mul_comm x];omega
theorem Pr.choose {p:Nat} (hp:Pr p) (k:Nat) (h0:0<k) (h1:k<p):p∣choose p k:=by
 obtain ⟨n,rfl⟩:∃n,p=n+1:=⟨p-1,by have:=hp.two;omega⟩
 obtain ⟨j,rfl⟩:∃j,k=j+1:=⟨k-1,by omega⟩
 have h:=iH n j
 have hd:n+1∣(j+1)*Go.Proofs.YtknlbpjcjdenbaaGreat.choose (n+1) (j+1):=⟨_,h⟩
 rcases hp.mul hd with h2|h2
 ·exact absurd (Nat.le_of_dvd (by omega) h2) (by omega)
 ·exact h2
theorem Ad {p x:Nat} (hp:Pr p):∀k,1≤k→k≤p→dF p x k%p=1%p:=by
 intro k
 induction k with
 |zero=>omega
 |succ k ih=>
  intro _ h2
  by_cases hk:k=0
  ·subst hk;simp [dF,gx]
  ·rw [dF,Nat.add_mod,ih (by omega) (by omega),Nat.mul_mod,Nat.mod_eq_zero_of_dvd (hp.choose k (by omega) (by omega)),Nat.zero_mul,Nat.zero_mod,Nat.add_zero,Nat.mod_mod]
theorem Mo {p:Nat} (hp:Pr p) (x:Nat):x^p%p=x%p:=by
 induction x with
 |zero=>rw [Nat.zero_pow (by have:=hp.two;omega)]
 |succ x ih=>
  rw [Us,dF,nu,Nat.one_mul,Nat.add_mod,Ad hp p (by have:=hp.two;omega) (Nat.le_refl _),ih,←Nat.add_mod,Nat.add_comm]
theorem BT {p:Nat} (hp:Pr p) (x:Nat) (hx:¬p∣x):x^(p-1)%p=1:=by
 have h:=Mo hp x
 have h2:=hp.two
 have hd:p∣x*(x^(p-1)-1):=by
  rw [Nat.mul_sub,Nat.mul_one,show x*x^(p-1)=x^p from by rw [Nat.mul_comm,←Nat.pow_succ];congr 1;omega]
  exact Nat.dvd_of_mod_eq_zero (Nat.sub_mod_eq_zero_of_mod_eq h)
 have hx0:0<x:=Nat.pos_of_ne_zero (by rintro rfl;exact hx (Nat.dvd_zero p))
 have hp1:0<x^(p-1):=Nat.pow_pos hx0
 rcases hp.mul hd with h3|h3
 ·exact absurd h3 hx
 ·have h4:=Nat.mod_eq_zero_of_dvd h3
  have h5:x^(p-1)=(x^(p-1)-1)+1:=by omega
  rw [h5,Nat.add_mod,h4,Nat.zero_add,Nat.mod_mod,Nat.mod_eq_of_lt (by omega)]
def jK (n:Nat):Nat→Nat→Nat→Nat
 |0,_,_=>1%n
 |f+1,a,e=>if e=0 then 1%n else let r:=jK n f (a*a%n) (e/2);if e%2=1 then r*a%n else r
theorem fZ (a n e:Nat):(a%n)^e%n=a^e%n:=by
 induction e with
 |zero=>rfl
 |succ e ih=>rw [Nat.pow_succ,Nat.pow_succ,Nat.mul_mod,ih,Nat.mod_mod,←Nat.mul_mod]
theorem dk (n:Nat):∀f a e,e<2^f→jK n f a e=a^e%n
 |0,a,e,h=>by
  obtain rfl:e=0:=by simp at h;exact h
  rfl
 |f+1,a,e,h=>by
  unfold jK
  by_cases h0:e=0
  ·subst h0;simp
  ·rw [if_neg h0]
   have hf:e/2<2^f:=by rw [Nat.pow_succ] at h;omega
   have hr:=dk n f (a*a%n) (e/2) hf
   have h2:(a*a%n)^(e/2)%n=a^(2*(e/2))%n:=by
    rw [fZ,←Nat.pow_two,←Nat.pow_mul]
   simp only [hr,h2]
   by_cases h1:e%2=1
   ·rw [if_pos h1,Nat.mul_mod,Nat.mod_mod,←Nat.mul_mod,←Nat.pow_succ]
    congr 2;omega
   ·rw [if_neg h1]
    congr 2;omega
theorem MP (a r:Nat):∀m n,a^m%r=1%r→a^n%r=1%r→a^(Nat.gcd m n)%r=1%r:=by
 intro m n
 induction m,n using Nat.gcd.induction with
 |H0 n=>intro _ h;rw [Nat.gcd_zero_left];exact h
 |H1 m n hm ih=>
  intro h1 h2
  rw [Nat.gcd_rec]
  refine ih ?_ h1
  have e:a^n=(a^m)^(n/m)*a^(n%m):=by rw [←Nat.pow_mul,←Nat.pow_add,Nat.div_add_mod]
  rw [e,Nat.mul_mod,←fZ,h1,fZ,Nat.one_pow,←Nat.mul_mod,Nat.one_mul] at h2
  exact h2
theorem pC {N a q r:Nat} (hN:2≤N) (hq:Pr q) (hqN:q∣N-1) (h1:a^(N-1)%N=1) (h2:Nat.gcd (a^((N-1)/q)%N+(N-1)) N=1) (hr:Pr r) (hrN:r∣N):q∣r-1:=by
 have ha:¬r∣a:=by
  intro hd
  have h3:r∣a^(N-1):=Nat.dvd_trans hd ⟨a^(N-1-1),by rw [←Nat.pow_succ'];congr 1;omega⟩
  have h4:=Nat.div_add_mod (a^(N-1)) N
  rw [h1] at h4
  have h5:r∣N*(a^(N-1)/N):=Nat.dvd_trans hrN (Nat.dvd_mul_right _ _)
  have h6:r∣1:=(Nat.dvd_add_right h5).1 (by rw [h4];exact h3)
  have:=Nat.le_of_dvd (by omega) h6
  have:=hr.two;omega
 have hF:=BT hr a ha
 have hr1:1%r=1:=Nat.mod_eq_of_lt (by have:=hr.two;omega)
 have hM:a^(N-1)%r=1%r:=by
  rw [←Nat.mod_mod_of_dvd (a^(N-1)) hrN,h1]
 by_cases hd:q∣r-1
 ·exact hd
 ·exfalso
  have hg:Nat.gcd (N-1) (r-1)∣(N-1)/q:=by
   obtain ⟨c,hc⟩:=hqN
   rw [hc,Nat.mul_div_cancel_left _ (by have:=hq.two;omega)]
   have hcop:Nat.Coprime (Nat.gcd (q*c) (r-1)) q:=by
    refine Nat.Coprime.symm (hq.cop fun hx=>hd (Nat.dvd_trans hx (Nat.gcd_dvd_right _ _)))
   exact hcop.dvd_of_dvd_mul_left (Nat.gcd_dvd_left _ _)
  have h3:=MP a r (N-1) (r-1) hM (by rw [hr1];exact hF)
  obtain ⟨k,hk⟩:=hg
  have h4:a^((N-1)/q)%r=1%r:=by
   rw [hk,Nat.pow_mul,←fZ,h3,fZ,Nat.one_pow]
  have h5:r∣a^((N-1)/q)%N+(N-1):=by
   apply Nat.dvd_of_mod_eq_zero
   rw [Nat.add_mod,Nat.mod_mod_of_dvd _ hrN,h4,hr1]
   obtain ⟨c,hc⟩:=hrN
   have hc0:0<c:=Nat.pos_of_ne_zero (by rintro rfl;omega)
   have:N-1=(r-1)+r*(c-1):=by rw [Nat.mul_sub,←hc];have:=Nat.le_of_dvd (by omega) (show r∣N from ⟨c,hc⟩);have:=hr.two;omega
   rw [this,Nat.add_mul_mod_self_left,Nat.mod_eq_of_lt (show r-1<r by have:=hr.two;omega),show 1+(r-1)=r by have:=hr.two;omega,Nat.mod_self]
  have h6:r∣1:=h2▸Nat.dvd_gcd h5 hrN
  have:=Nat.le_of_dvd (by omega) h6
  have:=hr.two;omega
theorem qn {N:Nat} (hN:2≤N) (h:∀r,Pr r→r∣N→N<r*r):Pr N:=by
 refine ⟨hN,fun m hm=> ?_⟩
 obtain ⟨c,hc⟩:=hm
 by_cases hm1:m=1
 ·exact .inl hm1
 ·by_cases hc1:c=1
  ·subst hc1;exact .inr (by omega)
  ·exfalso
   have hm0:2≤m:=by
    rcases Nat.lt_or_ge m 2 with h|h
    ·have:m=0:=by omega
     subst this;omega
    ·exact h
   have hc0:2≤c:=by
    rcases Nat.lt_or_ge c 2 with h|h
    ·have:c=0:=by omega
     subst this;omega
    ·exact h
   obtain ⟨r,hr,hrm⟩:=rC m hm0
   obtain ⟨s,hs,hsc⟩:=rC c hc0
   have h1:=h r hr (hc▸Nat.dvd_trans hrm (Nat.dvd_mul_right _ _))
   have h2:=h s hs (hc▸Nat.dvd_trans hsc (Nat.dvd_mul_left _ _))
   have h3:=Nat.le_of_dvd (by omega) hrm
   have h4:=Nat.le_of_dvd (by omega) hsc
   rw [hc] at h1 h2
   have h5:m*c<m*m:=Nat.lt_of_lt_of_le h1 (Nat.mul_le_mul h3 h3)
   have h6:m*c<c*c:=Nat.lt_of_lt_of_le h2 (Nat.mul_le_mul h4 h4)
   have h7:c<m:=Nat.lt_of_mul_lt_mul_left h5
   have h8:m<c:=Nat.lt_of_mul_lt_mul_right h6
   omega
theorem lF {N a q f:Nat} (hN:2≤N) (hq:Pr q) (hqN:(N-1)%q=0) (hf:N-1<2^f) (h1:jK N f a (N-1)=1) (h2:Nat.gcd (jK N f a ((N-1)/q)+(N-1)) N=1) (hs:N<q*q):Pr N:=by
 rw [dk N f _ _ hf] at h1
 rw [dk N f _ _ (Nat.lt_of_le_of_lt (Nat.div_le_self _ _) hf)] at h2
 refine qn hN fun r hr hrN=> ?_
 have h3:=pC hN hq (Nat.dvd_of_mod_eq_zero hqN) h1 h2 hr hrN
 have h4:=Nat.le_of_dvd (by have:=hr.two;omega) h3
 exact Nat.lt_of_lt_of_le hs (Nat.mul_le_mul (by omega) (by omega))
theorem r_ {N a q s f:Nat} (hN:2≤N) (hq:Pr q) (hs:Pr s) (hqs:Nat.gcd q s=1) (hqN:(N-1)%q=0) (hsN:(N-1)%s=0) (hf:N-1<2^f) (h1:jK N f a (N-1)=1) (h2:Nat.gcd (jK N f a ((N-1)/q)+(N-1)) N=1) (h3:Nat.gcd (jK N f a ((N-1)/s)+(N-1)) N=1) (hb:N<q*s*(q*s)):Pr N:=by
 rw [dk N f _ _ hf] at h1
 rw [dk N f _ _ (Nat.lt_of_le_of_lt (Nat.div_le_self _ _) hf)] at h2 h3
 refine qn hN fun r hr hrN=> ?_
 have h4:=pC hN hq (Nat.dvd_of_mod_eq_zero hqN) h1 h2 hr hrN
 have h5:=pC hN hs (Nat.dvd_of_mod_eq_zero hsN) h1 h3 hr hrN
 have h6:q*s∣r-1:=Nat.Coprime.mul_dvd_of_dvd_of_dvd hqs h4 h5
 have h7:=Nat.le_of_dvd (by have:=hr.two;omega) h6
 exact Nat.lt_of_lt_of_le hb (Nat.mul_le_mul (by omega) (by omega))
def D8 (n:Nat):Nat→Nat→Bool
 |0,_=>true
 |f+1,d=>if n%d=0 then false else D8 n f (d+1)
theorem pF (n:Nat):∀f d,D8 n f d=true→∀m,d≤m→m<d+f→n%m≠0
 |0,d,_,m,h1,h2=>by omega
 |f+1,d,h,m,h1,h2=>by
  unfold D8 at h
  by_cases h0:n%d=0
  ·rw [if_pos h0] at h;cases h
  ·rw [if_neg h0] at h
   by_cases hm:m=d
   ·rw [hm];exact h0
   ·exact pF n f (d+1) h m (by omega) (by omega)
theorem cM {n f:Nat} (hn:2≤n) (h:D8 n f 2=true) (hf:n<(f+2)*(f+2)):Pr n:=by
 refine qn hn fun r hr hrn=> ?_
 by_cases h1:r<f+2
 ·exact absurd (Nat.mod_eq_zero_of_dvd hrn) (pF n f 2 h r hr.two (by omega))
 ·exact Nat.lt_of_lt_of_le hf (Nat.mul_le_mul (by omega) (by omega))
theorem Sm:Pr 991:=cM (f:=31) (by omega) (by decide +kernel) (by omega)
theorem Sl:Pr 103:=cM (f:=10) (by omega) (by decide +kernel) (by omega)
theorem Cj:Pr 8574133:=r_ (a:=2) (q:=991) (s:=103) (f:=24) (by omega) Sm Sl (by decide +kernel) (by decide +kernel) (by decide +kernel) (by decide +kernel) (by decide +kernel) (by decide +kernel) (by decide +kernel) (by decide +kernel)
theorem Rl:Pr 127:=cM (f:=11) (by omega) (by decide +kernel) (by omega)
theorem kh:Pr 1919519569386763:=r_ (a:=2) (q:=8574133) (s:=127) (f:=51) (by omega) Cj Rl (by decide +kernel) (by decide +kernel) (by decide +kernel) (by decide +kernel) (by decide +kernel) (by decide +kernel) (by decide +kernel) (by decide +kernel)
theorem Fa:Pr 569003:=cM (f:=754) (by omega) (by decide +kernel) (by omega)
theorem rl:Pr 2773320623:=lF (a:=2) (q:=569003) (f:=32) (by omega) Fa (by decide +kernel) (by decide +kernel) (by decide +kernel) (by decide +kernel) (by decide +kernel)
theorem oT:Pr 72106336199:=lF (a:=2) (q:=2773320623) (f:=37) (by omega) rl (by decide +kernel) (by decide +kernel) (by decide +kernel) (by decide +kernel) (by decide +kernel)
theorem dp:Pr 75445702479781427272750846543864801:=r_ (a:=2) (q:=1919519569386763) (s:=72106336199) (f:=116) (by omega) kh oT (by decide +kernel) (by decide +kernel) (by decide +kernel) (by decide +kernel) (by decide +kernel) (by decide +kernel) (by decide +kernel) (by decide +kernel)
theorem FY:Pr 430751:=cM (f:=656) (by omega) (by decide +kernel) (by omega)
theorem Oe:Pr 4153:=cM (f:=64) (by omega) (by decide +kernel) (by omega)
theorem jo:Pr 31757755568855353:=r_ (a:=2) (q:=430751) (s:=4153) (f:=55) (by omega) FY Oe (by decide +kernel) (by decide +kernel) (by decide +kernel) (by decide +kernel) (by decide +kernel) (by decide +kernel) (by decide +kernel) (by decide +kernel)
theorem aP:Pr 74058212732561358302231226437062788676166966415465897661863160754340907:=r_ (a:=2) (q:=75445702479781427272750846543864801) (s:=31757755568855353) (f:=236) (by omega) dp jo (by decide +kernel) (by decide +kernel) (by decide +kernel) (by decide +kernel) (by decide +kernel) (by decide +kernel) (by decide +kernel) (by decide +kernel)
theorem aJ:Pr 57896044618658097711785492504343953926634992332820282019728792003956564819949:=lF (a:=2) (q:=74058212732561358302231226437062788676166966415465897661863160754340907) (f:=255) (by omega) aP (by decide +kernel) (by decide +kernel) (by decide +kernel) (by decide +kernel) (by decide +kernel)
theorem Mu:Pr 2551:=cM (f:=50) (by omega) (by decide +kernel) (by omega)
theorem zZ:Pr 1224481:=lF (a:=2) (q:=2551) (f:=21) (by omega) Mu (by decide +kernel) (by decide +kernel) (by decide +kernel) (by decide +kernel) (by decide +kernel)
theorem FH:Pr 531581:=cM (f:=729) (by omega) (by decide +kernel) (by omega)
theorem kg:Pr 1257559732178653:=r_ (a:=2) (q:=1224481) (s:=531581) (f:=51) (by omega) zZ FH (by decide +kernel) (by decide +kernel) (by decide +kernel) (by decide +kernel) (by decide +kernel) (by decide +kernel) (by decide +kernel) (by decide +kernel)
theorem iC:Pr 4434155615661930479:=lF (a:=2) (q:=1257559732178653) (f:=62) (by omega) kg (by decide +kernel) (by decide +kernel) (by decide +kernel) (by decide +kernel) (by decide +kernel)
theorem eR:Pr 172054593956031949258510691:=lF (a:=2) (q:=4434155615661930479) (f:=88) (by omega) iC (by decide +kernel) (by decide +kernel) (by decide +kernel) (by decide +kernel) (by decide +kernel)
theorem cG:Pr 19757330305831588566944191468367130476339:=lF (a:=2) (q:=172054593956031949258510691) (f:=134) (by omega) eR (by decide +kernel) (by decide +kernel) (by decide +kernel) (by decide +kernel) (by decide +kernel)
theorem cC:Pr 276602624281642239937218680557139826668747:=lF (a:=2) (q:=19757330305831588566944191468367130476339) (f:=138) (by omega) cG (by decide +kernel) (by decide +kernel) (by decide +kernel) (by decide +kernel) (by decide +kernel)
theorem aL:Pr 7237005577332262213973186563042994240857116359379907606001950938285454250989:=lF (a:=2) (q:=276602624281642239937218680557139826668747) (f:=253) (by omega) cC (by decide +kernel) (by decide +kernel) (by decide +kernel) (by decide +kernel) (by decide +kernel)
def Pq:Nat:=57896044618658097711785492504343953926634992332820282019728792003956564819949
def gj:Nat:=57896044618658097711785492504343953926634992332820282019728792003956564819947
theorem pf:0<Pq:=by unfold Pq;omega
theorem Xr:(57896044618658097711785492504343953926634992332820282019728792003956564819968:Nat)%Pq=19%Pq:=by decide +kernel
def cr (f:Nat→Nat) (c0:Nat):Nat→Nat
 |0=>c0
 |i+1=>(f i+cr f c0 i)/2251799813685248
def cE (f:Nat→Nat) (c0:Nat) (i:Nat):Nat:=(f i+cr f c0 i)%2251799813685248
def val (f:Nat→Nat):Nat:=f 0+2251799813685248*(f 1+2251799813685248*(f 2+2251799813685248*(f 3+2251799813685248*f 4)))
theorem oo (f:Nat→Nat) (c0:Nat):val (cE f c0)+57896044618658097711785492504343953926634992332820282019728792003956564819968*cr f c0 5=val f+c0:=by
 unfold val cE
 simp only [cr]
 omega
def cF (f:Nat→Nat):Nat→Nat:=
 let g:=cE (cE f 0) (cr f 0 5*19)
 let c:=cr (cE f 0) (cr f 0 5*19) 5*19
 fun i=>if i=0 then g 0+c else g i
structure sI (f:Nat→Nat):Prop where
 l0:f 0<2251799813685248+20
 l1:f 1<2251799813685248
 l2:f 2<2251799813685248
 l3:f 3<2251799813685248
 l4:f 4<2251799813685248
theorem fi (a c:Nat):(a+57896044618658097711785492504343953926634992332820282019728792003956564819968*c)%Pq=(a+c*19)%Pq:=by
 rw [Nat.add_mod,Nat.mul_mod,Xr,←Nat.mul_mod,←Nat.add_mod,Nat.mul_comm 19]
theorem tC (f:Nat→Nat):val (cF f)%Pq=val f%Pq:=by
 have h1:=oo f 0
 have h2:=oo (cE f 0) (cr f 0 5*19)
 have e:val (cF f)=val (cE (cE f 0) (cr f 0 5*19))+cr (cE f 0) (cr f 0 5*19) 5*19:=by
  simp only [val,cF,if_true,if_neg (show ¬(1=0) by omega),if_neg (show ¬(2=0) by omega),if_neg (show ¬(3=0) by omega),if_neg (show ¬(4=0) by omega)]
  omega
 rw [e,←fi,h2,←fi,h1,Nat.add_zero]
theorem sS (f:Nat→Nat) (c0:Nat) (h:∀i,i<5→f i≤9223372036854775808) (hc:c0≤9223372036854775807):∀i,i≤5→cr f c0 i≤9223372036854775807
 |0,_=>hc
 |i+1,hi=>by
  have h1:=sS f c0 h hc i (by omega)
  have h2:=h i (by omega)
  unfold cr
  omega
theorem WI (f:Nat→Nat) (h:∀i,i<5→f i≤9223372036854775808):cr f 0 5≤4097:=by
 have h1:=sS f 0 h (by omega) 4 (by omega)
 have h2:=h 4 (by omega)
 have h3:=sS f 0 h (by omega) 3 (by omega)
 have h4:=h 3 (by omega)
 have e:cr f 0 5=(f 4+cr f 0 4)/2251799813685248:=rfl
 have e2:cr f 0 4=(f 3+cr f 0 3)/2251799813685248:=rfl
 omega
theorem eZ (f:Nat→Nat) (c0 i:Nat):cE f c0 i<2251799813685248:=Nat.mod_lt _ (by omega)
theorem CC (f:Nat→Nat) (c0:Nat) (h:∀i,f i<2251799813685248) (hc:c0≤2251799813685248):∀i,1≤i→cr f c0 i≤1
 |0,h0=>by omega
 |1,_=>by have:=h 0;unfold cr;simp only [cr];omega
 |i+2,_=>by
  have h1:=CC f c0 h hc (i+1) (by omega)
  have h2:=h (i+1)
  rw [cr];omega
theorem wl (f:Nat→Nat) (h:∀i,i<5→f i≤9223372036854775808):sI (cF f):=by
 have h5:=WI f h
 have h1:=CC (cE f 0) (cr f 0 5*19) (eZ f 0) (by omega) 5 (by omega)
 have hp:=eZ (cE f 0) (cr f 0 5*19)
 refine ⟨?_,?_,?_,?_,?_⟩
 ·show cE (cE f 0) (cr f 0 5*19) 0+cr (cE f 0) (cr f 0 5*19) 5*19<_
  have:=hp 0;omega
 ·exact hp 1
 ·exact hp 2
 ·exact hp 3
 ·exact hp 4
theorem YF:Pr Pq:=aJ
instance:NeZero Pq:=⟨by unfold Pq;omega⟩
abbrev F:=Fin Pq
def fn (n:Nat):F:=⟨n%Pq,Nat.mod_lt _ pf⟩
def aR (x:F) (n:Nat):F:=⟨x.val^n%Pq,Nat.mod_lt _ pf⟩
def aY (x:F):F:=aR x gj
theorem ce (x:F) (n:Nat):(aR x n).val=x.val^n%Pq:=rfl
theorem F.ext' {x y:F} (h:x.val=y.val):x=y:=Fin.ext h
theorem F.mul_val (x y:F):(x*y).val=x.val*y.val%Pq:=rfl
theorem F.add_val (x y:F):(x+y).val=(x.val+y.val)%Pq:=rfl
theorem dM (x:F) (m n:Nat):aR x (m+n)=aR x m*aR x n:=by
 apply F.ext'
 rw [F.mul_val,ce,ce,ce,Nat.pow_add,Nat.mul_mod]
theorem lK (x:F):aR x 1=x:=by
 apply F.ext';rw [ce,Nat.pow_one,Nat.mod_eq_of_lt x.isLt]
theorem mT (x:F):aR x 0=1:=by
 apply F.ext';rw [ce,Nat.pow_zero];rfl
theorem JY (x:F) (m n:Nat):aR (aR x m) n=aR x (m*n):=by
 apply F.ext';rw [ce,ce,ce,fZ,←Nat.pow_mul]
theorem rc (x y:F) (n:Nat):aR (x*y) n=aR x n*aR y n:=by
 apply F.ext';rw [ce,F.mul_val,F.mul_val,ce,ce,fZ,Nat.mul_pow,Nat.mul_mod]
theorem zq (n:Nat) (h:0<n):aR 0 n=0:=by
 apply F.ext';rw [ce,show (0:F).val=0 from rfl,Nat.zero_pow h];rfl
theorem F.val_ne {x:F} (h:x≠0):¬Pq∣x.val:=by
 intro hd
 apply h
 apply F.ext'
 show x.val=0
 rw [←Nat.mod_eq_of_lt x.isLt];exact Nat.mod_eq_zero_of_dvd hd
theorem vU {x:F} (h:x≠0):aR x (Pq-1)=1:=by
 apply F.ext';rw [ce,BT YF _ (F.val_ne h)];rfl
theorem dn {x:F} (h:x≠0):x*aY x=1:=by
 have h1:=vU h
 rw [show Pq-1=1+gj from by unfold Pq gj;omega,dM,lK] at h1
 exact h1
instance:Inv F:=⟨aY⟩
instance:Div F:=⟨fun a b=>a*aY b⟩
theorem mW:aY 0=0:=zq _ (by unfold gj;omega)
theorem EX (x:F):aY (aY x)=x:=by
 by_cases h:x=0
 ·subst h;rw [mW,mW]
 ·have h1:=dn h
  have h2:aY x≠0:=by
   intro e
   have h3:=congrArg Fin.val h1
   rw [e,F.mul_val,show (0:F).val=0 from rfl,Nat.mul_zero] at h3
   exact absurd h3 (by decide)
  have h4:=dn h2
  calc aY (aY x)=1*aY (aY x):=by grind
   _=(x*aY x)*aY (aY x):=by rw [h1]
   _=x*(aY x*aY (aY x)):=by grind
   _=x:=by rw [h4];grind
theorem Ii:aY 1=1:=by
 have h:=dn (x:=1) (by intro h;have:=congrArg Fin.val h;exact absurd this (by decide))
 grind
instance fieldPow:HPow F Int F:=⟨fun x n=>match n with | .ofNat n=>aR x n| .negSucc n=>aY (aR x (n+1))⟩
instance fieldF:Lean.Grind.Field F where
 zpow:=fieldPow
 div_eq_mul_inv:=fun _ _=>rfl
 zero_ne_one:=by intro h;have:=congrArg Fin.val h;exact absurd this (by decide)
 inv_zero:=mW
 mul_inv_cancel:=dn
 zpow_zero:=fun a=>mT a
 zpow_succ:=fun a n=>by
  show aR a (n+1)=aR a n*a
  rw [dM,lK]
 zpow_neg:=fun a n=>by
  cases n with
  |ofNat n=>
   cases n with
   |zero=>
    show aR a 0=aY (aR a 0)
    rw [mT,Ii]
   |succ n=>rfl
  |negSucc n=>
   show aR a (n+1)=aY (aY (aR a (n+1)))
   rw [EX]
theorem F.dom {x y:F} (h:x*y=0):x=0∨y=0:=by grind
def ni:F:=fn 19681161376707505956807079304988542015446066515923890162744021073123829784752
theorem Dy:ni*ni= -1:=by decide +kernel
def ft:Nat:=7237005577332262213973186563042994240829374041602535252466099000494570602494
def rj:Nat:=28948022309329048855892746252171976963317496166410141009864396001978282409974
theorem Ed:rj+rj=Pq-1:=by decide +kernel
theorem Fk:(2*ft)+(2*ft)=2+rj:=by decide +kernel
theorem IQ {y:F} (h:y≠0):aR y rj=1∨aR y rj= -1:=by
 have h1:=vU h
 rw [←Ed,dM] at h1
 have h2:(aR y rj-1)*(aR y rj+1)=0:=by grind
 rcases F.dom h2 with h|h
 ·left;grind
 ·right;grind
def fC (x:F):F:=if aR x ft*aR x ft=x then aR x ft else aR x ft*ni
def bM (x:F):Int:=if fC x*fC x=x then 0 else 7
def aT (x:F):F:=if fC x*fC x=x then (if (fC x).val%2=1 then -fC x else fC x) else 0
theorem OL (y:F):fC (y*y)*fC (y*y)=y*y:=by
 have h2:aR y 2=y*y:=by rw [show 2=1+1 from rfl,dM,lK]
 have h1:aR (y*y) ft*aR (y*y) ft=y*y*aR y rj:=by
  rw [←h2,JY,←dM,Fk,dM]
 unfold fC
 split
 ·assumption
 ·rename_i h
  by_cases hy:y=0
  ·subst hy
   rw [h1] at h;grind
  ·rcases IQ hy with e|e
   ·rw [h1,e] at h;grind
   ·rw [e] at h1
    have:=Dy
    grind
theorem xY (y:F):bM (y*y)=0:=by unfold bM;rw [if_pos (OL y)]
theorem CX (x:F):(-x).val=(Pq-x.val)%Pq:=rfl
theorem Pm (v:Nat) (h:v<Pq) (h1:v%2=1):(Pq-v)%Pq%2=0:=by
 rw [Nat.mod_eq_of_lt (show Pq-v<Pq by omega)]
 have:Pq%2=1:=by decide +kernel
 omega
theorem CK (x:F):(aT x).val%2=0:=by
 unfold aT
 by_cases h:fC x*fC x=x
 ·rw [if_pos h]
  by_cases h1:(fC x).val%2=1
  ·rw [if_pos h1,CX]
   exact Pm _ (fC x).isLt h1
  ·rw [if_neg h1];exact (Nat.mod_two_eq_zero_or_one _).resolve_right h1
 ·rw [if_neg h];rfl
theorem sG {x:F} (h:bM x=0):aT x*aT x=x:=by
 unfold bM at h
 unfold aT
 by_cases e:fC x*fC x=x
 ·rw [if_pos e]
  generalize fC x=c at*
  by_cases h1:c.val%2=1
  ·rw [if_pos h1]
   clear h1 h
   grind
  ·rw [if_neg h1];exact e
 ·rw [if_neg e] at h;cases h
theorem O4 (y:F):aT (y*y)=y∨aT (y*y)= -y:=by
 have h:=sG (xY y)
 have h2:(aT (y*y)-y)*(aT (y*y)+y)=0:=by grind
 rcases F.dom h2 with h|h
 ·left;grind
 ·right;grind
section
variable {K:Type} [Lean.Grind.Field K]
def ny (d x y:K):Prop:=y*y-x*x=1+d*x*x*y*y
theorem yn {d i x1 y1 x2 y2 e:K} (hi:i*i= -1) (hd:∀r:K,r*r≠d) (h2:(2:K)≠0) (c1:ny d x1 y1) (c2:ny d x2 y2) (he:e*e=1):d*x1*x2*y1*y2≠e:=by
 intro h
 unfold ny at c1 c2
 have hx:x1*y1≠0:=by
  intro h0
  have:e=0:=by rw [←h];grind
  subst this
  grind
 have k1:(i*x1+e*y1)*(i*x1+e*y1)=d*(x1*y1*(i*x2+y2))*(x1*y1*(i*x2+y2)):=by grind
 have k2:(i*x1-e*y1)*(i*x1-e*y1)=d*(x1*y1*(i*x2-y2))*(x1*y1*(i*x2-y2)):=by grind
 have key:∀s t:K,s*s=d*(x1*y1*t)*(x1*y1*t)→t=0:=by
  intro s t hs
  by_cases ht:t=0
  ·exact ht
  ·exfalso
   apply hd (s*(x1*y1*t)⁻¹)
   have hn:x1*y1*t≠0:=by grind
   have hm:=Lean.Grind.Field.mul_inv_cancel hn
   generalize (x1*y1*t)⁻¹=v at*
   generalize x1*y1*t=q at*
   grind
 have a1:=key _ _ k1
 have a2:=key _ _ k2
 have b1:y2=0:=by
  have:(2:K)*y2=0:=by grind
  rcases (by grind:(2:K)=0∨y2=0) with h|h
  ·exact absurd h h2
  ·exact h
 subst b1
 have:e=0:=by rw [←h];grind
 subst this
 grind
structure Cu (K:Type) [Lean.Grind.Field K] where
 d:K
 i:K
 hi:i*i= -1
 hd:∀r:K,r*r≠d
 h2:(2:K)≠0
structure Cp (c:Cu K) where
 x:K
 y:K
 on:ny c.d x y
variable {c:Cu K}
theorem Cp.ext' {P Q:Cp c} (h1:P.x=Q.x) (h2:P.y=Q.y):P=Q:=by
 cases P;cases Q;simp at h1 h2;subst h1;subst h2;rfl
theorem Cp.one_ne (c:Cu K):(1:K)≠0:=by
 have:=c.h2
 grind
theorem Cp.plus (P Q:Cp c):1+c.d*P.x*Q.x*P.y*Q.y≠0:=by
 intro h
 exact yn (e:= -1) c.hi c.hd c.h2 P.on Q.on (by grind) (by grind)
theorem Cp.minus (P Q:Cp c):1-c.d*P.x*Q.x*P.y*Q.y≠0:=by
 intro h
 exact yn (e:=1) c.hi c.hd c.h2 P.on Q.on (by grind) (by grind)
theorem closed {d x1 y1 x2 y2 u v:K} (c1:ny d x1 y1) (c2:ny d x2 y2) (hu:(1+d*x1*x2*y1*y2)*u=1) (hv:(1-d*x1*x2*y1*y2)*v=1):
  ny d ((x1*y2+y1*x2)*u) ((y1*y2+x1*x2)*v):=by
 unfold ny at*
 have k:((y1*y2+x1*x2)*(1+d*x1*x2*y1*y2))*((y1*y2+x1*x2)*(1+d*x1*x2*y1*y2))-((x1*y2+y1*x2)*(1-d*x1*x2*y1*y2))*((x1*y2+y1*x2)*(1-d*x1*x2*y1*y2))
   =(1+d*x1*x2*y1*y2)*(1+d*x1*x2*y1*y2)*(1-d*x1*x2*y1*y2)*(1-d*x1*x2*y1*y2)+d*((x1*y2+y1*x2)*(x1*y2+y1*x2))*((y1*y2+x1*x2)*(y1*y2+x1*x2)):=by grind
 generalize x1*y2+y1*x2=A at*
 generalize y1*y2+x1*x2=C at*
 generalize 1+d*x1*x2*y1*y2=B at*
 generalize 1-d*x1*x2*y1*y2=D at*
 clear c1 c2
 have e1:C*v*(C*v)-A*u*(A*u)=(C*B*(C*B)-A*D*(A*D))*(u*u*v*v):=by grind
 have e2:1+d*(A*u)*(A*u)*(C*v)*(C*v)=(B*B*D*D+d*(A*A)*(C*C))*(u*u*v*v):=by grind
 rw [e1,e2,k]
def Cp.add (P Q:Cp c):Cp c where
 x:=(P.x*Q.y+P.y*Q.x)*(1+c.d*P.x*Q.x*P.y*Q.y)⁻¹
 y:=(P.y*Q.y+P.x*Q.x)*(1-c.d*P.x*Q.x*P.y*Q.y)⁻¹
 on:=closed P.on Q.on (Lean.Grind.Field.mul_inv_cancel (P.plus Q)) (Lean.Grind.Field.mul_inv_cancel (P.minus Q))
def Cp.zero:Cp c where
 x:=0
 y:=1
 on:=by unfold ny;grind
theorem Cp.add_x (P Q:Cp c):(P.add Q).x*(1+c.d*P.x*Q.x*P.y*Q.y)=P.x*Q.y+P.y*Q.x:=by
 have h:=Lean.Grind.Field.mul_inv_cancel (P.plus Q)
 show (P.x*Q.y+P.y*Q.x)*(1+c.d*P.x*Q.x*P.y*Q.y)⁻¹*_=_
 generalize (1+c.d*P.x*Q.x*P.y*Q.y)⁻¹=u at*
 generalize 1+c.d*P.x*Q.x*P.y*Q.y=B at*
 generalize P.x*Q.y+P.y*Q.x=A at*
 grind
theorem Cp.add_y (P Q:Cp c):(P.add Q).y*(1-c.d*P.x*Q.x*P.y*Q.y)=P.y*Q.y+P.x*Q.x:=by
 have h:=Lean.Grind.Field.mul_inv_cancel (P.minus Q)
 show (P.y*Q.y+P.x*Q.x)*(1-c.d*P.x*Q.x*P.y*Q.y)⁻¹*_=_
 generalize (1-c.d*P.x*Q.x*P.y*Q.y)⁻¹=u at*
 generalize 1-c.d*P.x*Q.x*P.y*Q.y=B at*
 generalize P.y*Q.y+P.x*Q.x=A at*
 grind
theorem Cp.add_eq {P Q R:Cp c} (hx:R.x*(1+c.d*P.x*Q.x*P.y*Q.y)=P.x*Q.y+P.y*Q.x) (hy:R.y*(1-c.d*P.x*Q.x*P.y*Q.y)=P.y*Q.y+P.x*Q.x):P.add Q=R:=by
 have a1:=P.add_x Q
 have a2:=P.add_y Q
 have h1:=P.plus Q
 have h2:=P.minus Q
 apply Cp.ext'
 ·have:=Lean.Grind.Field.mul_inv_cancel h1
  generalize (1+c.d*P.x*Q.x*P.y*Q.y)⁻¹=u at*
  generalize 1+c.d*P.x*Q.x*P.y*Q.y=B at*
  generalize (P.add Q).x=s at*
  generalize P.x*Q.y+P.y*Q.x=A at*
  grind
 ·have:=Lean.Grind.Field.mul_inv_cancel h2
  generalize (1-c.d*P.x*Q.x*P.y*Q.y)⁻¹=u at*
  generalize 1-c.d*P.x*Q.x*P.y*Q.y=B at*
  generalize (P.add Q).y=s at*
  generalize P.y*Q.y+P.x*Q.x=A at*
  grind
theorem Cp.comm (P Q:Cp c):P.add Q=Q.add P:=by
 apply Cp.add_eq
 ·have:=Q.add_x P
  grind
 ·have:=Q.add_y P
  grind
theorem Cp.zero_add (P:Cp c):Cp.zero.add P=P:=by
 apply Cp.add_eq
 ·show P.x*(1+c.d*0*P.x*1*P.y)=0*P.y+1*P.x
  grind
 ·show P.y*(1-c.d*0*P.x*1*P.y)=1*P.y+0*P.x
  grind
theorem Cp.add_zero (P:Cp c):P.add Cp.zero=P:=by rw [Cp.comm,Cp.zero_add]
theorem Vx {a b m n s t:K} (hm:m≠0) (hn:n≠0) (h1:s*m=a) (h2:t*n=b) (h:a*n=b*m):s=t:=by
 have k1:=Lean.Grind.Field.mul_inv_cancel hm
 have k2:=Lean.Grind.Field.mul_inv_cancel hn
 generalize m⁻¹=u at*
 generalize n⁻¹=v at*
 grind
theorem MK {d x1 y1 x2 y2 x3 y3:K} (c1:ny d x1 y1) (c2:ny d x2 y2) (c3:ny d x3 y3):
  ((x1*y2+y1*x2)*(1-d*x1*x2*y1*y2)*y3+(y1*y2+x1*x2)*(1+d*x1*x2*y1*y2)*x3)*((1+d*x2*x3*y2*y3)*(1-d*x2*x3*y2*y3)+d*(x2*y3+y2*x3)*(y2*y3+x2*x3)*x1*y1)
   =(x1*((y2*y3+x2*x3)*(1+d*x2*x3*y2*y3))+y1*((x2*y3+y2*x3)*(1-d*x2*x3*y2*y3)))*((1+d*x1*x2*y1*y2)*(1-d*x1*x2*y1*y2)+d*(x1*y2+y1*x2)*(y1*y2+x1*x2)*x3*y3):=by
 unfold ny at*
 grind
theorem Pc {d x1 y1 x2 y2 x3 y3:K} (c1:ny d x1 y1) (c2:ny d x2 y2) (c3:ny d x3 y3):
  ((y1*y2+x1*x2)*(1+d*x1*x2*y1*y2)*y3+(x1*y2+y1*x2)*(1-d*x1*x2*y1*y2)*x3)*((1+d*x2*x3*y2*y3)*(1-d*x2*x3*y2*y3)-d*(x2*y3+y2*x3)*(y2*y3+x2*x3)*x1*y1)
   =(y1*((y2*y3+x2*x3)*(1+d*x2*x3*y2*y3))+x1*((x2*y3+y2*x3)*(1-d*x2*x3*y2*y3)))*((1+d*x1*x2*y1*y2)*(1-d*x1*x2*y1*y2)-d*(x1*y2+y1*x2)*(y1*y2+x1*x2)*x3*y3):=by
 unfold ny at*
 grind
theorem cu {a b:K} (ha:a≠0) (hb:b≠0):a*b≠0:=by grind
theorem Cp.assoc (P Q R:Cp c):(P.add Q).add R=P.add (Q.add R):=by
 have a1:=P.add_x Q
 have a2:=P.add_y Q
 have b1:=Q.add_x R
 have b2:=Q.add_y R
 have n1:=P.plus Q
 have n2:=P.minus Q
 have n3:=Q.plus R
 have n4:=Q.minus R
 have f1:=(P.add Q).add_x R
 have f2:=(P.add Q).add_y R
 have g1:=P.add_x (Q.add R)
 have g2:=P.add_y (Q.add R)
 have m1:=(P.add Q).plus R
 have m2:=(P.add Q).minus R
 have m3:=P.plus (Q.add R)
 have m4:=P.minus (Q.add R)
 have hx:=MK P.on Q.on R.on
 have hy:=Pc P.on Q.on R.on
 generalize ((P.add Q).add R)=S1 at*
 generalize (P.add (Q.add R))=S2 at*
 generalize P.add Q=U at*
 generalize Q.add R=V at*
 generalize P.x*Q.y+P.y*Q.x=A at*
 generalize P.y*Q.y+P.x*Q.x=C at*
 generalize 1+c.d*P.x*Q.x*P.y*Q.y=B at*
 generalize 1-c.d*P.x*Q.x*P.y*Q.y=D at*
 generalize Q.x*R.y+Q.y*R.x=A' at*
 generalize Q.y*R.y+Q.x*R.x=C' at*
 generalize 1+c.d*Q.x*R.x*Q.y*R.y=B' at*
 generalize 1-c.d*Q.x*R.x*Q.y*R.y=D' at*
 subst a1 a2 b1 b2
 apply Cp.ext'
 ·refine Vx (cu m1 (cu n1 n2)) (cu m3 (cu n3 n4)) (a:=(U.x*R.y+U.y*R.x)*(B*D)) (b:=(P.x*V.y+P.y*V.x)*(B'*D')) (by rw [←f1];clear hx hy f1 f2 g1 g2 m1 m2 m3 m4;grind) (by rw [←g1];clear hx hy f1 f2 g1 g2 m1 m2 m3 m4;grind) ?_
  clear hy f1 f2 g1 g2 m1 m2 m3 m4 n1 n2 n3 n4
  grind
 ·refine Vx (cu m2 (cu n1 n2)) (cu m4 (cu n3 n4)) (a:=(U.y*R.y+U.x*R.x)*(B*D)) (b:=(P.y*V.y+P.x*V.x)*(B'*D')) (by rw [←f2];clear hx hy f1 f2 g1 g2 m1 m2 m3 m4;grind) (by rw [←g2];clear hx hy f1 f2 g1 g2 m1 m2 m3 m4;grind) ?_
  clear hx f1 f2 g1 g2 m1 m2 m3 m4 n1 n2 n3 n4
  grind
def Cp.mul:Nat→Cp c→Cp c
 |0,_=>Cp.zero
 |n+1,P=>(Cp.mul n P).add P
theorem Cp.mul_add (m n:Nat) (P:Cp c):Cp.mul (m+n) P=(Cp.mul m P).add (Cp.mul n P):=by
 induction n with
 |zero=>exact (Cp.add_zero _).symm
 |succ n ih=>show (Cp.mul (m+n) P).add P=_;rw [ih,Cp.assoc];rfl
theorem Cp.mul_one (P:Cp c):Cp.mul 1 P=P:=Cp.zero_add P
theorem Cp.mul_zero (n:Nat):Cp.mul n (Cp.zero:Cp c)=Cp.zero:=by
 induction n with
 |zero=>rfl
 |succ n ih=>show (Cp.mul n _).add _=_;rw [ih,Cp.zero_add]
theorem Cp.mul_mul (m n:Nat) (P:Cp c):Cp.mul m (Cp.mul n P)=Cp.mul (m*n) P:=by
 induction m with
 |zero=>rw [Nat.zero_mul];rfl
 |succ m ih=>show (Cp.mul m _).add _=_;rw [ih,Nat.succ_mul,Cp.mul_add]
theorem Cp.mul_mod {P:Cp c} {L:Nat} (h:Cp.mul L P=Cp.zero) (n:Nat):Cp.mul n P=Cp.mul (n%L) P:=by
 have e:=Nat.div_add_mod n L
 rw [←e,Cp.mul_add,Nat.mul_comm,←Cp.mul_mul,h,Cp.mul_zero,Cp.zero_add]
 rw [Nat.mul_comm,e]
end
section
variable {K:Type} [Lean.Grind.Field K]
end
def dE:F:=fn 37095705934669439343138083508754565189542113879843219016388785533085940283555
theorem PP:dE*(fn 121665+1)= -fn 121665:=by decide +kernel
theorem Su:aR dE rj≠1:=by
 intro h
 have h1:=congrArg Fin.val h
 rw [ce,←dk Pq 256 dE.val rj (by decide +kernel)] at h1
 exact absurd h1 (by decide +kernel)
theorem QO:(2:F)≠0:=by intro h;exact absurd (congrArg Fin.val h) (by decide)
theorem P_ (r:F):r*r≠dE:=by
 intro h
 have hr:r≠0:=by
  rintro rfl
  exact absurd (congrArg Fin.val h) (by decide +kernel)
 apply Su
 rw [←h,rc,←dM,Ed,vU hr]
def PA:Cu F where
 d:=dE
 i:=ni
 hi:=Dy
 hd:=P_
 h2:=QO
abbrev EP:=Cp PA
def Hc:F:=fn 15112221349535400772501151409588531511454012693041857206046113283949847762202
def oZ:F:=fn 46316835694926478169428394003475163141307993866256225615783033603165251855960
def base:EP where
 x:=Hc
 y:=oZ
 on:=by unfold ny;decide +kernel
section
variable {K:Type} [Lean.Grind.Field K] {c:Cu K}
structure gr (P:Cp c) (X Y Z:K):Prop where
 z:Z≠0
 x:X=P.x*Z
 y:Y=P.y*Z
theorem gr.add {P Q:Cp c} {X Y Z X' Y' Z':K} (h:gr P X Y Z) (h':gr Q X' Y' Z'):
  gr (P.add Q) (Z*Z'*(Z*Z'*(Z*Z')-c.d*(X*X'*(Y*Y')))*(X*Y'+X'*Y)) (Z*Z'*(Z*Z'*(Z*Z')+c.d*(X*X'*(Y*Y')))*(Y*Y'+X*X')) ((Z*Z'*(Z*Z')-c.d*(X*X'*(Y*Y')))*(Z*Z'*(Z*Z')+c.d*(X*X'*(Y*Y')))):=by
 obtain ⟨hz,rfl,rfl⟩:=h
 obtain ⟨hz',rfl,rfl⟩:=h'
 have h1:=P.plus Q
 have h2:=P.minus Q
 have e1:=P.add_x Q
 have e2:=P.add_y Q
 generalize hR:(P.add Q)=R at*
 have f1:Z*Z'*(Z*Z')-c.d*(P.x*Z*(Q.x*Z')*(P.y*Z*(Q.y*Z')))=(Z*Z')*(Z*Z')*(1-c.d*P.x*Q.x*P.y*Q.y):=by
  clear e1 e2 h1 h2 hz hz';grind
 have f2:Z*Z'*(Z*Z')+c.d*(P.x*Z*(Q.x*Z')*(P.y*Z*(Q.y*Z')))=(Z*Z')*(Z*Z')*(1+c.d*P.x*Q.x*P.y*Q.y):=by
  clear e1 e2 h1 h2 hz hz' f1;grind
 rw [f1,f2]
 have hzz:=cu hz hz'
 generalize 1+c.d*P.x*Q.x*P.y*Q.y=B at*
 generalize 1-c.d*P.x*Q.x*P.y*Q.y=D at*
 have g1:P.x*Z*(Q.y*Z')+Q.x*Z'*(P.y*Z)=(Z*Z')*(P.x*Q.y+P.y*Q.x):=by clear e1 e2 h1 h2 hz hz' f1 f2 hzz hR;grind
 have g2:P.y*Z*(Q.y*Z')+P.x*Z*(Q.x*Z')=(Z*Z')*(P.y*Q.y+P.x*Q.x):=by clear e1 e2 h1 h2 hz hz' f1 f2 hzz hR g1;grind
 rw [g1,g2,←e1,←e2]
 generalize Z*Z'=z at*
 refine ⟨?_,?_,?_⟩
 ·exact cu (cu (cu hzz hzz) h2) (cu (cu hzz hzz) h1)
 ·clear e1 e2 h1 h2 hz hz' f1 f2 hzz hR g1 g2;grind
 ·clear e1 e2 h1 h2 hz hz' f1 f2 hzz hR g1 g2;grind
theorem gr.zero:gr (Cp.zero:Cp c) 0 1 1:=⟨Cp.one_ne c,by show (0:K)=0*1;grind,by show (1:K)=1*1;grind⟩
theorem gr.one (P:Cp c):gr P P.x P.y 1:=⟨Cp.one_ne c,by grind,by grind⟩
end
def GO {α:Type} (n:Nat) (k:Nat→α):α:=Nat.rec (k 0) (fun m _=>k (Nat.succ m)) n
theorem SF {α:Type} (n:Nat) (k:Nat→α):GO n k=k n:=by cases n<;>rfl
def mV (a b:Nat):Nat:=a*b%Pq
def RI (a b:Nat):Nat:=(a+b)%Pq
def W9 (a b:Nat):Nat:=(Pq-b+a)%Pq
def M7 {α:Type} (X Y Z X' Y' Z':Nat) (k:Nat→Nat→Nat→α):α:=
 GO (mV Z Z') fun z=>GO (mV z z) fun zz=>GO (mV X X') fun x=>GO (mV Y Y') fun y=>GO (mV dE.val (mV x y)) fun e=>
 GO (W9 zz e) fun f=>GO (RI zz e) fun g=>GO (RI (mV X Y') (mV X' Y)) fun h=>
 GO (mV (mV z f) h) fun X3=>GO (mV (mV z g) (RI y x)) fun Y3=>GO (mV f g) fun Z3=>k X3 Y3 Z3
theorem CN {α:Type} (X Y Z X' Y' Z':F) (k:Nat→Nat→Nat→α):
  M7 X.val Y.val Z.val X'.val Y'.val Z'.val k=k (Z*Z'*(Z*Z'*(Z*Z')-dE*(X*X'*(Y*Y')))*(X*Y'+X'*Y)).val (Z*Z'*(Z*Z'*(Z*Z')+dE*(X*X'*(Y*Y')))*(Y*Y'+X*X')).val ((Z*Z'*(Z*Z')-dE*(X*X'*(Y*Y')))*(Z*Z'*(Z*Z')+dE*(X*X'*(Y*Y')))).val:=by
 simp only [M7,SF]
 rfl
def As:Nat→Nat→Nat×Nat×Nat
 |0,_=>(0,1,1)
 |f+1,n=>if n=0 then (0,1,1) else
  match As f (n/2) with
  |(X,Y,Z)=>M7 X Y Z X Y Z fun X Y Z=>if n%2=1 then M7 X Y Z Hc.val oZ.val 1 fun X Y Z=>(X,Y,Z) else (X,Y,Z)
theorem Dh:∀f n,n<2^f→∃X Y Z:F,As f n=(X.val,Y.val,Z.val)∧gr (Cp.mul n base) X Y Z
 |0,n,h=>by
  obtain rfl:n=0:=by simp at h;exact h
  exact ⟨0,1,1,rfl,gr.zero⟩
 |f+1,n,h=>by
  by_cases h0:n=0
  ·subst h0
   exact ⟨0,1,1,by rw [As,if_pos rfl];rfl,gr.zero⟩
  ·obtain ⟨X,Y,Z,e,hp⟩:=Dh f (n/2) (by rw [Nat.pow_succ] at h;omega)
   rw [As,if_neg h0,e]
   simp only [CN]
   have h2:=hp.add hp
   rw [←Cp.mul_add] at h2
   by_cases h1:n%2=1
   ·rw [if_pos h1]
    have h3:=h2.add (gr.one base)
    have e0:∀q,n=q+q+1→Cp.mul n base=(Cp.mul (q+q) base).add base:=fun q hq=>by subst hq;rfl
    have e1:=e0 (n/2) (by omega)
    rw [e1]
    exact ⟨_,_,_,CN _ _ _ Hc oZ 1 _,h3⟩
   ·rw [if_neg h1]
    have e0:n/2+n/2=n:=by omega
    rw [e0] at h2
    exact ⟨_,_,_,rfl,h2⟩
theorem A3:Cp.mul Lq base=Cp.zero:=by
 obtain ⟨X,Y,Z,e,hp⟩:=Dh 253 Lq (by decide +kernel)
 have h:(As 253 Lq).1=0∧(As 253 Lq).2.1=(As 253 Lq).2.2:=by decide +kernel
 rw [e] at h
 obtain ⟨h1,h2⟩:=h
 have hX:X=0:=F.ext' h1
 have hY:Y=Z:=F.ext' h2
 obtain ⟨hz,hx,hy⟩:=hp
 rw [hX] at hx
 rw [hY] at hy
 apply Cp.ext'
 ·show _=(0:F)
  generalize (Cp.mul Lq base).x=x at*
  rcases F.dom (hx.symm) with h|h
  ·exact h
  ·exact absurd h hz
 ·show _=(1:F)
  generalize (Cp.mul Lq base).y=y at*
  have h:(y-1)*Z=0:=by clear hz hx h1 h2 e hX hY;grind
  rcases F.dom h with h|h
  ·clear hy hx h1 h2 e hX hY hz;grind
  ·exact absurd h hz
theorem XY:Pr Lq:=by unfold Lq;exact aL
theorem OJ:base≠Cp.zero:=by
 intro h
 have:=congrArg Cp.x h
 exact absurd (congrArg Fin.val this) (by decide +kernel)
theorem yL {n:Nat} (h:Cp.mul n base=Cp.zero):Lq∣n:=by
 rcases Nat.eq_zero_or_pos (n%Lq) with h0|h0
 ·exact Nat.dvd_of_mod_eq_zero h0
 ·exfalso
  have hnd:¬Lq∣n:=fun hd=>by rw [Nat.mod_eq_zero_of_dvd hd] at h0;omega
  have hf:=BT XY n hnd
  have e0:∀q:Nat,2≤q→n^(q-1)=n^(q-2)*n:=fun q hq=>by rw [←Nat.pow_succ];congr 1;omega
  have e:=e0 Lq (by unfold Lq;omega)
  clear e0
  apply OJ
  have h1:Cp.mul (n^(Lq-2)*n) base=Cp.zero:=by rw [←Cp.mul_mul,h,Cp.mul_zero]
  rw [Cp.mul_mod A3,←e,hf,Cp.mul_one] at h1
  exact h1
section
variable {K:Type} [Lean.Grind.Field K] {c:Cu K}
structure u9 (P:Cp c) (X Y Z T:K):Prop where
 p:gr P X Y Z
 t:T=P.x*P.y*Z
theorem u9.one (P:Cp c):u9 P P.x P.y 1 (P.x*P.y):=⟨gr.one P,by grind⟩
theorem u9.add {P Q:Cp c} {X Y Z T X' Y' Z' T':K} (h:u9 P X Y Z T) (h':u9 Q X' Y' Z' T') {m n k z e f g u:K}
  (hm:m=(Y-X)*(Y'-X')) (hn:n=(Y+X)*(Y'+X')) (hk:k=T*(c.d+c.d)*T') (hzz:z=Z*Z'+Z*Z') (he:e=n-m) (hf:f=z-k) (hg:g=z+k) (hu:u=n+m):
  u9 (P.add Q) (e*f) (g*u) (f*g) (e*u):=by
 obtain ⟨⟨hz,rfl,rfl⟩,rfl⟩:=h
 obtain ⟨⟨hz',rfl,rfl⟩,rfl⟩:=h'
 have h1:=P.plus Q
 have h2:=P.minus Q
 have e1:=P.add_x Q
 have e2:=P.add_y Q
 have h3:=c.h2
 generalize hR:(P.add Q)=R at*
 have hw:=cu h3 (cu hz hz')
 have f1:f=2*(Z*Z')*(1-c.d*P.x*Q.x*P.y*Q.y):=by
  rw [hf,hzz,hk];clear e1 e2 h1 h2 hz hz' hm hn hk hzz he hf hg hu hw h3 hR;grind
 have f2:g=2*(Z*Z')*(1+c.d*P.x*Q.x*P.y*Q.y):=by
  rw [hg,hzz,hk];clear e1 e2 h1 h2 hz hz' hm hn hk hzz he hf hg hu hw h3 hR f1;grind
 have g1:e=2*(Z*Z')*(P.x*Q.y+P.y*Q.x):=by
  rw [he,hn,hm];clear e1 e2 h1 h2 hz hz' hm hn hk hzz he hf hg hu hw h3 hR f1 f2;grind
 have g2:u=2*(Z*Z')*(P.y*Q.y+P.x*Q.x):=by
  rw [hu,hn,hm];clear e1 e2 h1 h2 hz hz' hm hn hk hzz he hf hg hu hw h3 hR f1 f2 g1;grind
 rw [f1,f2,g1,g2,←e1,←e2]
 clear hm hn hk hzz he hf hg hu f1 f2 g1 g2 e1 e2 hR h3
 generalize 1+c.d*P.x*Q.x*P.y*Q.y=B at*
 generalize 1-c.d*P.x*Q.x*P.y*Q.y=D at*
 generalize 2*(Z*Z')=q at*
 clear hz hz'
 refine ⟨⟨?_,?_,?_⟩,?_⟩
 ·exact cu (cu hw h2) (cu hw h1)
 ·clear h1 h2 hw;grind
 ·clear h1 h2 hw;grind
 ·clear h1 h2 hw;grind
theorem gr.same {P Q:Cp c} {X Y Z X' Y' Z':K} (h:gr P X Y Z) (h':gr Q X' Y' Z'):(X*Z'=X'*Z∧Y*Z'=Y'*Z)↔P=Q:=by
 obtain ⟨hz,rfl,rfl⟩:=h
 obtain ⟨hz',rfl,rfl⟩:=h'
 constructor
 ·rintro ⟨h1,h2⟩
  apply Cp.ext'
  ·have hw:=cu hz hz'
   have h3:(P.x-Q.x)*(Z*Z')=0:=by grind
   generalize Z*Z'=q at*
   have:=Lean.Grind.Field.mul_inv_cancel hw
   grind
  ·have hw:=cu hz hz'
   have h3:(P.y-Q.y)*(Z*Z')=0:=by grind
   generalize Z*Z'=q at*
   have:=Lean.Grind.Field.mul_inv_cancel hw
   grind
 ·rintro rfl
  exact ⟨by grind,by grind⟩
end
def g8:F:=fn 16295367250680780974490674513165176452449235426866156013048779062215315747161
theorem SS:g8=dE+dE:=by decide +kernel
def xx (y:F):F:=(y*y-1)*aY (y*y*dE+1)
theorem LX:(PA.i:F)*PA.i= -1:=PA.hi
theorem YY {K:Type} [Lean.Grind.Field K] (d:K):(0:K)*0*d+1=1:=by grind
theorem KE (y:F):y*y*dE+1≠0:=by
 intro h
 have hy:y≠0:=by
  rintro rfl
  rw [YY] at h
  exact Cp.one_ne PA h
 have h2:=dn hy
 have hi:=LX
 apply P_ (PA.i*aY y)
 generalize PA.i=i at*
 generalize aY y=z at*
 generalize dE=d at*
 grind
theorem TJ {x y:F} (h:x*x=xx y):ny dE x y:=by
 unfold xx at h
 have h1:=dn (KE y)
 unfold ny
 generalize aY (y*y*dE+1)=z at*
 generalize dE=d at*
 grind
theorem Qj {x y:F} (h:ny dE x y):x*x=xx y:=by
 unfold xx
 have h1:=dn (KE y)
 unfold ny at h
 generalize aY (y*y*dE+1)=z at*
 generalize dE=d at*
 grind
def xE (y:F):F:=aT (xx y)
theorem TZ {y:F} (h:bM (xx y)=0):ny dE (xE y) y:=TJ (sG h)
theorem NJ {x y:F} (h:ny dE x y):bM (xx y)=0∧(xE y=x∨xE y= -x):=by
 rw [←Qj h]
 refine ⟨xY x,?_⟩
 unfold xE
 rw [←Qj h]
 exact O4 x
def dJ (b:List UInt8):Nat:=bm b%2^255
def zl (b:List UInt8):Bool:=bm b/2^255%2 ==1
def gv (P:EP):List UInt8:=bq 32 (P.y.val+2^255*(P.x.val%2))
theorem qk (P:EP):(gv P).length=32:=au _ _
def xS (o:Bool) (y:F):F:=if o then -xE y else xE y
theorem Qv {o:Bool} {y:F} (h:bM (xx y)=0):ny dE (xS o y) y:=by
 have h1:=TZ h
 unfold xS
 cases o with
 |true=>
  simp only [if_true]
  unfold ny at*
  generalize xE y=x at*
  generalize dE=d at*
  grind
 |false=>simpa using h1
def ng (b:List UInt8):Option EP:=
 if b.length=32∧dJ b<Pq then
  if h:bM (xx (fn (dJ b)))=0 then
   if zl b=true∧xE (fn (dJ b))=0 then none else some ⟨xS (zl b) (fn (dJ b)),fn (dJ b),Qv h⟩
  else none
 else none
theorem rB {b:List UInt8} {y:F} {o:Bool} (h1:b.length=32) (h2:dJ b<Pq) (hy:fn (dJ b)=y) (hs:zl b=o) (hr:bM (xx y)=0) (hn:¬(o=true∧xE y=0)):
  ng b=some ⟨xS o y,y,Qv hr⟩:=by
 subst hy hs
 unfold ng
 rw [if_pos ⟨h1,h2⟩,dif_pos hr,if_neg hn]
theorem NQ {x:F} (hx:x≠0):(-x).val%2=1-x.val%2:=by
 have h0:x.val≠0:=fun h=>hx (F.ext' h)
 have h1:=x.isLt
 have h2:Pq%2=1:=by decide +kernel
 rw [CX]
 have h3:(Pq-x.val)%Pq=Pq-x.val:=Nat.mod_eq_of_lt (by omega)
 rw [h3]
 generalize x.val=v at*
 have h4:v<Pq:=h1
 omega
theorem Oa:Pq<2^255:=by decide +kernel
theorem Ee (P:EP):bm (gv P)=P.y.val+2^255*(P.x.val%2):=by
 have h1:P.y.val<Pq:=P.y.isLt
 have h2:=Oa
 unfold gv
 rw [lW]
 generalize P.y.val=v at*
 generalize P.x.val=x
 apply Nat.mod_eq_of_lt
 rw [show 2^(8*32)=2^255+2^255 by decide +kernel]
 generalize 2^255=T at*
 have:x%2=0∨x%2=1:=by omega
 rcases this with e|e<;>rw [e]<;>omega
theorem T8 {x y:F} (hxe:(xE y).val%2=0) (h:xE y=x∨xE y= -x):xS (x.val%2 ==1) y=x∧¬((x.val%2 ==1)=true∧xE y=0):=by
 unfold xS
 generalize xE y=e at*
 by_cases hp:x.val%2=1
 ·have hne:x≠0:=by rintro rfl;exact absurd hp (by decide)
  rcases h with h|h
  ·rw [h] at hxe;exact absurd (hxe.symm.trans hp) (by decide)
  ·rw [hp]
   clear hp hxe
   refine ⟨by simp only [beq_self_eq_true,if_true];rw [h];clear h hne;grind,fun ⟨_,h0⟩=>hne ?_⟩
   rw [h] at h0
   clear h hne
   grind
 ·have hb:(x.val%2 ==1)=false:=by simpa using hp
  rw [hb]
  refine ⟨?_,fun ⟨h,_⟩=>by cases h⟩
  simp only [Bool.false_eq_true,if_false]
  rcases h with h|h
  ·exact h
  ·by_cases hne:x=0
   ·rw [h,hne];decide
   ·rw [h,NQ hne] at hxe
    have hq2:x.val%2<2:=Nat.mod_lt _ (by decide)
    clear hb h hne
    generalize x.val%2=q at*
    exfalso
    rcases Nat.lt_or_ge q 1 with h|h
    ·have:q=0:=by omega
     rw [this] at hxe;cases hxe
    ·exact hp (by omega)
theorem O7 {v T k:Nat} (h:v<T):(v+T*k)%T=v:=by rw [Nat.add_mul_mod_self_left];exact Nat.mod_eq_of_lt h
theorem MX {v T k:Nat} (h:v<T):(v+T*k)/T=k:=by rw [Nat.add_mul_div_left _ _ (by omega),Nat.div_eq_of_lt h,Nat.zero_add]
theorem Db (P:EP):dJ (gv P)=P.y.val:=by
 unfold dJ
 rw [Ee]
 exact O7 (Nat.lt_trans P.y.isLt Oa)
theorem OG (P:EP):zl (gv P)=(P.x.val%2 ==1):=by
 unfold zl
 rw [Ee,MX (Nat.lt_trans P.y.isLt Oa),Nat.mod_mod]
theorem TP (P:EP):fn (dJ (gv P))=P.y:=by rw [Db];exact F.ext' (Nat.mod_eq_of_lt P.y.isLt)
theorem KY (P:EP):ng (gv P)=some P:=by
 have ho:=NJ P.on
 have hx:=T8 (CK (xx P.y)) ho.2
 rw [rB (qk P) (by rw [Db];exact P.y.isLt) (TP P) (OG P) ho.1 hx.2]
 exact congrArg some (Cp.ext' hx.1 rfl)
end Go.Proofs.YtknlbpjcjdenbaaGreat
namespace Go.Proofs.YtknlbpjcjdenbaaGreat
open Go Go.RowKit
section
variable {P:Program} {ops:Array Oper} {Q:Exit→Act→World→Prop} {md:Region.Mode}
def fh (md:Region.Mode) (ops:Array Oper):Bool:=
 (List.range ops.size).all fun i=>((ops[i]?).map fun o=>o.after.all fun e=> !Region.binds md e||decide (e.on<i)).getD true
theorem uK (h:fh md ops=true) {i:Nat} {o:Oper} (ho:ops[i]?=some o) {e:Edge} (he:e∈o.after) (hb:Region.binds md e=true):e.on<i:=by
 have hlt:i<ops.size:=(Array.getElem?_eq_some_iff.1 ho).1
 unfold fh at h
 rw [List.all_eq_true] at h
 have h1:=h i (by simpa using hlt)
 simp only [ho,Option.map_some,Option.getD_some,Array.all_eq_true_iff_forall_mem,Bool.or_eq_true,Bool.not_eq_true',decide_eq_true_eq] at h1
 rcases h1 e he with h2|h2
 ·rw [h2] at hb;cases hb
 ·exact h2
def dT (L:Nat→Bool) (i:Nat):Nat→Bool:=fun j=>if j=i then true else L j
theorem cU (L:Nat→Bool) (i:Nat):dT L i i=true:=by simp [dT]
theorem bO {L:Nat→Bool} {i j:Nat} (h:j≠i):dT L i j=L j:=by simp [dT,h]
theorem gm {L:Nat→Bool} {i j:Nat} (h:L j=true):dT L i j=true:=by unfold dT;split<;>simp [h]
def Em (listed:Array Bool):Nat→Bool:=fun j=>listed.getD j false
theorem yZ (n:Nat):Em (Array.replicate n false)=fun _=>false:=by
 funext j
 unfold Em
 rw [Array.getD_eq_getD_getElem?]
 by_cases h:j<n
 ·simp [h]
 ·rw [Array.getElem?_eq_none (by simpa using h)];rfl
theorem Rd {listed:Array Bool} {i:Nat} (hi:i<listed.size):Em (listed.setIfInBounds i true)=dT (Em listed) i:=by
 funext j
 unfold Em dT
 by_cases h:j=i
 ·subst h;simp [hi]
 ·rw [if_neg h];exact getD_set_ne false (Ne.symm h)
theorem xW (he:fh md ops=true) {listed:Array Bool} (hs:listed.size=ops.size) (hr:Region.ready md ops listed= []):
  ∀i,i<ops.size→Em listed i=true:=by
 intro i
 induction i using Nat.strongRecOn with
 |_ i ih=>
  intro hi
  cases h:Em listed i with
  |true=>rfl
  |false=>
   have:i∈Region.ready md ops listed:=by
    rw [mem_ready]
    refine ⟨?_,ops[i],by simp [hi],fun e he' hb=> ?_⟩
    ·unfold Em at h;simpa [show i<listed.size by omega] using h
    ·have:=uK he (i:=i) (o:=ops[i]) (by simp [hi]) he' hb
     exact ih _ this (by omega)
   rw [hr] at this;cases this
theorem sO (he:fh md ops=true) (I:(Nat→Bool)→Act→World→Prop)
  (hstep:∀i o,ops[i]?=some o→∀L a w,I L a w→L i=false→(∀e∈o.after,Region.binds md e=true→L e.on=true)→wpOp P ops Q i (fun a' w'=>I (dT L i) a' w') a w)
  (hdone:∀L a w,(∀i,i<ops.size→L i=true)→I L a w→Q .normal a w):
  ∀fuel (listed:Array Bool) a w,listed.size=ops.size→listed.count false≤fuel→I (Em listed) a w→wpAny P md ops Q fuel listed a w:=by
 intro fuel
 induction fuel with
 |zero=>
  intro listed a w hs hc hI
  have hall:∀i,i<ops.size→Em listed i=true:=fun i hi=>by
   have h0:listed.count false=0:=by omega
   have hn:false ∉ listed:=Array.count_eq_zero.1 h0
   have hlt:i<listed.size:=by omega
   unfold Em
   cases hb:listed.getD i false with
   |true=>rfl
   |false=>
    exfalso;apply hn
    simp [hlt] at hb
    exact hb▸Array.getElem_mem hlt
  refine ⟨?_,hdone _ _ _ hall hI⟩
  apply List.eq_nil_iff_forall_not_mem.2
  intro i hi
  obtain ⟨h0,o,ho,_⟩:=mem_ready.1 hi
  have hlt:i<ops.size:=(Array.getElem?_eq_some_iff.1 ho).1
  have h1:=hall i hlt
  unfold Em at h1
  simp [show i<listed.size by omega] at h0 h1
  rw [h0] at h1;cases h1
 |succ fuel ih=>
  intro listed a w hs hc hI
  refine ⟨fun hr=>hdone _ _ _ (xW he hs hr) hI,fun i hi=> ?_⟩
  obtain ⟨h0,o,ho,hdep⟩:=mem_ready.1 hi
  have hlt:i<ops.size:=(Array.getElem?_eq_some_iff.1 ho).1
  have hltL:i<listed.size:=by omega
  have hb:listed[i]=false:=by simpa [hltL] using h0
  refine wpOp_mono (fun a' w' h=>ih _ a' w' (by simpa using hs) ?_ (by rw [Rd hltL];exact h)) (hstep i o ho (Em listed) a w hI (by unfold Em;simpa [hltL] using hb) hdep)
  have e:(listed.setIfInBounds i true).count false+1=listed.count false:=by
   have hset:listed.setIfInBounds i true=listed.set i true hltL:=by simp [Array.setIfInBounds,hltL]
   rw [hset,Array.count_set]
   have hpos:0<listed.count false:=Array.count_pos_iff.2 (hb▸Array.getElem_mem hltL)
   simp [hb];omega
  omega
def iI (u:Nat→Value) (i:Nat) (v:Value):Nat→Value:=fun j=>if j=i then v else u j
theorem cq (u:Nat→Value) (i:Nat) (v:Value):iI u i v i=v:=by simp [iI]
theorem dA {u:Nat→Value} {i j:Nat} {v:Value} (h:j≠i):iI u i v j=u j:=by simp [iI,h]
def qm (md:Region.Mode) (o:Oper) (d:Nat):Bool:=o.after.any fun e=>Region.binds md e&&(e.on ==d)
def fM (md:Region.Mode) (ops:Array Oper) (k d:Nat):Bool:=((ops[k]?).map fun o=>qm md o d).getD false
theorem qN {o:Oper} {d:Nat} (h:qm md o d=true):∃e∈o.after,Region.binds md e=true∧e.on=d:=by
 unfold qm at h
 rw [Array.any_eq_true] at h
 obtain ⟨j,hj,h⟩:=h
 simp only [Bool.and_eq_true,beq_iff_eq] at h
 exact ⟨o.after[j],Array.getElem_mem hj,h.1,h.2⟩
structure Vh (wt:Nat→Nat→Bool) (fr:(Nat→Value)→Array Value) (df:List Deferred) (G:Nat→(Nat→Bool)→(Nat→Value)→World→Prop) (J:(Nat→Bool)→(Nat→Value)→World→Prop)
  (L:Nat→Bool) (a:Act) (w:World):Prop where
 closed:∀k d,L k=true→wt k d=true→L d=true
 ex:∃u,a=⟨fr u,df⟩∧J L u w∧∀k,L k=true→G k L u w
def cY (P:Program) (ops:Array Oper) (wt:Nat→Nat→Bool) (Q:Exit→Act→World→Prop) (fr:(Nat→Value)→Array Value) (df:List Deferred)
  (G:Nat→(Nat→Bool)→(Nat→Value)→World→Prop) (J:(Nat→Bool)→(Nat→Value)→World→Prop) (i:Nat) (o:Oper):Prop:=
 ∀L u w,(∀k d,L k=true→wt k d=true→L d=true)→J L u w→(∀k,L k=true→G k L u w)→L i=false→(∀d,wt i d=true→L d=true)→
  ∀K:Act→World→Prop,Shut (∀v w',J (dT L i) (iI u i v) w'→(∀k,L k=true→k≠i→wt k i=false→G k L u w→G k (dT L i) (iI u i v) w')→G i (dT L i) (iI u i v) w'→K ((⟨fr u,df⟩:Act).put o.dst v) w')→
   if Region.wanted o (yielded ops (fr u))=true then Oper.wp P o ⟨fr u,df⟩ w K Q else K ((⟨fr u,df⟩:Act).put o.dst undef) w
structure E8 (wt:Nat→Nat→Bool) (G:Nat→(Nat→Bool)→(Nat→Value)→World→Prop):Prop where
 sup:∀k L u i v w,k≠i→wt k i=false→G k L u w→G k (dT L i) (iI u i v) w
 later:∀k L u w w',Below w.heap.size w w'→G k L u w→G k L u w'
theorem lg {L:Nat→Bool} {i j:Nat} (h:dT L i j=false):L j=false:=by
 unfold dT at h;split at h
 ·cases h
 ·exact h
section steps
variable {wt:Nat→Nat→Bool} {fr:(Nat→Value)→Array Value} {df:List Deferred} {G:Nat→(Nat→Bool)→(Nat→Value)→World→Prop} {J:(Nat→Bool)→(Nat→Value)→World→Prop} {i:Nat} {o:Oper}
end steps
def dP (P:Program) (ops:Array Oper) (wt:Nat→Nat→Bool) (Q:Exit→Act→World→Prop) (fr:(Nat→Value)→Array Value) (df:List Deferred)
  (G:Nat→(Nat→Bool)→(Nat→Value)→World→Prop) (J:(Nat→Bool)→(Nat→Value)→World→Prop):Nat→List Oper→Prop
 |_,[]=>True
 |i,o::l=>cY P ops wt Q fr df G J i o∧dP P ops wt Q fr df G J (i+1) l
theorem dP.at {wt:Nat→Nat→Bool} {fr:(Nat→Value)→Array Value} {df:List Deferred} {G:Nat→(Nat→Bool)→(Nat→Value)→World→Prop} {J:(Nat→Bool)→(Nat→Value)→World→Prop}:
  ∀(l:List Oper) (i:Nat),dP P ops wt Q fr df G J i l→∀k o,l[k]?=some o→cY P ops wt Q fr df G J (i+k) o
 | [],_,_,k,o,h=>by simp at h
 |x::l,i,h,0,o,hk=>by simp at hk;subst hk;exact h.1
 |x::l,i,h,k+1,o,hk=>by
  have:=dP.at l (i+1) h.2 k o (by simpa using hk)
  rw [show i+(k+1)=i+1+k by omega];exact this
section regions
variable {id:Nat} {a:Act} {w:World} (fr:(Nat→Value)→Array Value) (G:Nat→(Nat→Bool)→(Nat→Value)→World→Prop) (J:(Nat→Bool)→(Nat→Value)→World→Prop) (u0:Nat→Value)
theorem Vh.step {wt:Nat→Nat→Bool} {df:List Deferred} {fr:(Nat→Value)→Array Value} {G:Nat→(Nat→Bool)→(Nat→Value)→World→Prop} {J:(Nat→Bool)→(Nat→Value)→World→Prop}
  (hfr:∀u i v,i<ops.size→(⟨fr u,df⟩:Act).put ((ops[i]?).bind (·.dst)) v=⟨fr (iI u i v),df⟩)
  {i:Nat} {o:Oper} (ho:ops[i]?=some o) (hs:cY P ops wt Q fr df G J i o) {L:Nat→Bool} {a:Act} {w:World} (h:Vh wt fr df G J L a w) (hL:L i=false) (hdep:∀d,wt i d=true→L d=true)
  (K:Act→World→Prop) (hK:∀a w,Vh wt fr df G J (dT L i) a w→K a w):
  if Region.wanted o (yielded ops a.tmps)=true then Oper.wp P o a w K Q else K (a.put o.dst undef) w:=by
 obtain ⟨hcl,u,rfl,hJ,hG⟩:=h
 have hlt:i<ops.size:=(Array.getElem?_eq_some_iff.1 ho).1
 refine hs L u w hcl hJ hG hL hdep K (fun v w2 hJ2 hG2 hi=>hK _ _ ⟨fun k d hk hd=> ?_,iI u i v,?_,hJ2,fun k hk=> ?_⟩)
 ·by_cases hki:k=i
  ·subst hki
   exact gm (hdep d hd)
  ·rw [bO hki] at hk
   exact gm (hcl k d hk hd)
 ·have:=hfr u i v hlt
  rw [ho] at this
  exact this
 ·by_cases hki:k=i
  ·subst hki;exact hi
  ·rw [bO hki] at hk
   refine hG2 k hk hki ?_ (hG k hk)
   cases hw:wt k i with
   |false=>rfl
   |true=>rw [hcl k i hk hw] at hL;cases hL
theorem fa (hm:P.follows .mixedOrders=true) (he:fh .any ops=true)
  (hfr:∀u i v,i<ops.size→(⟨fr u,a.defers⟩:Act).put ((ops[i]?).bind (·.dst)) v=⟨fr (iI u i v),a.defers⟩)
  (ha:a.tmps=fr u0) (hJ:J (fun _=>false) u0 w.drew)
  (hsoft:E8 (fM .any ops) G) (hsteps:E8 (fM .any ops) G→dP P ops (fM .any ops) Q fr a.defers G J 0 ops.toList)
  (hdone:∀L u W,(∀i,i<ops.size→L i=true)→J L u W→(∀k,k<ops.size→G k L u W)→Q .normal ⟨fr u,a.defers⟩ W):(Code.region id ops true).wp P Q a w:=by
 refine wp_region_any hm (sO he (Vh (fM .any ops) fr a.defers G J) ?_ ?_ _ _ _ _ (by simp) (by simp) ?_)
 ·intro i o ho L a' w' hM hL hdep
  have hs:=dP.at _ _ (hsteps hsoft) i o (by simpa using ho)
  rw [Nat.zero_add] at hs
  refine wpOp_step ho (fun K hK=>Vh.step hfr ho hs hM hL (fun d hd=> ?_) K hK)
  rw [fM,ho] at hd
  obtain ⟨e,he',hb,rfl⟩:=qN hd
  exact hdep e he' hb
 ·rintro L a' w' hall ⟨_,u,rfl,hJ,hG⟩
  exact hdone L u w' hall hJ (fun k hk=>hG k (hall k hk))
 ·rw [yZ]
  refine ⟨(fun k d hk=>by cases hk),u0,?_,hJ,(fun k hk=>by cases hk)⟩
  cases a;simp_all
end regions
end
structure Rp (α:Type) where
 n:Nat
 rep:α→List Value→Prop
 pos:0<n
 len:∀(x:α) cs,rep x cs→cs.length=n
 one:∀(x:α) cs,rep x cs→∀v∈cs,v.oneCell'=true
variable {α:Type} {R:Rp α}
def bj {α:Type} (R:Rp α):List α→List Value→Prop
 | [],cs=>cs= []
 |x::xs,cs=>∃h r,R.rep x h∧cs=h++r∧bj R xs r
theorem bj.len:∀ {xs:List α} {cs:List Value},bj R xs cs→cs.length=R.n*xs.length
 | [],_,h=>by cases h;simp
 |x::xs,cs,h=>by
  obtain ⟨h,r,hx,rfl,hr⟩:=h
  have:=R.len _ _ hx
  have:=bj.len hr
  simp [List.length_append,Nat.mul_add];omega
theorem bj.one:∀ {xs:List α} {cs:List Value},bj R xs cs→∀v∈cs,v.oneCell'=true
 | [],_,h,v,hv=>by cases h;simp at hv
 |x::xs,cs,h,v,hv=>by
  obtain ⟨h,r,hx,rfl,hr⟩:=h
  rcases List.mem_append.1 hv with hv|hv
  ·exact R.one _ _ hx v hv
  ·exact bj.one hr v hv
theorem bj.drop:∀(k:Nat) {xs:List α} {cs:List Value},bj R xs cs→bj R (xs.drop k) (cs.drop (R.n*k))
 |0,_,_,h=>by simpa using h
 |k+1,[],_,h=>by cases h;simp [bj]
 |k+1,x::xs,cs,h=>by
  obtain ⟨h,r,hx,rfl,hr⟩:=h
  have e:=R.len _ _ hx
  have:=bj.drop k hr
  have e2:(h++r).drop (R.n*(k+1))=r.drop (R.n*k):=by
   rw [show R.n*(k+1)=h.length+R.n*k by rw [e,Nat.mul_add];omega,List.drop_append];simp
  rw [List.drop_succ_cons,e2]
  exact this
theorem bj.take:∀(k:Nat) {xs:List α} {cs:List Value},bj R xs cs→bj R (xs.take k) (cs.take (R.n*k))
 |0,_,_,h=>by simp [bj]
 |k+1,[],_,h=>by cases h;simp [bj]
 |k+1,x::xs,cs,h=>by
  obtain ⟨h,r,hx,rfl,hr⟩:=h
  have e:=R.len _ _ hx
  rw [List.take_succ_cons]
  refine ⟨h,r.take (R.n*k),hx,?_,bj.take k hr⟩
  rw [List.take_append,List.take_of_length_le (by rw [e,Nat.mul_add];omega),e,Nat.mul_add,Nat.mul_one,Nat.add_sub_cancel]
theorem bj.app:∀ {xs ys:List α} {cs ds:List Value},bj R xs cs→bj R ys ds→bj R (xs++ys) (cs++ds)
 | [],_,_,_,h,k=>by cases h;simpa using k
 |x::xs,ys,cs,ds,h,k=>by
  obtain ⟨h,r,hx,rfl,hr⟩:=h
  exact ⟨h,r++ds,hx,by simp,bj.app hr k⟩
theorem bj.single {x:α} {cs:List Value} (h:R.rep x cs):bj R [x] cs:=⟨cs,[],h,by simp,rfl⟩
theorem bj.of_single {x:α} {cs:List Value} (h:bj R [x] cs):R.rep x cs:=by
 obtain ⟨h,r,hx,rfl,hr⟩:=h
 obtain rfl:r= []:=hr
 simpa using hx
theorem fe (b:Nat):∀(vs:List Value) (o:Nat) (w:World) (k:Nat),k≠b→(w.setCells b o vs).heap[k]?=w.heap[k]?
 | [],_,_,_,_=>rfl
 |v::r,o,w,k,h=>by rw [World.setCells,fe b r _ _ k h,Below.heap_setCell _ _ _ _ h]
theorem fg (b:Nat):∀(vs:List Value) (o:Nat) (w:World),(w.setCells b o vs).heap.size=w.heap.size
 | [],_,_=>rfl
 |v::r,o,w=>by rw [World.setCells,fg b r];simp [World.setCell]
theorem bf {B b:Nat} {w0:World} (hb:B≤b):∀(vs:List Value) (o:Nat) (w:World),Below B w0 w→Below B w0 (w.setCells b o vs)
 | [],_,_,h=>h
 |v::r,o,w,h=>by rw [World.setCells];exact bf hb r _ _ (h.setCell hb v)
structure WP where
 P:Value→World→Prop
 st:∀v w w',P v w→Below w.heap.size w w'→P v w'
inductive JT where
 |any
 /-- the numbers xs -/
 |val {α:Type} (R:Rp α) (xs:List α)
 /-- where something lies -/
 |ptr (g o:Nat)
 /-- a new variable of n cells -/
 |new (n:Nat)
 /-- a new variable that holds xs -/
 |box {α:Type} (R:Rp α) (xs:List α)
 /-- operation a's new variable holds xs -/
 |st (a:Nat) {α:Type} (R:Rp α) (xs:List α)
 /-- the old variable g holds xs -/
 |sto (g:Nat) {α:Type} (R:Rp α) (xs:List α)
 /-- one cell of the old block g is now v, the rest of it as it was -/
 |cst (g o:Nat) (v:Value)
 /-- a value that is known otherwise -/
 |oth (φ:Value→Prop)
 /-- a new slice of these cells, till operation v comes up -/
 |tmp (n:Nat) (cs:List Value) (v:Nat)
 /-- a new slice of these bytes -/
 |rd (l:List UInt8)
 /-- a new slice of these bytes, till operation v comes up -/
 |rdt (l:List UInt8) (v:Nat)
 /-- these bytes, alone in a new block, till operation v comes up -/
 |own (l:List UInt8) (v:Nat)
 /-- a value that is so, till operation v comes up -/
 |wld (φ:WP) (v:Option Nat)
end Go.Proofs.YtknlbpjcjdenbaaGreat
namespace Go.Proofs.YtknlbpjcjdenbaaGreat
def bS (f:Nat→Nat):Nat→Nat
 |0=>0
 |n+1=>bS f n+f n*65536^n
def cR (f:Nat→Nat):Nat→Nat
 |0=>0
 |i+1=>(f i+cR f i)/65536
def bo (f:Nat→Nat) (i:Nat):Nat:=(f i+cR f i)%65536
theorem tI (f:Nat→Nat):∀n,bS (bo f) n+cR f n*65536^n=bS f n
 |0=>by simp [bS,cR]
 |n+1=>by
  have ih:=tI f n
  have e:bo f n+65536*cR f (n+1)=f n+cR f n:=by unfold bo;simp only [cR];omega
  have e2:cR f (n+1)*65536^(n+1)=65536*cR f (n+1)*65536^n:=by rw [Nat.pow_succ];grind
  simp only [bS]
  rw [e2]
  have e3:bo f n*65536^n+65536*cR f (n+1)*65536^n=f n*65536^n+cR f n*65536^n:=by rw [←Nat.add_mul,e,Nat.add_mul]
  omega
theorem dN (f:Nat→Nat) (i:Nat):bo f i<65536:=Nat.mod_lt _ (by omega)
theorem vz (f:Nat→Nat) (h:∀i,f i<65536):∀n,bS f n<65536^n
 |0=>by simp [bS]
 |n+1=>by
  have ih:=vz f h n
  have h1:=h n
  have h2:f n*65536^n≤65535*65536^n:=Nat.mul_le_mul_right _ (by omega)
  simp only [bS,Nat.pow_succ]
  omega
theorem ei {f g:Nat→Nat}:∀n,(∀i,i<n→f i=g i)→bS f n=bS g n
 |0,_=>rfl
 |n+1,h=>by simp only [bS];rw [ei n (fun i hi=>h i (by omega)),h n (by omega)]
def cm (f:Nat→Nat) (i:Nat):Nat:=
 if i=0 then bo f 0+38*cR f 16+19*(bo f 15/32768) else if i=15 then bo f 15%32768 else bo f i
theorem jI (f:Nat→Nat):∀n,bS f (n+2)=f 0+bS (fun i=>if i=0 then 0 else f i) (n+1)+f (n+1)*65536^(n+1)
 |0=>by simp [bS]
 |n+1=>by
  rw [bS,jI f n]
  conv=>rhs;rw [bS]
  simp only [if_neg (show ¬n+1=0 by omega)]
  have e:f (n+2)*65536^(n+2)=f (n+1+1)*65536^(n+1+1):=rfl
  rw [e]
  omega
theorem mF (f:Nat→Nat):bS (cm f) 16%Pq=bS f 16%Pq:=by
 have h1:=tI f 16
 have a:=jI (cm f) 14
 have b:=jI (bo f) 14
 have c:bS (fun i=>if i=0 then 0 else cm f i) (14+1)=bS (fun i=>if i=0 then 0 else bo f i) (14+1):=by
  apply ei
  intro i hi
  by_cases h0:i=0
  ·simp [h0]
  ·simp only [if_neg h0,cm,if_neg (show ¬i=15 by omega)]
 rw [c] at a
 have e0:cm f 0=bo f 0+38*cR f 16+19*(bo f 15/32768):=by simp [cm]
 have e15:cm f (14+1)=bo f 15%32768:=by simp [cm]
 rw [e0,e15] at a
 generalize bS (fun i=>if i=0 then 0 else bo f i) (14+1)=M at*
 generalize cR f 16=C at*
 have hl:=dN f 15
 simp only [show 14+2=16 from rfl,show 14+1=15 from rfl] at*
 generalize bo f 15=L at*
 generalize bo f 0=Z at*
 generalize bS (cm f) 16=A at*
 generalize bS (bo f) 16=Bv at*
 generalize bS f 16=V at*
 have hL:L=32768*(L/32768)+L%32768:=by omega
 generalize L/32768=q at*
 generalize L%32768=r at*
 simp only [Nat.reducePow] at*
 have key:V+(38*C+19*q)=A+(115792089237316195423570985008687907853269984665640564039457584007913129639936*C+57896044618658097711785492504343953926634992332820282019728792003956564819968*q):=by omega
 have k1:(38*C+19*q)%Pq=(115792089237316195423570985008687907853269984665640564039457584007913129639936*C+57896044618658097711785492504343953926634992332820282019728792003956564819968*q)%Pq:=by
  unfold Pq;omega
 have k2:(V+(38*C+19*q))%Pq=(A+(38*C+19*q))%Pq:=by
  rw [key,Nat.add_mod A,←k1,←Nat.add_mod]
 have hP:=pf
 unfold Pq at*
 omega
theorem n8 (f:Nat→Nat) (B:Nat) (h:∀i,f i≤B):∀i,cR f i≤B/32768
 |0=>by simp [cR]
 |i+1=>by
  have:=n8 f B h i
  have:=h i
  simp only [cR]
  omega
structure Nr (f:Nat→Nat) (B:Nat):Prop where
 z:f 0≤B
 r:∀i,0<i→f i<65536
 t:f 15<32768
theorem pj (f:Nat→Nat) (C:Nat) (h:cR f 16≤C):Nr (cm f) (65535+38*C+19):=by
 have h0:=dN f 0
 have h15:=dN f 15
 refine ⟨?_,fun i hi=> ?_,?_⟩
 ·simp only [cm,if_true];omega
 ·have hl:=dN f i
  simp only [cm,if_neg (show ¬i=0 by omega)]
  by_cases e:i=15
  ·rw [if_pos e];omega
  ·rw [if_neg e];exact hl
 ·simp [cm];omega
theorem Nr.cr {f:Nat→Nat} {B:Nat} (h:Nr f B) (hB:B<4294967296*32768):cR f 16≤1:=by
 have h1:cR f 1≤2147483648:=by have:=h.z;simp only [cR];omega
 have h2:cR f 2≤32768:=by have:=h.r 1 (by omega);rw [cR];omega
 have h3:cR f 3≤1:=by have:=h.r 2 (by omega);rw [cR];omega
 have key:∀i,cR f (i+3)≤1:=by
  intro i
  induction i with
  |zero=>exact h3
  |succ i ih=>have:=h.r (i+3) (by omega);rw [cR];omega
 exact key 13
theorem rZ (f:Nat→Nat) (n:Nat):bS f (n+1)=f 0+bS (fun i=>if i=0 then 0 else f i) (n+1):=by
 cases n with
 |zero=>simp [bS]
 | succ n => have := jI f n; rw [this]; conv => rhs; rw [bS]
             simp only [if_neg (show ¬ n + 1 = 0 by omega)]; omega
structure Cn (f:Nat→Nat):Prop where
 r:∀i,f i<65536
 t:f 15<32768
theorem Cn.lt {f:Nat→Nat} (h:Cn f):bS f 16<57896044618658097711785492504343953926634992332820282019728792003956564819968:=by
 have h1:=vz f h.r 15
 have h2:=h.t
 have h3:f 15*65536^15≤32767*65536^15:=Nat.mul_le_mul_right _ (by omega)
 have e:bS f 16=bS f 15+f 15*65536^15:=rfl
 rw [e,show (57896044618658097711785492504343953926634992332820282019728792003956564819968:Nat)=32768*65536^15 from by decide +kernel]
 generalize 65536^15=X at*
 omega
theorem Gr {f:Nat→Nat} (h:Nr f 65592):Cn (cm f):=by
 have hc:cR f 16≤1:=h.cr (by omega)
 have hv:bS f 16<57896044618658097711785492504343953926634992332820282019728792003956564819968+57:=by
  by_cases hz:f 0<65536
  ·have hcn : Cn f := ⟨fun i => by by_cases h0 : i = 0
                                   · subst h0; exact hz
                                   · exact h.r i (by omega), h.t⟩
   have:=hcn.lt
   omega
  ·have e:=rZ f 15
   have hcn : Cn (fun i => if i = 0 then 65535 else f i) := ⟨fun i => by by_cases h0 : i = 0
                                                                         · simp [h0]
                                                                         · simp only [if_neg h0]; exact h.r i (by omega), by simp; exact h.t⟩
   have h1:=hcn.lt
   have e1:=rZ (fun i=>if i=0 then 65535 else f i) 15
   have e2:bS (fun i=>if i=0 then 0 else (fun i=>if i=0 then 65535 else f i) i) (15+1)=bS (fun i=>if i=0 then 0 else f i) (15+1):=by
    apply ei;intro i _;by_cases h0:i=0<;>simp [h0]
   rw [e2] at e1
   simp only [if_true] at e1
   have hz2:=h.z
   simp only [show 15+1=16 from rfl] at*
   omega
 have hp:=tI f 16
 have hpl:=vz (bo f) (dN f) 15
 have e15:bS (bo f) 16=bS (bo f) 15+bo f 15*65536^15:=rfl
 have h15:=dN f 15
 have hsp:=jI (bo f) 14
 have h0:=dN f 0
 simp only [show 14+1=15 from rfl,show 14+2=16 from rfl] at hsp
 have hc0:cR f 16=0:=by
  simp only [Nat.reducePow] at*
  omega
 have key:bo f 0+38*cR f 16+19*(bo f 15/32768)<65536:=by
  rw [hc0]
  by_cases hq:bo f 15<32768
  ·omega
  ·have hz:bo f 0<57:=by
    simp only [Nat.reducePow] at*
    omega
   omega
 refine ⟨fun i=> ?_,?_⟩
 ·by_cases e0:i=0
  ·subst e0;simp only [cm,if_true];exact key
  ·simp only [cm,if_neg e0]
   by_cases e:i=15
   ·rw [if_pos e];omega
   ·rw [if_neg e];exact dN f i
 ·simp [cm];omega
def tg (f:Nat→Nat):Nat→Nat:=cm (cm (cm f))
theorem I5 (f:Nat→Nat) (h:∀i,f i≤17592186044416):Cn (tg f)∧bS (tg f) 16%Pq=bS f 16%Pq:=by
 have h1:=pj f _ (n8 f _ h 16)
 have h2:=pj (cm f) 1 (h1.cr (by omega))
 exact ⟨Gr h2,by unfold tg;rw [mF,mF,mF]⟩
def bG (n i:Nat):Nat:=n/65536^i%65536
theorem di (n i:Nat):bG n i<65536:=Nat.mod_lt _ (by omega)
theorem JW (f:Nat→Nat) (h:∀i,f i<65536):∀n i,i<n→bG (bS f n) i=f i
 |0,i,hi=>by omega
 |n+1,i,hi=>by
  have hl:=vz f h n
  have hp:0<65536^i:=Nat.pow_pos (by omega)
  by_cases e:i=n
  ·subst e
   unfold bG
   rw [bS,Nat.add_mul_div_right _ _ hp,Nat.div_eq_of_lt hl,Nat.zero_add,Nat.mod_eq_of_lt (h i)]
  ·have ih:=JW f h n i (by omega)
   rw [←ih]
   unfold bG
   rw [bS]
   obtain ⟨j,hj⟩:∃j,n=i+1+j:=⟨n-(i+1),by omega⟩
   have e2:f n*65536^n=(f n*65536^j*65536)*65536^i:=by
    rw [hj,Nat.pow_add,Nat.pow_add,Nat.pow_one];grind
   rw [e2,Nat.add_mul_div_right _ _ hp,Nat.add_mul_mod_self_right]
theorem l8 (x:Nat):∀n,bS (bG x) n=x%65536^n
 |0=>by simp [bS,Nat.mod_one]
 |n+1=>by
  rw [bS,l8 x n,Nat.pow_succ,Nat.mod_mul]
  unfold bG
  rw [Nat.mul_comm (65536^n)]
theorem Sf (x y i:Nat) (h:x/65536^(i+1)=y/65536^(i+1)) (hne:bG x i≠bG y i):decide (x<y)=decide (bG x i<bG y i):=by
 have hp:0<65536^i:=Nat.pow_pos (by omega)
 unfold bG at*
 rw [Nat.pow_succ,←Nat.div_div_eq_div_mul,←Nat.div_div_eq_div_mul] at h
 have ex:=Nat.div_add_mod x (65536^i)
 have ey:=Nat.div_add_mod y (65536^i)
 have hx:=Nat.mod_lt x hp
 have hy:=Nat.mod_lt y hp
 generalize x/65536^i=a at*
 generalize y/65536^i=b at*
 generalize x%65536^i=r at*
 generalize y%65536^i=s at*
 generalize 65536^i=X at*
 have key:x<y↔a<b:=by
  constructor
  ·intro hlt
   by_cases hab:a<b
   ·exact hab
   ·exfalso
    have:b+1≤a∨a=b:=by omega
    rcases this with h1|h1
    ·have:=Nat.mul_le_mul_left X h1
     rw [Nat.mul_add,Nat.mul_one] at this
     omega
    ·subst h1;exact hne rfl
  ·intro hab
   have:=Nat.mul_le_mul_left X (show a+1≤b from hab)
   rw [Nat.mul_add,Nat.mul_one] at this
   omega
 by_cases hab:a<b
 ·rw [decide_eq_true (key.2 hab),decide_eq_true];omega
 ·rw [decide_eq_false (fun hh=>hab (key.1 hh)),decide_eq_false];omega
theorem Tj (x y i:Nat) (h:x/65536^(i+1)=y/65536^(i+1)) (he:bG x i=bG y i):x/65536^i=y/65536^i:=by
 unfold bG at he
 rw [Nat.pow_succ,←Nat.div_div_eq_div_mul,←Nat.div_div_eq_div_mul] at h
 omega
end Go.Proofs.YtknlbpjcjdenbaaGreat
namespace Go.Proofs.YtknlbpjcjdenbaaGreat
open Go Go.RowKit
structure KX where
 T:Type
 rp:Rp T
 df:T
def Up:Rp Unit where
 n:=1
 rep:=fun _ cs=>∃v:Value,v.oneCell'=true∧cs= [v]
 pos:=by omega
 len:=by rintro _ _ ⟨_,_,rfl⟩;rfl
 one:=by rintro _ _ ⟨v,h,rfl⟩ x hx;simp at hx;rw [hx];exact h
def RH (n:Nat) (hn:0<n) (k:IntKind) {T:Type} (P:T→Prop) (f:T→Nat→Nat):Rp T where
 n:=n
 rep:=fun x cs=>P x∧cs=(List.range n).map fun i=> .int k ((f x i:Nat):Int)
 pos:=hn
 len:=by rintro _ _ ⟨_,rfl⟩;simp
 one:=by
  rintro _ _ ⟨_,rfl⟩ v hv
  rw [List.mem_map] at hv
  obtain ⟨i,_,rfl⟩:=hv
  rfl
def VJ:Rp F where
 n:=5
 rep:=fun x cs=>∃f:Nat→Nat,sI f∧val f%Pq=x.val∧cs=(List.range 5).map fun i=> .int .u64 ((f i:Nat):Int)
 pos:=by omega
 len:=by rintro _ _ ⟨_,_,_,rfl⟩;simp
 one:=by
  rintro _ _ ⟨_,_,_,rfl⟩ v hv
  rw [List.mem_map] at hv
  obtain ⟨i,_,rfl⟩:=hv
  rfl
def XK:Nat→KX
 |1=>⟨F,RH 16 (by omega) .u64 (fun _=>True) fun x=>bG x.val,0⟩
 |2=>⟨Nat,RH 4 (by omega) .u64 (fun x=>x<Lq) fun x=>lw x,0⟩
 |3=>⟨Nat,RH 32 (by omega) .u8 (fun x=>x<Lq) fun x i=>x/256^(31-i)%256,0⟩
 |4=>⟨F,VJ,0⟩
 |_=>⟨Unit,Up,()⟩
section
variable {α:Type} {R:Rp α} {ops:Array Oper} {wt:Nat→Nat→Bool} {Q:Exit→Act→World→Prop} {fr:(Nat→Value)→Array Value} {df:List Deferred} {l:List JT} {W0:World} {i:Nat} {o:Oper}
end
end Go.Proofs.YtknlbpjcjdenbaaGreat
namespace Go.Proofs.YtknlbpjcjdenbaaGreat
open Go.RowKit
def bs (l:List UInt8):ByteArray:=⟨l.toArray⟩
theorem xM {w:World} {a:Option Addr} {n cap:Nat} {l:List UInt8} (h:kK w a n cap l):(convert 30 9 (.slice a n cap)).run Tryz.prog w= .ok (.string (bs l)) w:=by
 have hl:=h.hlen
 rcases h.cases with ⟨rfl,rfl⟩|⟨b,o,hn,rfl,hc⟩
 ·cases a with
  |none=>rw [run_convert_bytes_string w 30 9 5 none 0 cap Tryz.underlying30 Tryz.underlying5 Tryz.underlying9];rfl
  |some ad=>exact run_convert_bytes_back w 30 9 5 ad cap [] Tryz.underlying30 Tryz.underlying5 Tryz.underlying9 (fun j hj=>by simp at hj)
 ·subst hl
  exact run_convert_bytes_back w 30 9 5 ⟨b,o,none⟩ cap l Tryz.underlying30 Tryz.underlying5 Tryz.underlying9 (fun j hj=>by rw [po];exact hc j hj)
theorem tt (l:List UInt8):(bs l).toList=l:=ByteArray.toList_mk l
theorem Le (l m:List UInt8):((bs l).toList ==(bs m).toList)=decide (l=m):=by
 rw [tt,tt]
 by_cases h:l=m
 ·subst h;simp
 ·rw [decide_eq_false h,beq_eq_false_iff_ne];exact h
end Go.Proofs.YtknlbpjcjdenbaaGreat
namespace Go.Proofs.YtknlbpjcjdenbaaGreat
open Go Go.RowKit
section
variable {α:Type} {R:Rp α} {ops:Array Oper} {wt:Nat→Nat→Bool} {Q:Exit→Act→World→Prop} {fr:(Nat→Value)→Array Value} {df:List Deferred} {l:List JT} {W0:World} {i:Nat} {o:Oper}
end
def vx (a b:UInt32):UInt32:=a^^^b
def va (a b:UInt32):UInt32:=a&&&b
def vo (a b:UInt32):UInt32:=a|||b
def vn (a:UInt32):UInt32:= ~~~a
def vp (a b:UInt32):UInt32:=a+b
def PO (a:UInt32) (n:Nat):UInt32:=UInt32.ofNat (a.toNat/2^n)
def Tv (a:UInt32) (n:Nat):UInt32:=UInt32.ofNat (a.toNat*2^n)
def mO (a:UInt32) (n:Nat):UInt32:=vo (PO a n) (Tv a (32-n))
def kL (x:UInt64):UInt32:=UInt32.ofNat (x.toNat/4294967296)
def ux (a b:UInt64):UInt64:=a^^^b
def ua (a b:UInt64):UInt64:=a&&&b
def uo (a b:UInt64):UInt64:=a|||b
def un (a:UInt64):UInt64:= ~~~a
def up (a b:UInt64):UInt64:=a+b
def iz (a:UInt64) (n:Nat):UInt64:=UInt64.ofNat (a.toNat/2^n)
def kA (a:UInt64) (n:Nat):UInt64:=UInt64.ofNat (a.toNat*2^n)
def i7 (a:UInt64) (n:Nat):UInt64:=uo (iz a n) (kA a (64-n))
theorem SA (a b:UInt64):bits BinOp.or IntKind.u64 (a.toNat:Int) (b.toNat:Int)=((uo a b).toNat:Int):=by
 rw [u64_or_nat _ _ a.toNat_lt b.toNat_lt];simp [uo]
theorem O1 (a:UInt64) (n:Nat):(a.toNat:Int)/2^n=((iz a n).toNat:Int):=by
 have h:a.toNat/2^n<18446744073709551616:=Nat.lt_of_le_of_lt (Nat.div_le_self _ _) a.toNat_lt
 unfold iz
 rw [UInt64.toNat_ofNat',Nat.mod_eq_of_lt h]
 simp
theorem Oo (a:UInt64) (n:Nat):IntKind.u64.wrap ((a.toNat:Int)*2^n)=((kA a n).toNat:Int):=by
 rw [IntKind.wrap_u64];unfold kA
 rw [UInt64.toNat_ofNat']
 have:(a.toNat:Int)*2^n=((a.toNat*2^n:Nat):Int):=by simp
 rw [this];omega
section
variable {ev:Operand→Value} {o:Oper} {x y:Operand} {t:TypeId} {w:World} {a b:UInt64}
end
inductive Kd where
 |u8|u16|u32|u64|int|bool|str
 |x (i:Nat)
@[reducible] def Kd.T:Kd→Type
 | .u8=>UInt8| .u16=>UInt16| .u32=>UInt32| .u64=>UInt64| .int=>Int| .bool=>Bool| .str=>ByteArray
 | .x i=>(XK i).T
def Kd.df:(k:Kd)→k.T
 | .u8=>(0:UInt8)| .u16=>(0:UInt16)| .u32=>(0:UInt32)| .u64=>(0:UInt64)| .int=>(0:Int)| .bool=>false| .str=>ByteArray.empty
 | .x i=>(XK i).df
def Kd.n:Kd→Nat
 | .x i=>(XK i).rp.n
 |_=>1
def Kd.sc:Kd→Bool
 | .x _=>false
 |_=>true
def wZ {α:Type} (f:α→Value) (hf:∀x,(f x).oneCell'=true):Rp α where
 n:=1
 rep:=fun x cs=>cs= [f x]
 pos:=by omega
 len:=by rintro _ _ rfl;rfl
 one:=by rintro x _ rfl v hv;simp at hv;rw [hv];exact hf x
def Kd.rp:(k:Kd)→Rp k.T
 | .u8=>wZ (fun x:UInt8=> .int .u8 (x.toNat:Int)) fun _=>rfl
 | .u16=>wZ (fun x:UInt16=> .int .u16 (x.toNat:Int)) fun _=>rfl
 | .u32=>wZ (fun x:UInt32=> .int .u32 (x.toNat:Int)) fun _=>rfl
 | .u64=>wZ (fun x:UInt64=> .int .u64 (x.toNat:Int)) fun _=>rfl
 | .int=>wZ (fun x:Int=> .int .i64 x) fun _=>rfl
 | .bool=>wZ (fun x:Bool=> .bool x) fun _=>rfl
 | .str=>wZ (fun x:ByteArray=> .string x) fun _=>rfl
 | .x i=>(XK i).rp
theorem Kd.rp_n (k:Kd):k.rp.n=k.n:=by cases k<;>rfl
inductive Cl where
 |any
 |un
 |cv (v:Value)
 |ob (k:Kd) (x:k.T)
 |vec (k:Kd) (n:Nat) (l:List k.T)
 |ptr (b o:Nat)
 |pix (b o i:Nat)
 |pro (k:Kd) (x:k.T)
 |sl (b o n c:Nat)
 |rw (b:Nat)
 |sub (b lo n:Nat)
 |ro (k:Kd) (l:List k.T)
 |bb (l:List (List UInt8))
 |pbb (l:List UInt8)
 |ln (v:Value) (n:Nat)
 |mp (v:Value) (f:Int→Int)
 |rv (v:Value) (l:List UInt8)
inductive AV where
 |one (x:Cl)
 |agg (l:List Cl)
inductive Ch where
 |blk (E:Nat) (l:List Cl)
 |row (E:Nat) (k:Kd) (l:List k.T)
inductive dZ where
 |s (t:Nat)
 |h (b:Nat)
inductive R (α:Type) where
 |pure (a:α)
 |fail
 |slot (t:Nat) (k:List AV→R α)
 |hp (b:Nat) (k:Option Ch→R α)
 |dec (p:Bool) (k:Bool→R α)
inductive RR (α:Type) where
 |ok (a:α) (rd:List dZ) (qs:List (Bool×Bool))
 |need (p:Bool)
 |fail
def RR.rd {α:Type} (l:dZ):RR α→RR α
 | .ok a r s=> .ok a (l::r) s
 | .need p=> .need p
 | .fail=> .fail
def RR.asm {α:Type} (p v:Bool):RR α→RR α
 | .ok a r s=> .ok a r ((p,v)::s)
 | .need p=> .need p
 | .fail=> .fail
def R.run {α:Type} (sl:Nat→List AV) (hp:Nat→Option Ch):R α→List Bool→RR α
 | .pure a,_=> .ok a [] []
 | .fail,_=> .fail
 | .slot t k,d=>((k (sl t)).run sl hp d).rd (.s t)
 | .hp b k,d=>((k (hp b)).run sl hp d).rd (.h b)
 | .dec p k,d::ds=>((k d).run sl hp ds).asm p d
 | .dec p _,[]=> .need p
structure aU where
 out:List AV
 upd:List (Nat×Option Ch)
 pre:Option Prop
 fact:Option Prop
def aA (x:Cl):R aU:= .pure ⟨[.one x],[],none,none⟩
def bT (x:Cl) (p:Prop):R aU:= .pure ⟨[.one x],[],some p,none⟩
inductive TI where
 |k (k:Kd)
 |ptr|fn|oth
 |sl (e:Nat)
 |arr (n e:Nat)
 |st (fs:List (Nat×Nat))
structure TE where
 ti:TI
 size:Nat
 zero:List Cl
def TE.isAgg (e:TE):Bool:=match e.ti with | .arr _ _=>true| .st _=>true|_=>false
def Cl.n:Cl→Nat
 | .ob k _=>k.n
 | .vec k n _=>n*k.n
 |_=>1
def fX:List Cl→Nat→Option (List Cl)
 |l,0=>some l
 | [],_+1=>none
 |x::r,n+1=>match Nat.ble x.n (n+1) with
  |true=>fX r (n+1-x.n)
  |false=>match x with
   | .vec k m l=>match Nat.beq k.n 1 with
    |true=>some (.vec k (m-(n+1)) (l.drop (n+1))::r)
    |false=>none
   |_=>none
def iS:List Cl→Nat→Option (List Cl)
 |_,0=>some []
 | [],_+1=>none
 |x::r,n+1=>match Nat.ble x.n (n+1) with
  |true=>match iS r (n+1-x.n) with
   |some l=>some (x::l)
   |none=>none
  |false=>match x with
   | .vec k _ l=>match Nat.beq k.n 1 with
    |true=>some [.vec k (n+1) (l.take (n+1))]
    |false=>none
   |_=>none
def uH:List Cl→Nat
 | []=>0
 |x::r=>x.n+uH r
def sE:List Cl→Nat→Nat→List Cl→Option (List Cl)
 |l,0,n,new=>match Nat.beq (uH new) n with
  |true=>match fX l n with
   |some r=>some (new++r)
   |none=>none
  |false=>none
 | [],_+1,_,_=>none
 |x::r,o+1,n,new=>match Nat.ble x.n (o+1) with
  |true=>match sE r (o+1-x.n) n new with
   |some l=>some (x::l)
   |none=>none
  |false=>none
def Ae:List Cl→Nat→Option Cl
 |x::_,0=>some x
 | [],_=>none
 |x::r,o+1=>match Nat.ble x.n (o+1) with
  |true=>Ae r (o+1-x.n)
  |false=>none
def yo:List Cl→Nat→Cl→Option (List Cl)
 |_::r,0,y=>some (y::r)
 | [],_,_=>none
 |x::r,o+1,y=>match Nat.ble x.n (o+1) with
  |true=>match yo r (o+1-x.n) y with
   |some l=>some (x::l)
   |none=>none
  |false=>none
def D6:Cl→Option Cl
 | .ob (.x 1) z=>some (.ob .u64 (UInt64.ofNat (bG (Fin.val (n:=Pq) z) 0)))
 |_=>none
def oY:List Cl→Nat→Option Cl
 | [],_=>none
 |x::r,o=>match x with
  | .vec k n l=>match k.sc with
   |true=>match Nat.blt o n with
    |true=>some (.ob k (l.getD o k.df))
    |false=>oY r (o-n)
   |false=>none
  |x=>match o with
   |0=>match Nat.beq x.n 1 with |true=>some x|false=>D6 x
   |o+1=>match Nat.ble x.n (o+1) with
    |true=>oY r (o+1-x.n)
    |false=>none
def eO:List Cl→Nat→Cl→Option (List Cl)
 | [],_,_=>none
 |x::r,o,y=>match x,y with
  | .vec .u8 n l,.ob .u8 z=>match Nat.blt o n with
   |true=>some (.vec .u8 n (l.set o z)::r)
   |false=>match eO r (o-n) y with |some l=>some (x::l)|none=>none
  | .vec .u16 n l,.ob .u16 z=>match Nat.blt o n with
   |true=>some (.vec .u16 n (l.set o z)::r)
   |false=>match eO r (o-n) y with |some l=>some (x::l)|none=>none
  | .vec .u32 n l,.ob .u32 z=>match Nat.blt o n with
   |true=>some (.vec .u32 n (l.set o z)::r)
   |false=>match eO r (o-n) y with |some l=>some (x::l)|none=>none
  | .vec .u64 n l,.ob .u64 z=>match Nat.blt o n with
   |true=>some (.vec .u64 n (l.set o z)::r)
   |false=>match eO r (o-n) y with |some l=>some (x::l)|none=>none
  | .vec _ _ _,_=>none
  |x,y=>match o with
   |0=>match Nat.beq x.n 1 with |true=>some (y::r)|false=>none
   |o+1=>match Nat.ble x.n (o+1) with
    |true=>match eO r (o+1-x.n) y with |some l=>some (x::l)|none=>none
    |false=>none
inductive Nm where
 |lit (z:Int)
 |int (z:Int)
 |u8 (x:UInt8)|u16 (x:UInt16)|u32 (x:UInt32)|u64 (x:UInt64)
def hZ:AV→Option Nm
 | .one (.cv (.int .i64 z))=>some (.lit z)
 | .one (.ob .int z)=>some (.int z)
 | .one (.ob .u8 x)=>some (.u8 x)
 | .one (.ob .u16 x)=>some (.u16 x)
 | .one (.ob .u32 x)=>some (.u32 x)
 | .one (.ob .u64 x)=>some (.u64 x)
 |_=>none
def Nm.toInt:Nm→Int
 | .lit z=>z| .int z=>z
 | .u8 x=>(x.toNat:Int)| .u16 x=>(x.toNat:Int)| .u32 x=>(x.toNat:Int)| .u64 x=>(x.toNat:Int)
def ze (v:Value):Option Cl:=
 match v with
 | .int k z=>match k with
  | .i64=>some (.cv (.int .i64 z))
  | .u8=>match z with
   | .ofNat n=>match Nat.blt n 256 with |true=>some (.ob .u8 (UInt8.ofNat n))|false=>none
   | .negSucc _=>none
  | .u16=>match z with
   | .ofNat n=>match Nat.blt n 65536 with |true=>some (.ob .u16 (UInt16.ofNat n))|false=>none
   | .negSucc _=>none
  | .u32=>match z with
   | .ofNat n=>match Nat.blt n 4294967296 with |true=>some (.ob .u32 (UInt32.ofNat n))|false=>none
   | .negSucc _=>none
  | .u64=>match z with
   | .ofNat n=>match Nat.blt n 18446744073709551616 with |true=>some (.ob .u64 (UInt64.ofNat n))|false=>none
   | .negSucc _=>none
  |_=>none
 | .bool b=>some (.cv (.bool b))
 | .string s=>some (.ob .str s)
 | .pointer none=>some (.cv (.pointer none))
 | .slice none 0 0=>some (.cv (.slice none 0 0))
 | .map none=>some (.cv (.map none))
 | .nilFunc=>some (.cv .nilFunc)
 |_=>none
def pA:List Value→Option (List Cl)
 | []=>some []
 |v::r=>match ze v with
  |some x=>match pA r with
   |some l=>some (x::l)
   |none=>none
  |none=>none
def eK {α:Type} (x:Operand) (k:AV→R α):R α:=
 match x with
 | .tmp t=> .slot t fun l=>match l with
  | [a]=>k a
  |_=> .fail
 | .const v=>match v with
  | .agg cs=>match pA cs.toList with
   |some l=>k (.agg l)
   |none=> .fail
  |v=>match ze v with
   |some a=>k (.one a)
   |none=> .fail
 |_=> .fail
def XP {α:Type} (z:Int) (k:Int→α):α:=
 match z with
 | .ofNat n=>match n with
  |0=>k (.ofNat 0)
  |m+1=>k (.ofNat (m+1))
 | .negSucc n=>match n with
  |0=>k (.negSucc 0)
  |m+1=>k (.negSucc (m+1))
def X6 {α:Type} (b:Bool) (k:Bool→α):α:=match b with |true=>k true|false=>k false
def gH (z:Int):Prop:= -9223372036854775808≤z∧z<9223372036854775808
def OD (z:Int):Bool:=match z with | .ofNat n=>Nat.blt n 9223372036854775808| .negSucc n=>Nat.blt n 9223372036854775808
def i5 (z:Int):R aU:=match OD z with |true=>XP z fun z=>aA (.cv (.int .i64 z))|false=> .fail
def litB (b:Bool):R aU:=X6 b fun b=>aA (.cv (.bool b))
def symB (b:Bool):R aU:=aA (.ob .bool b)
def symI (z:Int):R aU:=bT (.ob .int z) (gH z)
def jx (a b:Int):Bool:=match a-b with | .ofNat _=>false| .negSucc _=>true
def Wm (a b:Int):Bool:=match a-b with | .ofNat n=>Nat.beq n 0| .negSucc _=>false
def s8 (x:UInt8) (n:Nat):UInt8:=UInt8.ofNat (x.toNat*2^n)
def Sb (x:UInt16) (n:Nat):UInt16:=UInt16.ofNat (x.toNat*2^n)
def r8 (x:UInt8) (n:Nat):UInt8:=UInt8.ofNat (x.toNat/2^n)
def Ws (x:UInt16) (n:Nat):UInt16:=UInt16.ofNat (x.toNat/2^n)
def Fz (op:BinOp) (a b:Int):R aU:=
 match op with
 | .add=>i5 (a+b)
 | .sub=>i5 (a-b)
 | .mul=>i5 (a*b)
 | .quo=>match jx a 0,jx 0 b with |false,true=>i5 (a/b)|_,_=> .fail
 | .rem=>match jx a 0,jx 0 b with |false,true=>i5 (a%b)|_,_=> .fail
 | .eql=>litB (Wm a b)
 | .neq=>litB (!Wm a b)
 | .lss=>litB (jx a b)
 | .gtr=>litB (jx b a)
 | .leq=>litB (!jx b a)
 | .geq=>litB (!jx a b)
 | .and=>match jx a 0,jx b 0,OD a,OD b with |false,false,true,true=>i5 (Int.ofNat (a.toNat&&&b.toNat))|_,_,_,_=> .fail
 | .or=>match jx a 0,jx b 0,OD a,OD b with |false,false,true,true=>i5 (Int.ofNat (a.toNat|||b.toNat))|_,_,_,_=> .fail
 | .shl=>match jx b 0,jx b 64 with |false,true=>i5 (a*((2^b.toNat:Nat):Int))|_,_=> .fail
 | .shr=>match jx b 0,jx b 64 with |false,true=>i5 (a/((2^b.toNat:Nat):Int))|_,_=> .fail
 |_=> .fail
def m8 (op:BinOp) (a b:Int):R aU:=
 match op with
 | .add=>symI (a+b)
 | .sub=>symI (a-b)
 | .mul=>symI (a*b)
 | .quo=>bT (.ob .int (a/b)) (gH a∧0≤a∧0<b)
 | .rem=>bT (.ob .int (a%b)) (0≤a∧0<b)
 | .eql=>symB (decide (a=b))
 | .neq=>symB (decide (a≠b))
 | .lss=>symB (decide (a<b))
 | .gtr=>symB (decide (b<a))
 | .leq=>symB (decide (a≤b))
 | .geq=>symB (decide (b≤a))
 | .and=>bT (.ob .int ((a.toNat&&&b.toNat:Nat):Int)) ((gH a∧0≤a)∧gH b∧0≤b)
 | .or=>bT (.ob .int ((a.toNat|||b.toNat:Nat):Int)) ((gH a∧0≤a)∧gH b∧0≤b)
 | .shl=>bT (.ob .int (a*((2^b.toNat:Nat):Int))) (0≤b∧b<64∧gH (a*((2^b.toNat:Nat):Int)))
 | .shr=>bT (.ob .int (a/((2^b.toNat:Nat):Int))) (0≤b∧b<64)
 |_=> .fail
def NW (op:BinOp) (a b:UInt8):R aU:=
 match op with
 | .add=>aA (.ob .u8 (a+b))| .sub=>aA (.ob .u8 (a-b))| .mul=>aA (.ob .u8 (a*b))
 | .and=>aA (.ob .u8 (a&&&b))| .or=>aA (.ob .u8 (a|||b))| .xor=>aA (.ob .u8 (a^^^b))| .andNot=>aA (.ob .u8 (a&&& ~~~b))
 | .quo=>bT (.ob .u8 (a/b)) (b≠0)| .rem=>bT (.ob .u8 (a%b)) (b≠0)
 | .eql=>symB (decide (a=b))| .neq=>symB (decide (a≠b))| .lss=>symB (decide (a<b))| .gtr=>symB (decide (b<a))| .leq=>symB (decide (a≤b))| .geq=>symB (decide (b≤a))
 |_=> .fail
def Dz (op:BinOp) (a b:UInt16):R aU:=
 match op with
 | .add=>aA (.ob .u16 (a+b))| .sub=>aA (.ob .u16 (a-b))| .mul=>aA (.ob .u16 (a*b))
 | .and=>aA (.ob .u16 (a&&&b))| .or=>aA (.ob .u16 (a|||b))| .xor=>aA (.ob .u16 (a^^^b))| .andNot=>aA (.ob .u16 (a&&& ~~~b))
 | .quo=>bT (.ob .u16 (a/b)) (b≠0)| .rem=>bT (.ob .u16 (a%b)) (b≠0)
 | .eql=>symB (decide (a=b))| .neq=>symB (decide (a≠b))| .lss=>symB (decide (a<b))| .gtr=>symB (decide (b<a))| .leq=>symB (decide (a≤b))| .geq=>symB (decide (b≤a))
 |_=> .fail
def DK (op:BinOp) (a b:UInt32):R aU:=
 match op with
 | .add=>aA (.ob .u32 (a+b))| .sub=>aA (.ob .u32 (a-b))| .mul=>aA (.ob .u32 (a*b))
 | .and=>aA (.ob .u32 (a&&&b))| .or=>aA (.ob .u32 (a|||b))| .xor=>aA (.ob .u32 (a^^^b))| .andNot=>aA (.ob .u32 (a&&& ~~~b))
 | .quo=>bT (.ob .u32 (a/b)) (b≠0)| .rem=>bT (.ob .u32 (a%b)) (b≠0)
 | .eql=>symB (decide (a=b))| .neq=>symB (decide (a≠b))| .lss=>symB (decide (a<b))| .gtr=>symB (decide (b<a))| .leq=>symB (decide (a≤b))| .geq=>symB (decide (b≤a))
 |_=> .fail
def Ey (op:BinOp) (a b:UInt64):R aU:=
 match op with
 | .add=>aA (.ob .u64 (a+b))| .sub=>aA (.ob .u64 (a-b))| .mul=>aA (.ob .u64 (a*b))
 | .and=>aA (.ob .u64 (a&&&b))| .or=>aA (.ob .u64 (a|||b))| .xor=>aA (.ob .u64 (a^^^b))| .andNot=>aA (.ob .u64 (a&&& ~~~b))
 | .quo=>bT (.ob .u64 (a/b)) (b≠0)| .rem=>bT (.ob .u64 (a%b)) (b≠0)
 | .eql=>symB (decide (a=b))| .neq=>symB (decide (a≠b))| .lss=>symB (decide (a<b))| .gtr=>symB (decide (b<a))| .leq=>symB (decide (a≤b))| .geq=>symB (decide (b≤a))
 |_=> .fail
def mK (left:Bool) (x:Nm) (n:Nat):R aU:=
 match x with
 | .u8 a=>match left with |true=>aA (.ob .u8 (s8 a n))|false=>aA (.ob .u8 (r8 a n))
 | .u16 a=>match left with |true=>aA (.ob .u16 (Sb a n))|false=>aA (.ob .u16 (Ws a n))
 | .u32 a=>match left with |true=>aA (.ob .u32 (Tv a n))|false=>aA (.ob .u32 (PO a n))
 | .u64 a=>match left with |true=>aA (.ob .u64 (kA a n))|false=>aA (.ob .u64 (iz a n))
 |_=> .fail
def Hy (r:R aU) (p:Prop):R aU:=match r with
 | .pure a=>match a with
  |⟨o,u,none,f⟩=> .pure ⟨o,u,some p,f⟩
  |_=> .fail
 |_=> .fail
def Om (op:BinOp) (x y:Nm):R aU:=
 match op with
 | .shl=>match x with
  | .lit a=>match y with
   | .lit b=>Fz .shl a b
   |y=>m8 .shl a y.toInt
  | .int a=>m8 .shl a y.toInt
  |x=>match y with
   | .lit b=>match jx b 0 with |false=>mK true x b.toNat|true=> .fail
   | .int b=>Hy (mK true x b.toNat) (0≤b)
   |y=>mK true x y.toInt.toNat
 | .shr=>match x with
  | .lit a=>match y with
   | .lit b=>Fz .shr a b
   |y=>m8 .shr a y.toInt
  | .int a=>m8 .shr a y.toInt
  |x=>match y with
   | .lit b=>match jx b 0 with |false=>mK false x b.toNat|true=> .fail
   | .int b=>Hy (mK false x b.toNat) (0≤b)
   |y=>mK false x y.toInt.toNat
 |op=>match x with
  | .lit a=>match y with
   | .lit b=>Fz op a b
   | .int b=>m8 op a b
   |_=> .fail
  | .int a=>match y with
   | .lit b=>m8 op a b
   | .int b=>m8 op a b
   |_=> .fail
  | .u8 a=>match y with | .u8 b=>NW op a b|_=> .fail
  | .u16 a=>match y with | .u16 b=>Dz op a b|_=> .fail
  | .u32 a=>match y with | .u32 b=>DK op a b|_=> .fail
  | .u64 a=>match y with | .u64 b=>Ey op a b|_=> .fail
def Qk (ti:TI) (op:BinOp) (x y:AV):R aU:=
 match hZ x with
 |some n=>match hZ y with
  |some m=>Om op n m
  |none=> .fail
 |none=>match x with
  | .one (.ob .bool a)=>match y,ti with
   | .one (.ob .bool b),.k .bool=>match op with
    | .eql=>symB (a ==b)
    | .neq=>symB (a != b)
    |_=> .fail
   | .one (.cv (.bool b)),.k .bool=>match op with
    | .eql=>symB (a ==b)
    | .neq=>symB (a != b)
    |_=> .fail
   |_,_=> .fail
  | .one (.ob .str a)=>match y with
   | .one (.ob .str b)=>match op with
    | .eql=>symB (a.toList ==b.toList)
    | .neq=>symB (!(a.toList ==b.toList))
    |_=> .fail
   |_=> .fail
  | .one (.ptr _ _)=>match y,ti with
   | .one (.cv (.pointer none)),.ptr=>match op with
    | .eql=>aA (.cv (.bool false))
    | .neq=>aA (.cv (.bool true))
    |_=> .fail
   |_,_=> .fail
  | .one (.cv (.pointer none))=>match y,ti with
   | .one (.cv (.pointer none)),.ptr=>match op with
    | .eql=>aA (.cv (.bool true))
    | .neq=>aA (.cv (.bool false))
    |_=> .fail
   |_,_=> .fail
  |_=> .fail
def Ta (op:UnOp) (x:AV):R aU:=
 match op with
 | .not=>match x with
  | .one (.cv (.bool b))=>litB (!b)
  | .one (.ob .bool b)=>symB (!b)
  |_=> .fail
 | .neg=>match hZ x with
  |some (.lit a)=>i5 (0-a)
  |some (.int a)=>symI (0-a)
  |some (.u64 a)=>aA (.ob .u64 (0-a))
  |some (.u32 a)=>aA (.ob .u32 (0-a))
  |_=> .fail
 | .xor=>match hZ x with
  |some (.u8 a)=>aA (.ob .u8 (~~~a))
  |some (.u16 a)=>aA (.ob .u16 (~~~a))
  |some (.u32 a)=>aA (.ob .u32 (~~~a))
  |some (.u64 a)=>aA (.ob .u64 (~~~a))
  |_=> .fail
 |_=> .fail
def Mc (k:Kd) (x:Nm):R aU:=
 match k with
 | .u8=>match x with
  | .lit z=>bT (.ob .u8 (UInt8.ofNat z.toNat)) (0≤z)| .int z=>bT (.ob .u8 (UInt8.ofNat z.toNat)) (0≤z)
  | .u8 a=>aA (.ob .u8 a)| .u16 a=>aA (.ob .u8 a.toUInt8)| .u32 a=>aA (.ob .u8 a.toUInt8)| .u64 a=>aA (.ob .u8 a.toUInt8)
 | .u16=>match x with
  | .lit z=>bT (.ob .u16 (UInt16.ofNat z.toNat)) (0≤z)| .int z=>bT (.ob .u16 (UInt16.ofNat z.toNat)) (0≤z)
  | .u8 a=>aA (.ob .u16 a.toUInt16)| .u16 a=>aA (.ob .u16 a)| .u32 a=>aA (.ob .u16 a.toUInt16)| .u64 a=>aA (.ob .u16 a.toUInt16)
 | .u32=>match x with
  | .lit z=>bT (.ob .u32 (UInt32.ofNat z.toNat)) (0≤z)| .int z=>bT (.ob .u32 (UInt32.ofNat z.toNat)) (0≤z)
  | .u8 a=>aA (.ob .u32 a.toUInt32)| .u16 a=>aA (.ob .u32 a.toUInt32)| .u32 a=>aA (.ob .u32 a)| .u64 a=>aA (.ob .u32 a.toUInt32)
 | .u64=>match x with
  | .lit z=>bT (.ob .u64 (UInt64.ofNat z.toNat)) (0≤z)| .int z=>bT (.ob .u64 (UInt64.ofNat z.toNat)) (0≤z)
  | .u8 a=>aA (.ob .u64 a.toUInt64)| .u16 a=>aA (.ob .u64 a.toUInt64)| .u32 a=>aA (.ob .u64 a.toUInt64)| .u64 a=>aA (.ob .u64 a)
 | .int=>match x with
  | .lit z=>i5 z| .int z=>symI z
  | .u8 a=>aA (.ob .int (a.toNat:Int))| .u16 a=>aA (.ob .int (a.toNat:Int))| .u32 a=>aA (.ob .int (a.toNat:Int))
  | .u64 a=>bT (.ob .int (a.toNat:Int)) (a.toNat<9223372036854775808)
 |_=> .fail
def kn {α:Type} (ty:Nat→TE) (t:Nat) (r:R α):R α:=match (ty t).ti with | .oth=> .fail|_=>r
def Ot (x:AV) (lit:Nat→R aU) (sym:Int→R aU):R aU:=
 match hZ x with
 |some (.lit z)=>match z with
  | .ofNat n=>lit n
  | .negSucc _=> .fail
 |some (.int z)=>sym z
 |some y=>sym y.toInt
 |none=> .fail
def jM (ty:Nat→TE) (t:Nat) (x i:AV):R aU:=
 match x with
 | .one (.ptr b o)=>match (ty t).ti with
  | .arr n e=>kn ty e (Ot i (fun k=>match Nat.blt k n with |true=>aA (.ptr b (o+k*(ty e).size))|false=> .fail)
    (fun z=>match Nat.beq (ty e).size 1 with |true=>bT (.pix b o z.toNat) (0≤z∧z<n)|false=> .fail))
  |_=> .fail
 | .one (.sl b o n _)=>match (ty t).ti with
  | .sl e=>kn ty e (Ot i (fun k=>match Nat.blt k n with |true=>aA (.ptr b (o+k*(ty e).size))|false=> .fail)
    (fun z=>match Nat.beq (ty e).size 1 with |true=>bT (.pix b o z.toNat) (0≤z∧z<n)|false=> .fail))
  |_=> .fail
 | .one (.rw b)=>match (ty t).ti with
  | .sl e=>kn ty e (match Nat.beq (ty e).size 1 with
   |true=> .hp b fun c=>match c with
    |some (.row _ _ l)=>Ot i (fun k=>bT (.pix b 0 k) (k<l.length)) (fun z=>bT (.pix b 0 z.toNat) (0≤z∧z<l.length))
    |_=> .fail
   |false=> .fail)
  |_=> .fail
 | .one (.sub b lo n)=>match (ty t).ti with
  | .sl e=>kn ty e (match Nat.beq (ty e).size 1 with
   |true=>Ot i (fun k=>bT (.pix b 0 (lo+k)) (k<n)) (fun z=>bT (.pix b 0 (lo+z.toNat)) (0≤z∧z<n))
   |false=> .fail)
  |_=> .fail
 | .one (.ro k l)=>match (ty t).ti with
  | .sl e=>kn ty e (match Nat.beq (ty e).size k.n with
   |true=>Ot i (fun j=>bT (.pro k (l.getD j k.df)) (j<l.length)) (fun z=>bT (.pro k (l.getD z.toNat k.df)) (0≤z∧z<l.length))
   |false=> .fail)
  |_=> .fail
 | .one (.bb l)=>match (ty t).ti with
  | .sl e=>kn ty e (match Nat.beq (ty e).size 1 with
   |true=>Ot i (fun j=>bT (.pbb (l.getD j [])) (j<l.length)) (fun z=>bT (.pbb (l.getD z.toNat [])) (0≤z∧z<l.length))
   |false=> .fail)
  |_=> .fail
 |_=> .fail
def nN:List Cl→Bool
 | []=>true
 |x::r=>match x with | .un=>false|_=>nN r
def yj (agg:Bool) (l:List Cl):R aU:=
 match agg with
 |true=> .pure ⟨[.agg l],[],none,none⟩
 |false=>match l with
  | [x]=>match Nat.beq x.n 1 with |true=>aA x|false=> .fail
  |_=> .fail
def pT (ty:Nat→TE) (t:Nat) (a:AV):R aU:=kn ty t<|
 match a with
 | .one (.ptr b o)=> .hp b fun c=>match c with
  |some (.blk _ l)=>match (ty t).isAgg with
   |true=>match fX l o with
    |some r=>match iS r (ty t).size with
     |some q=>yj true q
     |none=> .fail
    |none=> .fail
   |false=>match oY l o with
    |some x=>aA x
    |none=> .fail
  |_=> .fail
 | .one (.pix b o i)=> .hp b fun c=>match c with
  |some (.blk _ l)=>match Ae l o with
   |some (.vec k n l)=>match k.sc,(ty t).isAgg with |true,false=>bT (.ob k (l.getD i k.df)) (i<n)|_,_=> .fail
   |_=> .fail
  |some (.row _ k l)=>match k.sc,Nat.beq o 0,(ty t).isAgg with |true,true,false=>bT (.ob k (l.getD i k.df)) (i<l.length)|_,_,_=> .fail
  |none=> .fail
 | .one (.pro k x)=>match k.sc,(ty t).isAgg with |true,false=>aA (.ob k x)|_,_=> .fail
 | .one (.pbb l)=>match (ty t).isAgg with |false=>aA (.ro .u8 l)|true=> .fail
 |_=> .fail
def fK (v:AV):List Cl:=match v with | .one x=> [x]| .agg l=>l
def Ho (b:Nat) (c:Ch) (p:Option Prop):R aU:= .pure ⟨[],[(b,some c)],p,none⟩
def oL (k:Kd) (l:List k.T) (i:Nat) (x:Cl):Option (List k.T):=
 match k,l,x with
 | .u8,l,.ob .u8 z=>some (l.set i z)
 | .u16,l,.ob .u16 z=>some (l.set i z)
 | .u32,l,.ob .u32 z=>some (l.set i z)
 | .u64,l,.ob .u64 z=>some (l.set i z)
 | .int,l,.ob .int z=>some (l.set i z)
 | .int,l,.cv (.int .i64 z)=>some (l.set i z)
 | .bool,l,.ob .bool z=>some (l.set i z)
 | .bool,l,.cv (.bool z)=>some (l.set i z)
 |_,_,_=>none
def ub (ty:Nat→TE) (t:Nat) (a v:AV):R aU:=kn ty t<|
 match a with
 | .one (.ptr b o)=> .hp b fun c=>match c with
  |some (.blk E l)=>match (ty t).isAgg with
   |true=>match v with
    | .agg q=>match sE l o (ty t).size q with
     |some l=>Ho b (.blk E l) none
     |none=> .fail
    |_=> .fail
   |false=>match v,Nat.beq (ty t).size 1 with
    | .one x,true=>match nN [x] with
     |true=>match eO l o x with
      |some l=>Ho b (.blk E l) none
      |none=> .fail
     |false=> .fail
    |_,_=> .fail
  |_=> .fail
 | .one (.pix b o i)=> .hp b fun c=>match c with
  |some (.blk E l)=>match Ae l o,v with
   |some (.vec k n q),.one x=>match Nat.beq (ty t).size 1 with
    |true=>match oL k q i x with
     |some q=>match yo l o (.vec k n q) with
      |some l=>Ho b (.blk E l) (some (i<n))
      |none=> .fail
     |none=> .fail
    |false=> .fail
   |_,_=> .fail
  |some (.row E k l)=>match v with
   | .one x=>match Nat.beq (ty t).size 1,Nat.beq o 0 with
    |true,true=>match oL k l i x with
     |some q=>Ho b (.row E k q) (some (i<l.length))
     |none=> .fail
    |_,_=> .fail
   |_=> .fail
  |none=> .fail
 |_=> .fail
def vk (nb:Nat) (x:Cl) (c:Ch) (p:Option Prop):R aU:= .hp nb fun q=>match q with
 |none=> .pure ⟨[.one x],[(nb,some c)],p,none⟩
 |some _=> .fail
def lj (pl:Nat→Option (Nat×Nat)):List Cl→List (Nat×AV)→Option (List Cl)
 |l,[]=>some l
 |l,(i,v)::r=>match pl i with
  |some (off,sz)=>match nN (fK v) with
   |true=>match sE l off sz (fK v) with
    |some l=>lj pl l r
    |none=>none
   |false=>none
  |none=>none
def JZ:Nat→List Cl
 |0=> []
 |n+1=> .any::JZ n
def WC (ty:Nat→TE):List (Nat×Nat)→R aU→R aU
 | [],r=>r
 |(_,t)::l,r=>kn ty t (WC ty l r)
def SV (ty:Nat→TE) (fs:List (Nat×Nat)) (i:Nat):Option (Nat×Nat):=match fs[i]? with |some (o,t)=>some (o,(ty t).size)|none=>none
def qU (k:Kd):List Cl→Option (List k.T)
 | []=>some []
 |x::r=>match qU k r with
  |none=>none
  |some l=>match k,l,x with
   | .u8,l,.ob .u8 z=>some (z::l)
   | .u16,l,.ob .u16 z=>some (z::l)
   | .u32,l,.ob .u32 z=>some (z::l)
   | .u64,l,.ob .u64 z=>some (z::l)
   | .int,l,.ob .int z=>some (z::l)
   | .int,l,.cv (.int .i64 z)=>some (z::l)
   | .bool,l,.ob .bool z=>some (z::l)
   | .bool,l,.cv (.bool z)=>some (z::l)
   | .str,l,.ob .str z=>some (z::l)
   |_,_,_=>none
def pz (e:TE):Option Kd:=match e.ti with | .k k=>some k|_=>none
def vX (ty:Nat→TE) (t:Nat) (ps:List (Nat×AV)):R aU:=kn ty t<|
 match (ty t).ti with
 | .st fs=>WC ty fs (match lj (SV ty fs) (ty t).zero ps with
  |some l=>match nN l with |true=> .pure ⟨[.agg l],[],none,none⟩|false=> .fail
  |none=> .fail)
 | .arr _ e=>kn ty e (match lj (fun i=>some (i*(ty e).size,(ty e).size)) (match ps with | []=>(ty t).zero|_=>JZ (uH (ty t).zero)) ps with
  |some l=>match nN l with
   |true=>match pz (ty e) with
    |some k=>match qU k l with
     |some m=> .pure ⟨[.agg [.vec k m.length m]],[],none,none⟩
     |none=> .pure ⟨[.agg l],[],none,none⟩
    |none=> .pure ⟨[.agg l],[],none,none⟩
   |false=> .fail
  |none=> .fail)
 |_=> .fail
def AU {α:Type}:List (Nat×Operand)→(List (Nat×AV)→R α)→R α
 | [],k=>k []
 |(i,x)::r,k=>eK x fun a=>AU r fun l=>k ((i,a)::l)
def AG {α:Type}:List Operand→(List AV→R α)→R α
 | [],k=>k []
 |x::r,k=>eK x fun a=>AG r fun l=>k (a::l)
def Cv {α:Type} (x:Option Operand) (k:Option AV→R α):R α:=
 match x with
 |none=>k none
 |some x=>eK x fun a=>k (some a)
def iD (ty:Nat→TE) (nb t len:Nat) (ps:List (Nat×AV)):R aU:=
 match (ty t).ti with
 | .sl e=>kn ty e (match Nat.beq len 0 with
  |true=>match ps,pz (ty e) with
   | [],some k=>vk nb (.rw nb) (.row e k []) none
   |_,_=> .fail
  |false=>match lj (fun i=>some (i*(ty e).size,(ty e).size)) (JZ (len*(ty e).size)) ps,Nat.ble (len*(ty e).size) 65536,Nat.ble 1 (len*(ty e).size) with
  |some l,true,true=>match pz (ty e) with
   |some k=>match qU k l with
    |some m=>vk nb (.rw nb) (.row e k m) none
    |none=> .fail
   |none=>match nN l with |true=>vk nb (.sl nb 0 len len) (.blk e l) none|false=> .fail
  |_,_,_=> .fail)
 |_=> .fail
def jl (ty:Nat→TE) (nb t:Nat) (n c:AV):R aU:=
 match (ty t).ti,hZ n,hZ c with
 | .sl e,some n,some c=>match pz (ty e) with
  |some k=>match Nat.beq k.n 1 with
   |true=>vk nb (.rw nb) (.row e k (List.replicate n.toInt.toNat k.df)) (some (0≤n.toInt∧n.toInt=c.toInt∧c.toInt≤16777216))
   |false=> .fail
  |none=> .fail
 |_,_,_=> .fail
def O_ (x:Option AV) (k:Option Nm→R aU):R aU:=
 match x with
 |none=>k none
 |some a=>match hZ a with
  |some n=>k (some n)
  |none=> .fail
def mf:Option Nm→Nat|none=>0|some n=>n.toInt.toNat
def DC (x:Option Nm) (hi:Nat):Prop:=match x with |none=>True|some n=>0≤n.toInt∧n.toInt≤(hi:Int)
def vM (ty:Nat→TE) (t:Nat) (x:AV) (lo hi mx:Option AV):R aU:=
 O_ lo fun lo=>O_ hi fun hi=>
 match x with
 | .one (.ptr b o)=>match (ty t).ti with
  | .arr n e=>kn ty e (match lo,hi,mx with
   |none,none,none=>aA (.sl b o n n)
   |some (.lit (.ofNat l)),none,none=>match Nat.blt l n,Nat.beq (ty e).size 1 with
    |true,true=>aA (.sl b (o+l) (n-l) (n-l))
    |_,_=> .fail
   |_,_,_=> .fail)
  |_=> .fail
 | .one (.rw b)=>match (ty t).ti with
  | .sl e=>kn ty e (match Nat.beq (ty e).size 1 with
   |true=> .hp b fun c=>match c with
    |some (.row _ k l)=>match Nat.beq k.n 1 with
     |true=>match hi with
      |none=>match mx with
       |none=>bT (.sub b (mf lo) (l.length-mf lo)) (DC lo l.length)
       |some _=> .fail
      |some h=>match mx with
       |none=>bT (.sub b (mf lo) (h.toInt.toNat-mf lo)) (DC (some h) l.length∧DC lo h.toInt.toNat)
       |some _=> .fail
     |false=> .fail
    |_=> .fail
   |false=> .fail)
  |_=> .fail
 | .one (.sub b s n)=>match (ty t).ti with
  | .sl e=>kn ty e (match Nat.beq (ty e).size 1 with
   |true=>match hi with
    |none=>match mx with
     |none=>bT (.sub b (s+mf lo) (n-mf lo)) (DC lo n)
     |some _=> .fail
    |some h=>match mx with
     |none=>bT (.sub b (s+mf lo) (h.toInt.toNat-mf lo)) (DC (some h) n∧DC lo h.toInt.toNat)
     |some _=> .fail
   |false=> .fail)
  |_=> .fail
 | .one (.ro k l)=>match (ty t).ti with
  | .sl e=>kn ty e (match Nat.beq (ty e).size k.n with
   |true=>match hi with
    |none=>match mx with
     |none=>bT (.ro k (l.drop (mf lo))) (DC lo l.length)
     |some _=> .fail
    |some h=>match mx with
     |none=>bT (.ro k ((l.take h.toInt.toNat).drop (mf lo))) (DC (some h) l.length∧DC lo h.toInt.toNat)
     |some _=> .fail
   |false=> .fail)
  |_=> .fail
 |_=> .fail
def q6 (a:AV) (k:AV→R aU):R aU:=
 match a with
 | .one (.cv (.slice none 0 0))=>k (.one (.ro .u8 []))
 | .one (.rv _ l)=>k (.one (.ro .u8 l))
 | .one (.rw b)=> .hp b fun c=>match c with
  |some (.row _ q l)=>k (.one (.ro q l))
  |_=> .fail
 | .one (.sub b lo n)=> .hp b fun c=>match c with
  |some (.row _ q l)=>match Nat.beq q.n 1 with
   |true=>k (.one (.ro q ((l.drop lo).take n)))
   |false=> .fail
  |_=> .fail
 | .one (.sl b o n cp)=> .hp b fun c=>match c with
  |some (.blk _ l)=>match Ae l o with
   |some (.vec q m l)=>match Nat.beq n m,Nat.ble cp 16777216 with |true,true=>k (.one (.ro q l))|_,_=> .fail
   |_=>match l with
    | [.vec q m l]=>match Nat.beq q.n 1,Nat.ble (o+n) m,Nat.ble cp 16777216 with
     |true,true,true=>k (.one (.ro q ((l.drop o).take n)))
     |_,_,_=> .fail
    |_=> .fail
  |_=> .fail
 |a=>k a
def J5 (ty:Nat→TE) (t:Nat) (x:AV):R aU:=
 match (ty t).ti with
 | .sl _=>match x with
  | .one (.sl _ _ n _)=>aA (.cv (.int .i64 (.ofNat n)))
  | .one (.cv (.slice none 0 0))=>aA (.cv (.int .i64 (.ofNat 0)))
  | .one (.rw b)=> .hp b fun c=>match c with
   |some (.row _ _ l)=> .pure ⟨[.one (.ob .int (l.length:Int))],[],none,some (l.length≤maxLen)⟩
   |_=> .fail
  | .one (.sub _ _ n)=> .pure ⟨[.one (.ob .int (n:Int))],[],none,some (n≤maxLen)⟩
  | .one (.ro _ l)=> .pure ⟨[.one (.ob .int (l.length:Int))],[],none,some (l.length≤maxLen)⟩
  | .one (.bb l)=> .pure ⟨[.one (.ob .int (l.length:Int))],[],none,some (l.length≤maxLen)⟩
  | .one (.ln _ n)=> .pure ⟨[.one (.ob .int (n:Int))],[],none,some (n≤maxLen)⟩
  |_=> .fail
 | .k .str=>match x with
  | .one (.ob .str s)=>aA (.ob .int (s.size:Int))
  |_=> .fail
 | .arr n _=>aA (.cv (.int .i64 (.ofNat n)))
 |_=> .fail
def NB (k q:Kd) (l:List k.T) (m:List q.T):Option (List k.T):=
 match k,q,l,m with
 | .u8,.u8,l,m=>some (l++m)
 | .u16,.u16,l,m=>some (l++m)
 | .u32,.u32,l,m=>some (l++m)
 | .u64,.u64,l,m=>some (l++m)
 | .int,.int,l,m=>some (l++m)
 | .bool,.bool,l,m=>some (l++m)
 |_,_,_,_=>none
def qr (ty:Nat→TE) (nb t:Nat) (s x:AV):R aU:=
 match (ty t).ti with
 | .sl e=>kn ty e (match Nat.beq (ty e).size 1 with
  |false=> .fail
  |true=>match pz (ty e) with
  |none=> .fail
  |some k=>q6 x fun x=>match x with
   | .one (.ro q m)=>match s with
    | .one (.cv (.slice none 0 0))=>match NB k q [] m with
     |some l=> .hp nb fun c=>match c with
      |none=> .pure ⟨[.one (.rw nb)],[(nb,some (.row e k l))],some (l.length≤16777216),none⟩
      |some _=> .fail
     |none=> .fail
    | .one (.rw b)=> .hp b fun c=>match c with
     |some (.row f p l)=>match Nat.beq e f,NB p q l m with
      |true,some r=> .hp nb fun c=>match c with
       |none=> .pure ⟨[.one (.rw nb)],[(b,none),(nb,some (.row e p r))],some (r.length≤16777216),none⟩
       |some _=> .fail
      |_,_=> .fail
     |_=> .fail
    |_=> .fail
   |_=> .fail)
 |_=> .fail
def SP (nb e b n:Nat) (z:Option Int):R aU:= .hp b fun c=>match c with
 |some (.row f .u8 l)=>match Nat.beq e f with
  |true=> .hp nb fun c=>match c with
   |none=>match l++List.replicate n (0:UInt8) with
    |r=> .pure ⟨[.one (.rw nb)],[(b,none),(nb,some (.row e .u8 r))],(match z with |none=>some (r.length≤16777216)|some z=>some (0≤z∧r.length≤16777216)),none⟩
   |some _=> .fail
  |false=> .fail
 |_=> .fail
def zI (ty:Nat→TE) (nb t u:Nat) (s x:AV):R aU:=
 match (ty t).ti,(ty u).ti with
 | .sl e,.k .int=>kn ty e (match Nat.beq (ty e).size 1 with
  |false=> .fail
  |true=>match pz (ty e),x,s with
   |some .u8,.one (.cv (.int .i64 (.ofNat n))),.one (.rw b)=>SP nb e b n none
   |some .u8,.one (.ob .int z),.one (.rw b)=>SP nb e b z.toNat (some z)
   |_,_,_=> .fail)
 |_,_=> .fail
def xO (k q:Kd) (m:List q.T):Option (List k.T):=
 match k,q,m with
 | .u8,.u8,m=>some m
 | .u16,.u16,m=>some m
 | .u32,.u32,m=>some m
 | .u64,.u64,m=>some m
 | .int,.int,m=>some m
 | .bool,.bool,m=>some m
 |_,_,_=>none
def B3 (ty:Nat→TE) (t:Nat) (d x:AV):R aU:=
 match (ty t).ti with
 | .sl e=>kn ty e (match Nat.beq (ty e).size 1 with
  |false=> .fail
  |true=>q6 x fun x=>match x with
   | .one (.ro q m)=>match d with
    | .one (.rw b)=> .hp b fun c=>match c with
     |some (.row f p l)=>match xO p q m with
      |some m=> .pure ⟨[.one (.ob .int ((min l.length m.length:Nat):Int))],[(b,some (.row f p (m.take l.length++l.drop m.length)))],none,none⟩
      |none=> .fail
     |_=> .fail
    | .one (.sub b lo n)=> .hp b fun c=>match c with
     |some (.row f p l)=>match xO p q m with
      |some m=> .pure ⟨[.one (.ob .int ((min n m.length:Nat):Int))],[(b,some (.row f p (l.take lo++m.take n++l.drop (lo+min n m.length))))],none,none⟩
      |none=> .fail
     |_=> .fail
    | .one (.sl b lo n _)=> .hp b fun c=>match c with
     |some (.blk E l)=>match l with
      | [.vec p N l]=>match xO p q m,Nat.ble (lo+n) N with
       |some m,true=> .pure ⟨[.one (.ob .int ((min n m.length:Nat):Int))],[(b,some (.blk E [.vec p N (l.take lo++m.take n++l.drop (lo+min n m.length))]))],none,none⟩
       |_,_=> .fail
      |_=> .fail
     |_=> .fail
    |_=> .fail
   |_=> .fail)
 |_=> .fail
def m7 (ty:Nat→TE) (nb:Nat) (b:Builtin) (ts:Array TypeId) (l:List AV):R aU:=
 match b,l with
 | .len,[x]=>match ts.toList with
  | [t]=>J5 ty t x
  |_=> .fail
 | .append,[s,x]=>match ts.toList with
  | [t,u]=>match Nat.beq t u with |true=>qr ty nb t s x|false=>zI ty nb t u s x
  |_=> .fail
 | .copy,[d,x]=>match ts.toList with
  | [t,u]=>match Nat.beq t u with |true=>B3 ty t d x|false=> .fail
  |_=> .fail
 | .min,[x,y]=>match hZ x,hZ y with
  |some (.lit a),some (.lit b)=>i5 (match jx b a with |true=>b|false=>a)
  |some (.int a),some b=>aA (.ob .int (min a b.toInt))
  |some (.lit a),some (.int b)=>aA (.ob .int (min a b))
  |_,_=> .fail
 | .max,[x,y]=>match hZ x,hZ y with
  |some (.lit a),some (.lit b)=>i5 (match jx b a with |true=>a|false=>b)
  |some (.int a),some b=>aA (.ob .int (max a b.toInt))
  |some (.lit a),some (.int b)=>aA (.ob .int (max a b))
  |_,_=> .fail
 |_,_=> .fail
def uu (ty:Nat→TE) (t:Nat) (a i:AV):R aU:=
 match a with
 | .agg l=>match (ty t).ti with
  | .arr n e=>kn ty e (Ot i (fun j=>match Nat.blt j n with
   |true=>match (ty e).isAgg with
    |true=>match fX l (j*(ty e).size) with
     |some r=>match iS r (ty e).size with
      |some q=> .pure ⟨[.agg q],[],none,none⟩
      |none=> .fail
     |none=> .fail
    |false=>match oY l (j*(ty e).size) with
     |some x=>aA x
     |none=> .fail
   |false=> .fail) (fun z=>match l with
    | [.vec k m q]=>match k.sc,(ty e).isAgg,Nat.beq (ty e).size 1,Nat.beq m n with
     |true,false,true,true=>bT (.ob k (q.getD z.toNat k.df)) (0≤z∧z<n)
     |_,_,_,_=> .fail
    |_=> .fail))
  |_=> .fail
 |_=> .fail
def Ym (op:BinOp) (x y:F):R aU:=match op with
 | .eql=>symB (decide (x=y))
 | .neq=>symB (!decide (x=y))
 |_=> .fail
def Bf (ti:TI) (t:Nat) (op:BinOp) (x y:AV):R aU:=match x with
 | .agg l=>match y with
  | .agg m=>match Nat.beq t 143,l,m with
   |true,[.ob (.x 1) x],[.ob (.x 1) y]=>Ym op x y
   |_,_,_=> .fail
  |_=> .fail
 |x=>Qk ti op x y
def BE (ty:Nat→TE) (s d:Nat) (a:AV):R aU:=match (ty s).ti with
 | .k _=>match (ty d).ti with
  | .k k=>match hZ a with
   |some n=>Mc k n
   |none=> .fail
  |_=> .fail
 | .sl _=>match Nat.beq s 30 with
  |true=>match Nat.beq d 9 with
   |true=>q6 a fun x=>match x with
    | .one (.ro .u8 l)=>aA (.ob .str (bs l))
    |_=> .fail
   |false=>match Nat.beq d 30,a with
    |true,.one (.rw b)=> .hp b fun c=>match c with
     |some (.row _ .u8 (x::l))=> .pure ⟨[.one (.ro .u8 (x::l))],[(b,none)],none,none⟩
     |_=> .fail
    |_,_=> .fail
  |false=> .fail
 |_=> .fail
def Ao (t:Nat) (m x:AV):R aU:=match Nat.beq t 66 with
 |true=>match m with
  | .one (.mp _ f)=>match hZ x with
   |some (.int z)=>bT (.ob .int (f z)) (gH z)
   |some (.lit z)=>bT (.ob .int (f z)) (gH z)
   |_=> .fail
  |_=> .fail
 |false=> .fail
abbrev CF:Type:=Nat→List AV→R aU
def pm (ty:Nat→TE) (ct:Nat→Option CF) (nb:Nat) (op:Op):R aU:=
 match op with
 | .move x=>match x with
  | .tmp t=> .slot t fun l=>match l with
   | []=> .fail
   |a::r=> .pure ⟨a::r,[],none,none⟩
  |x=>eK x fun a=> .pure ⟨[a],[],none,none⟩
 | .assign x=>eK x fun a=> .pure ⟨[a],[],none,none⟩
 | .pick c a b=>eK c fun c=>match c with
  | .one (.cv (.bool true))=>eK a fun a=> .pure ⟨[a],[],none,none⟩
  | .one (.cv (.bool false))=>eK b fun b=> .pure ⟨[b],[],none,none⟩
  |_=> .fail
 | .alloc e=>kn ty e (vk nb (.ptr nb 0) (.blk e (ty e).zero) none)
 | .box e v=>eK v fun a=>match nN (fK a) with |true=>vk nb (.ptr nb 0) (.blk e (fK a)) none|false=> .fail
 | .build t ps=>AU ps.toList fun l=>vX ty t l
 | .buildSlice t len ps=>AU ps.toList fun l=>iD ty nb t len l
 | .load t a=>eK a fun a=>pT ty t a
 | .store t a v=>eK a fun a=>eK v fun v=>ub ty t a v
 | .nilCheck x=>eK x fun a=>match a with
  | .one (.ptr b o)=>aA (.ptr b o)
  |_=> .fail
 | .binOp op t x y _=>eK x fun a=>eK y fun b=>Bf (ty t).ti t op a b
 | .unOp op _ x=>eK x fun a=>Ta op a
 | .convert s d x=>eK x fun a=>BE ty s d a
 | .makeSlice t n c=>eK n fun n=>eK c fun c=>jl ty nb t n c
 | .slice t x lo hi mx=>eK x fun a=>Cv lo fun lo=>Cv hi fun hi=>Cv mx fun mx=>vM ty t a lo hi mx
 | .fieldAddr t x f=>eK x fun a=>match a,(ty t).ti with
  | .one (.ptr b o),.st fs=>kn ty t (match fs[f]? with
   |some (off,u)=>kn ty u (match Nat.blt 0 (ty u).size with |true=>aA (.ptr b (o+off))|false=> .fail)
   |none=> .fail)
  |_,_=> .fail
 | .field t x f=>eK x fun a=>match a,(ty t).ti with
  | .agg l,.st fs=>match fs[f]? with
   |some (off,u)=>kn ty u (match fX l off with
    |some r=>match iS r (ty u).size with
     |some q=>yj (ty u).isAgg q
     |none=> .fail
    |none=> .fail)
   |none=> .fail
  |_,_=> .fail
 | .lookup t m x c=>match c with
  |false=>eK m fun m=>eK x fun x=>Ao t m x
  |true=> .fail
 | .indexAddr t x i=>eK x fun a=>eK i fun i=>jM ty t a i
 | .index t x i=>eK x fun a=>eK i fun i=>uu ty t a i
 | .extract x i=>match x with
  | .tmp t=> .slot t fun l=>match l with
   |_::_::_=>(match l[i]? with
    |some a=> .pure ⟨[a],[],none,none⟩
    |none=> .fail)
   |_=> .fail
  |_=> .fail
 | .call c=>match c.callee with
  | .builtin b=>AG c.args.toList fun l=>m7 ty nb b c.argTypes l
  | .value (.func f)=>match ct f with
   |some C=>AG c.args.toList fun l=>C nb l
   |none=> .fail
  |_=> .fail
 |_=> .fail
structure AS where
 sl:List (Nat×Nat×List AV)
 hp:List (Nat×Nat×Ch)
 nx:Nat
def bY:List (Nat×Nat×List AV)→Nat→List AV
 | [],_=> []
 |(t,_,a)::r,u=>match Nat.beq t u with |true=>a|false=>bY r u
def aF:List (Nat×Nat×Ch)→Nat→Option Ch
 | [],_=>none
 |(t,_,a)::r,u=>match Nat.beq t u with |true=>some a|false=>aF r u
def E5 {α:Type} (t v:Nat) (a:List AV):List (Nat×Nat×List AV)→(List (Nat×Nat×List AV)→α)→α
 | [],k=>k [(t,v,a)]
 |(u,w,b)::r,k=>match Nat.beq u t with
  |true=>k ((t,v,a)::r)
  |false=>E5 t v a r fun r=>k ((u,w,b)::r)
def zj {α:Type} (t:Nat):List (Nat×Nat×Ch)→(List (Nat×Nat×Ch)→α)→α
 | [],k=>k []
 |(u,w,b)::r,k=>match Nat.beq u t with
  |true=>zj t r k
  |false=>zj t r fun r=>k ((u,w,b)::r)
def ym {α:Type} (t v:Nat) (a:Ch):List (Nat×Nat×Ch)→(List (Nat×Nat×Ch)→α)→α
 | [],k=>k [(t,v,a)]
 |(u,w,b)::r,k=>match Nat.beq u t with
  |true=>k ((t,v,a)::r)
  |false=>ym t v a r fun r=>k ((u,w,b)::r)
def wc {α:Type} (v:Nat):List (Nat×Option Ch)→List (Nat×Nat×Ch)→(List (Nat×Nat×Ch)→α)→α
 | [],l,k=>k l
 |(b,c)::r,l,k=>match c with
  |some c=>ym b v c l fun l=>wc v r l k
  |none=>zj b l fun l=>wc v r l k
structure fJ where
 dst:Option Nat
 out:List AV
 upd:List (Nat×Option Ch)
 pre:Option Prop
 fact:Option Prop
 rd:List dZ
 qs:List (Bool×Bool)
inductive Fi where
 |ok (rs:List fJ) (S:AS)
 |need (i:Nat) (p:Bool)
 |fail
def Fi.cons (r:fJ):Fi→Fi
 | .ok rs S=> .ok (r::rs) S
 | .need i p=> .need i p
 | .fail=> .fail
def iR (i:Nat):List (Nat×Bool)→List Bool
 | []=> []
 |(j,b)::r=>match Nat.beq i j with |true=>b::iR i r|false=>iR i r
def uU (i:Nat) (ops:List Oper):Bool:=match ops with
 | []=>false
 |o::r=>match o.guard with
  |some (j,_)=>match Nat.beq i j with |true=>true|false=>uU i r
  |none=>uU i r
def jr (g:Bool) (r:R aU):R aU:=
 match g with
 |false=>r
 |true=>go r
where go:R aU→R aU
 | .pure a=>match a with
  |⟨[.one (.ob .bool p)],u,q,f⟩=> .dec p fun v=> .pure ⟨[.one (.cv (.bool v))],u,q,f⟩
  |a=> .pure a
 | .fail=> .fail
 | .slot t k=> .slot t fun l=>go (k l)
 | .hp b k=> .hp b fun c=>go (k c)
 | .dec p k=> .dec p fun v=>go (k v)
def DH (all:List Oper) (g:Option (Nat×Bool)) (r:R aU):R aU:=
 match g with
 |none=>r
 |some (j,want)=>match all[j]? with
  |some o=>match o.dst with
   |some t=> .slot t fun l=>match l with
    | [.one (.cv (.bool b))]=>match b,want with
     |true,true=>r
     |false,false=>r
     |_,_=>aA .un
    | [.one .un]=>aA .un
    |_=> .fail
   |none=> .fail
  |none=> .fail
def iJ {α:Type} (n:Nat) (k:Nat→α):α:=match n with |0=>k 0|m+1=>k (m+1)
def iK (ty:Nat→TE) (ct:Nat→Option CF) (all:List Oper) (i:Nat) (g:Option (Nat×Bool)) (op:Op) (nx:Nat):R aU:=DH all g (jr (uU i all) (pm ty ct nx op))
def dR (ty:Nat→TE) (ct:Nat→Option CF) (all:List Oper) (ds:List (Nat×Bool)):Nat→List Oper→List (Nat×Nat×List AV)→List (Nat×Nat×Ch)→Nat→Fi
 |_,[],sl,hp,nx=> .ok [] ⟨sl,hp,nx⟩
 |i,o::r,sl,hp,nx=>match o with
  |⟨dst,op,_,_,_,g⟩=>
  match (iK ty ct all i g op nx).run (bY sl) (aF hp) (iR i ds) with
  | .ok ⟨out,upd,pre,fact⟩ rd qs=>wc nx upd hp fun hp=>match dst with
   |some t=>E5 t nx out sl fun sl=>iJ (nx+16) fun nx=>(dR ty ct all ds (i+1) r sl hp nx).cons ⟨dst,out,upd,pre,fact,rd,qs⟩
   |none=>iJ (nx+16) fun nx=>(dR ty ct all ds (i+1) r sl hp nx).cons ⟨dst,out,upd,pre,fact,rd,qs⟩
  | .need p=> .need i p
  | .fail=> .fail
def O3:List (Bool×Bool)→Prop→Prop
 | [],k=>k
 |(p,v)::r,k=>p=v∧O3 r k
def yO:List fJ→Prop→Prop
 | [],k=>k
 |r::l,k=>O3 r.qs (yO l k)
def E3:List fJ→Prop→Prop
 | [],k=>k
 |r::l,k=>match r.pre with
  |none=>E3 l k
  |some p=>p∧E3 l k
def sV:List fJ→Prop→Prop
 | [],k=>k
 |r::l,k=>match r.fact with
  |none=>sV l k
  |some p=>p→sV l k
def xJ:dZ→dZ→Bool
 | .s a,.s b=>Nat.beq a b
 | .h a,.h b=>Nat.beq a b
 |_,_=>false
def Ki (x:dZ):List dZ→Bool
 | []=>false
 |y::r=>match xJ x y with |true=>true|false=>Ki x r
def pq:List dZ→List dZ→Bool
 | [],_=>false
 |x::r,l=>match Ki x l with |true=>true|false=>pq r l
def fJ.wr (r:fJ):List dZ:=(match r.dst with |some t=> [.s t]|none=> [])++r.upd.map fun p=>dZ.h p.1
def FT (ops:List Oper):List Nat:=go ops []
where go:List Oper→List Nat→List Nat
 | [],acc=>acc
 |o::r,acc=>go r (acc++ [o.after.toList.foldl (fun s e=>match Region.binds .any e with |true=>s|||2^e.on|||acc.getD e.on 0|false=>s) 0])
def rr (a b:fJ):Bool:=match pq a.wr (b.rd++b.wr) with
 |true=>true
 |false=>pq a.rd b.wr
def kI (an:List Nat) (r:fJ) (i:Nat):Nat→List fJ→Bool
 |_,[]=>true
 |j,q::l=>match rr r q with
  |true=>match Nat.testBit (an.getD j 0) i with
   |true=>kI an r i (j+1) l
   |false=>false
  |false=>kI an r i (j+1) l
def jD (an:List Nat):Nat→List fJ→Bool
 |_,[]=>true
 |i,r::l=>match kI an r i (i+1) l with
  |true=>jD an (i+1) l
  |false=>false
def xC:Value→Option Nat
 | .pointer (some a)=>some a.block
 | .slice (some a) _ _=>some a.block
 |_=>none
abbrev bx:Type:=Nat→Option Value
def bu (η:bx) (b:Nat):Option Nat:=(η b).bind xC
def dU (A:Nat→Prop) (w:World) (k:Kd) (l:List k.T) (v:Value):Prop:=
 ∃a c,v= .slice a l.length c∧l.length≤c∧c≤maxLen∧(a=none→c=0)∧(0<l.length→∃g o cs,a=some ⟨g,o,none⟩∧A g∧bj k.rp l cs∧w.rangeAt g o cs)
def xF (A:Nat→Prop) (w:World) (f:Int→Int) (v:Value):Prop:=
 ∃g m D,v= .map (some g)∧A g∧w.ownsMap (H:=Value) Tryz.prog 3 (plainElem Tryz.prog 3) g m D∧∀k,gH k→D.atKey (.int .i64 k) (.lit (.int .i64 0))= .lit (.int .i64 (f k))
def Cl.H (η:bx) (A:Nat→Prop) (w:World):Cl→List Value→Prop
 | .any,cs=>∃v,cs= [v]∧v.oneCell'=true
 | .un,cs=>cs= [undef]
 | .cv v,cs=>cs= [v]∧v.oneCell'=true
 | .ob k x,cs=>k.rp.rep x cs
 | .vec k n l,cs=>l.length=n∧bj k.rp l cs
 | .ptr b q,cs=>∃g,η b=some (.pointer (some ⟨g,0,none⟩))∧cs= [.pointer (some ⟨g,q,none⟩)]
 | .pix b q i,cs=>∃g,bu η b=some g∧cs= [.pointer (some ⟨g,q+i,none⟩)]
 | .pro k x,cs=>∃g o us,cs= [.pointer (some ⟨g,o,none⟩)]∧A g∧k.rp.rep x us∧w.rangeAt g o us
 | .sl b q n c,cs=>n≤c∧∃g,η b=some (.pointer (some ⟨g,0,none⟩))∧cs= [.slice (some ⟨g,q,none⟩) n c]
 | .rw b,cs=>∃v,η b=some v∧cs= [v]∧v.oneCell'=true
 | .sub b lo n,cs=>∃v a c,η b=some v∧cs= [.slice a n c]∧n≤c∧c≤maxLen∧(a=none→c=0)∧(0<n→∃g N C,v= .slice (some ⟨g,0,none⟩) N C∧a=some ⟨g,lo,none⟩∧lo+n≤N)
 | .ro k l,cs=>∃v,cs= [v]∧dU A w k l v
 | .bb l,cs=>∃a c,cs= [.slice a l.length c]∧l.length≤c∧c≤maxLen∧(a=none→c=0)∧(0<l.length→∃g o us,a=some ⟨g,o,none⟩∧A g∧w.rangeAt g o us∧us.length=l.length∧∀i (h:i<l.length) (h':i<us.length),dU A w .u8 l[i] us[i])
 | .pbb l,cs=>∃g o v,cs= [.pointer (some ⟨g,o,none⟩)]∧A g∧w.cell? ⟨g,o,none⟩=some v∧dU A w .u8 l v
 | .ln v n,cs=>cs= [v]∧(∃a c,v= .slice a n c)∧n≤maxLen
 | .mp v f,cs=>cs= [v]∧xF A w f v
 | .rv v l,cs=>cs= [v]∧dU A w .u8 l v
def aK (η:bx) (A:Nat→Prop) (w:World):List Cl→List Value→Prop
 | [],cs=>cs= []
 |x::r,cs=>∃h t,cs=h++t∧x.H η A w h∧aK η A w r t
def AV.H (η:bx) (A:Nat→Prop) (w:World):AV→Value→Prop
 | .one x,v=>x.H η A w [v]
 | .agg l,v=>∃cs:List Value,v= .agg cs.toArray∧aK η A w l cs∧∀v∈cs,v.oneCell'=true
def bQ (η:bx) (A:Nat→Prop) (w:World):List AV→List Value→Prop
 | [],vs=>vs= []
 |x::r,vs=>∃v t,vs=v::t∧x.H η A w v∧bQ η A w r t
def bz (η:bx) (A:Nat→Prop) (w:World):List AV→Value→Prop
 | [],_=>True
 | [x],v=>x.H η A w v
 |l,v=>∃vs:List Value,v= .tuple vs.toArray∧bQ η A w l vs
def Ch.H (η:bx) (A:Nat→Prop) (w:World) (b:Nat):Ch→Prop
 | .blk E l=>∃g cs,η b=some (.pointer (some ⟨g,0,none⟩))∧aj w g cs E∧aK η A w l cs∧(∀v∈cs,v.oneCell'=true)
 | .row E k l=>∃v cs,η b=some v∧bj k.rp l cs∧w.ownsRow 0 E k.n v l.length cs
def ay (H:Nat→Option Ch) (η:bx) (g:Nat):Prop:=∀b,H b≠none→bu η b≠some g
structure Fw (H:Nat→Option Ch) (η:bx) (w:World) (H':Nat→Option Ch) (η':bx) (w':World):Prop where
 os:w'.os=w.os
 tape:w'.tape=w.tape
 output:w'.output=w.output
 size:w.heap.size≤w'.heap.size
 env:∀b v,η b=some v→η' b=some v
 anon:∀g,g<w.heap.size→ay H η g→w'.heap[g]?=w.heap[g]?∧ay H' η' g
theorem Fw.refl (H:Nat→Option Ch) (η:bx) (w:World):Fw H η w H η w:=⟨rfl,rfl,rfl,Nat.le_refl _,fun _ _ h=>h,fun _ _ h=>⟨rfl,h⟩⟩
theorem Fw.drew (H:Nat→Option Ch) (η:bx) (w:World):Fw H η w H η w.drew:=⟨rfl,rfl,rfl,Nat.le_refl _,fun _ _ h=>h,fun _ _ h=>⟨rfl,h⟩⟩
theorem Fw.trans {H1 H2 H3:Nat→Option Ch} {η1 η2 η3:bx} {w1 w2 w3:World} (h:Fw H1 η1 w1 H2 η2 w2) (k:Fw H2 η2 w2 H3 η3 w3):Fw H1 η1 w1 H3 η3 w3:=
 ⟨k.os.trans h.os,k.tape.trans h.tape,k.output.trans h.output,Nat.le_trans h.size k.size,fun b v e=>k.env b v (h.env b v e),fun g hg ha=>by
  obtain ⟨h1,h2⟩:=h.anon g hg ha
  obtain ⟨k1,k2⟩:=k.anon g (Nat.lt_of_lt_of_le hg h.size) h2
  exact ⟨k1.trans h1,k2⟩⟩
structure Lt (η:bx) (A:Nat→Prop) (w:World) (η':bx) (A':Nat→Prop) (w':World):Prop where
 env:∀b v,η b=some v→η' b=some v
 anon:∀g,g<w.heap.size→A g→w'.heap[g]?=w.heap[g]?∧A' g
theorem Fw.lt {H H':Nat→Option Ch} {η η':bx} {w w':World} (h:Fw H η w H' η' w'):Lt η (ay H η) w η' (ay H' η') w':=⟨h.env,h.anon⟩
theorem jv {w:World} {g o:Nat} {cs:List Value} (h:w.rangeAt g o cs) (hn:0<cs.length):g<w.heap.size:=by
 have:=h 0 cs[0] (List.getElem?_eq_getElem hn)
 exact dS this
theorem ii {w w':World} {g o:Nat} {cs:List Value} (h:w.rangeAt g o cs) (e:w'.heap[g]?=w.heap[g]?):w'.rangeAt g o cs:=fun j v hv=>by
 rw [World.cell?_of_block (w:=w) e];exact h j v hv
theorem OV {η η':bx} (h:∀b v,η b=some v→η' b=some v) {b g:Nat} (hb:bu η b=some g):bu η' b=some g:=by
 unfold bu at*
 cases e:η b with
 |none=>rw [e] at hb;cases hb
 |some v=>rw [h b v e];rw [e] at hb;exact hb
theorem dU.later {η η':bx} {A A':Nat→Prop} {w w':World} (hl:Lt η A w η' A' w') {k:Kd} {l:List k.T} {v:Value} (h:dU A w k l v):dU A' w' k l v:=by
 obtain ⟨a,c,h1,h2,h3,h4,h5⟩:=h
 refine ⟨a,c,h1,h2,h3,h4,fun hn=> ?_⟩
 obtain ⟨g,o,cs,e,hA,hc,hr⟩:=h5 hn
 have hlen:0<cs.length:=by rw [hc.len];exact Nat.mul_pos k.rp.pos hn
 obtain ⟨e1,e2⟩:=hl.anon g (jv hr hlen) hA
 exact ⟨g,o,cs,e,e2,hc,ii hr e1⟩
theorem xF.later {A A':Nat→Prop} {w w':World} (hl:∀g,g<w.heap.size→A g→w'.heap[g]?=w.heap[g]?∧A' g) {f:Int→Int} {v:Value} (h:xF A w f v):xF A' w' f v:=by
 obtain ⟨g,m,D,h1,h2,ho,h4⟩:=h
 have hlt:=ho.lt
 obtain ⟨e1,e2⟩:=hl g hlt h2
 obtain ⟨es,clock,hb,F,hs,hD⟩:=ho
 exact ⟨g,m,D,h1,e2,⟨es,clock,e1.trans hb,F,hs,hD⟩,h4⟩
theorem xF.mono {A A':Nat→Prop} {w:World} (hA:∀g,A g→A' g) {f:Int→Int} {v:Value} (h:xF A w f v):xF A' w f v:=h.later fun g _ a=>⟨rfl,hA g a⟩
theorem Cl.H.later {η η':bx} {A A':Nat→Prop} {w w':World} (hl:Lt η A w η' A' w'):∀ {x:Cl} {cs:List Value},x.H η A w cs→x.H η' A' w' cs
 | .any,_,h=>h
 | .un,_,h=>h
 | .cv _,_,h=>h
 | .ob _ _,_,h=>h
 | .vec _ _ _,_,h=>h
 | .ptr _ _,_,⟨g,h1,h2⟩=>⟨g,hl.env _ _ h1,h2⟩
 | .pix _ _ _,_,⟨g,h1,h2⟩=>⟨g,OV hl.env h1,h2⟩
 | .pro k _,_,⟨g,q,us,h1,h2,h3,h4⟩=>by
  have hlen:0<us.length:=by rw [k.rp.len _ _ h3];exact k.rp.pos
  obtain ⟨e1,e2⟩:=hl.anon g (jv h4 hlen) h2
  exact ⟨g,q,us,h1,e2,h3,ii h4 e1⟩
 | .sl _ _ _ _,_,⟨hn,g,h1,h2⟩=>⟨hn,g,hl.env _ _ h1,h2⟩
 | .rw _,_,⟨v,h1,h2⟩=>⟨v,hl.env _ _ h1,h2⟩
 | .sub _ _ _,_,⟨v,a,c,h1,h2⟩=>⟨v,a,c,hl.env _ _ h1,h2⟩
 | .ro _ _,_,⟨v,h1,h2⟩=>⟨v,h1,h2.later hl⟩
 | .bb l,_,⟨a,c,h1,h2,h3,h4,h5⟩=>by
  refine ⟨a,c,h1,h2,h3,h4,fun hn=> ?_⟩
  obtain ⟨g,q,us,e,hA,hr,hlen,hall⟩:=h5 hn
  obtain ⟨e1,e2⟩:=hl.anon g (jv hr (by omega)) hA
  exact ⟨g,q,us,e,e2,ii hr e1,hlen,fun i hi hi'=>(hall i hi hi').later hl⟩
 | .pbb _,_,⟨g,q,v,h1,h2,h3,h4⟩=>by
  obtain ⟨e1,e2⟩:=hl.anon g (dS h3) h2
  exact ⟨g,q,v,h1,e2,by rw [World.cell?_of_block (w:=w) e1];exact h3,h4.later hl⟩
 | .ln _ _,_,h=>h
 | .mp _ _,_,⟨h1,h2⟩=>⟨h1,h2.later hl.anon⟩
 | .rv _ _,_,⟨h1,h2⟩=>⟨h1,h2.later hl⟩
theorem aK.later {η η':bx} {A A':Nat→Prop} {w w':World} (hl:Lt η A w η' A' w'):∀ {l:List Cl} {cs:List Value},aK η A w l cs→aK η' A' w' l cs
 | [],_,h=>h
 |_::_,_,⟨h,t,e,hx,hr⟩=>⟨h,t,e,hx.later hl,hr.later hl⟩
theorem AV.H.later {η η':bx} {A A':Nat→Prop} {w w':World} (hl:Lt η A w η' A' w'):∀ {x:AV} {v:Value},x.H η A w v→x.H η' A' w' v
 | .one _,_,h=>Cl.H.later hl h
 | .agg _,_,⟨cs,e,h,h1⟩=>⟨cs,e,h.later hl,h1⟩
theorem bQ.later {η η':bx} {A A':Nat→Prop} {w w':World} (hl:Lt η A w η' A' w'):∀ {l:List AV} {vs:List Value},bQ η A w l vs→bQ η' A' w' l vs
 | [],_,h=>h
 |_::_,_,⟨v,t,e,hx,hr⟩=>⟨v,t,e,hx.later hl,hr.later hl⟩
theorem bz.later {η η':bx} {A A':Nat→Prop} {w w':World} (hl:Lt η A w η' A' w'):∀ {l:List AV} {v:Value},bz η A w l v→bz η' A' w' l v
 | [],_,_=>trivial
 | [_],_,h=>AV.H.later hl h
 |_::_::_,_,⟨vs,e,h⟩=>⟨vs,e,h.later hl⟩
theorem Ch.H.later {η η':bx} {A A':Nat→Prop} {w w':World} (hl:Lt η A w η' A' w') {b:Nat} {c:Ch} (h:c.H η A w b) (hb:∀g,bu η b=some g→w'.heap[g]?=w.heap[g]?):c.H η' A' w' b:=by
 cases c with
 |blk E l=>
  obtain ⟨g,cs,h1,h2,h3,h4⟩:=h
  exact ⟨g,cs,hl.env _ _ h1,by have:=hb g (by unfold bu;rw [h1];rfl);unfold aj at *;rw [this];exact h2,h3.later hl,h4⟩
 |row E k l=>
  obtain ⟨v,cs,h1,h2,h3⟩:=h
  refine ⟨v,cs,hl.env _ _ h1,h2,h3.1,?_⟩
  rcases h3.2 with h4|⟨g,cap,cur,e,h4,h5,h6⟩
  ·exact .inl h4
  ·exact .inr ⟨g,cap,cur,e,h4,by rw [hb g (by unfold bu;rw [h1,e];rfl)];exact h5,h6⟩
structure gR (S:Nat→List AV) (H:Nat→Option Ch) (N:Nat) (η:bx) (a:Act) (w:World):Prop where
 df:a.defers= []
 sz:a.tmps.size=N
 slot:∀t,bz η (ay H η) w (S t) (a.tmps.getD t undef)
 chunk:∀b c,H b=some c→c.H η (ay H η) w b
 apart:∀b b' g,b≠b'→H b≠none→H b'≠none→bu η b=some g→bu η b'≠some g
theorem R.run_same {α:Type} {sl sl':Nat→List AV} {hp hp':Nat→Option Ch}:∀(m:R α) (ds:List Bool) {a:α} {rd:List dZ} {qs:List (Bool×Bool)},
  m.run sl hp ds= .ok a rd qs→(∀t,.s t∈rd→sl' t=sl t)→(∀b,.h b∈rd→hp' b=hp b)→m.run sl' hp' ds= .ok a rd qs
 | .pure _,_,_,_,_,h,_,_=>h
 | .fail,_,_,_,_,h,_,_=>h
 | .slot t k,ds,a,rd,qs,h,hs,hh=>by
  unfold R.run at h ⊢
  cases e:(k (sl t)).run sl hp ds with
  |ok a' r' q'=>
   rw [e] at h
   simp only [RR.rd,RR.ok.injEq] at h
   obtain ⟨rfl,rfl,rfl⟩:=h
   have h1:=hs t (by simp)
   rw [h1,R.run_same (k (sl t)) ds e (fun t ht=>hs t (by simp [ht])) (fun b hb=>hh b (by simp [hb]))]
   rfl
  |need p=>rw [e] at h;cases h
  |fail=>rw [e] at h;cases h
 | .hp b k,ds,a,rd,qs,h,hs,hh=>by
  unfold R.run at h ⊢
  cases e:(k (hp b)).run sl hp ds with
  |ok a' r' q'=>
   rw [e] at h
   simp only [RR.rd,RR.ok.injEq] at h
   obtain ⟨rfl,rfl,rfl⟩:=h
   have h1:=hh b (by simp)
   rw [h1,R.run_same (k (hp b)) ds e (fun t ht=>hs t (by simp [ht])) (fun b hb=>hh b (by simp [hb]))]
   rfl
  |need p=>rw [e] at h;cases h
  |fail=>rw [e] at h;cases h
 | .dec p k,d::ds,a,rd,qs,h,hs,hh=>by
  unfold R.run at h ⊢
  cases e:(k d).run sl hp ds with
  |ok a' r' q'=>
   rw [e] at h
   simp only [RR.asm,RR.ok.injEq] at h
   obtain ⟨rfl,rfl,rfl⟩:=h
   rw [R.run_same (k d) ds e hs hh]
   rfl
  |need p=>rw [e] at h;cases h
  |fail=>rw [e] at h;cases h
 | .dec p k,[],_,_,_,h,_,_=>by unfold R.run at h;cases h
structure FS where
 s:Nat→List AV
 h:Nat→Option Ch
def bF:List (Nat×Option Ch)→(Nat→Option Ch)→Nat→Option Ch
 | [],h=>h
 |(b,c)::r,h=>bF r fun x=>if x=b then c else h x
def fJ.app (r:fJ) (F:FS):FS:=⟨fun t=>if r.dst=some t then r.out else F.s t,bF r.upd F.h⟩
def FS.At (F G:FS):dZ→Prop
 | .s t=>F.s t=G.s t
 | .h b=>F.h b=G.h b
theorem zt:∀(u:List (Nat×Option Ch)) (h:Nat→Option Ch) (b:Nat),(∀p∈u,p.1≠b)→bF u h b=h b
 | [],_,_,_=>rfl
 |(c,v)::r,h,b,hn=>by
  have hc:b≠c:=fun e=>hn (c,v) (by simp) e.symm
  rw [bF,zt r _ b fun p hp=>hn p (by simp [hp]),if_neg hc]
theorem kO:∀(u:List (Nat×Option Ch)) (h h':Nat→Option Ch) (b:Nat),h b=h' b→bF u h b=bF u h' b
 | [],_,_,_,e=>e
 |(c,v)::r,h,h',b,e=>by
  rw [bF,bF]
  apply kO
  split<;>simp_all
theorem D3:∀(u:List (Nat×Option Ch)) (h h':Nat→Option Ch) (b:Nat),(∃p∈u,p.1=b)→bF u h b=bF u h' b
 | [],_,_,_,⟨_,h,_⟩=>by cases h
 |(c,v)::r,h,h',b,hp=>by
  rw [bF,bF]
  by_cases e:b=c
  ·apply kO;simp [e]
  ·refine D3 r _ _ b ?_
   obtain ⟨p,hp,rfl⟩:=hp
   rcases List.mem_cons.1 hp with rfl|hp
   ·exact absurd rfl e
   ·exact ⟨p,hp,rfl⟩
theorem xl {r:fJ} {t:Nat}: .s t∈r.wr↔r.dst=some t:=by
 unfold fJ.wr
 cases r.dst<;>simp [eq_comm]
theorem xL {r:fJ} {b:Nat}: .h b∈r.wr↔∃p∈r.upd,p.1=b:=by
 unfold fJ.wr
 cases r.dst<;>simp
theorem uj {r:fJ} {F:FS} {x:dZ} (h:x ∉ r.wr):(r.app F).At F x:=by
 cases x with
 |s t=>rw [xl] at h;simp [FS.At,fJ.app,h]
 |h b=>rw [xL] at h;exact zt _ _ _ fun p hp e=>h ⟨p,hp,e⟩
theorem JD {r:fJ} {F G:FS} {x:dZ} (h:x∈r.wr):(r.app F).At (r.app G) x:=by
 cases x with
 |s t=>rw [xl] at h;simp [FS.At,fJ.app,h]
 |h b=>rw [xL] at h;exact D3 _ _ _ _ h
theorem Fh {r:fJ} {F G:FS} {x:dZ} (h:F.At G x):(r.app F).At (r.app G) x:=by
 cases x with
 |s t=>simp only [FS.At,fJ.app] at *;split<;>simp_all
 |h b=>exact kO _ _ _ _ h
theorem FS.At.symm {F G:FS} {x:dZ} (h:F.At G x):G.At F x:=by cases x<;>exact Eq.symm h
theorem FS.At.trans {F G K:FS} {x:dZ} (h:F.At G x) (k:G.At K x):F.At K x:=by cases x<;>exact Eq.trans h k
theorem FS.At.refl (F:FS) (x:dZ):F.At F x:=by cases x<;>rfl
theorem FS.ext_at {F G:FS} (h:∀x,F.At G x):F=G:=by
 cases F;cases G
 congr 1
 ·funext t;exact h (.s t)
 ·funext b;exact h (.h b)
def oQ:List fJ→Nat→(Nat→Bool)→FS→FS
 | [],_,_,F=>F
 |r::rs,i,L,F=>oQ rs (i+1) L (if L i=true then r.app F else F)
theorem ug (x:dZ):∀(rs:List fJ) (i:Nat) (L L':Nat→Bool) (F G:FS),F.At G x→(∀k r,rs[k]?=some r→x∈r.wr→L (i+k)=L' (i+k))→(oQ rs i L F).At (oQ rs i L' G) x
 | [],_,_,_,_,_,h,_=>h
 |r::rs,i,L,L',F,G,h,hw=>by
  rw [oQ,oQ]
  refine ug x rs (i+1) L L' _ _ ?_ fun k r' hk hx=>by
   have:=hw (k+1) r' (by simpa using hk) hx
   rw [show i+(k+1)=i+1+k by omega] at this;exact this
  by_cases hx:x∈r.wr
  ·have:=hw 0 r (by simp) hx
   rw [Nat.add_zero] at this
   rw [this]
   split
   ·exact JD hx
   ·exact h
  ·split<;>split
   ·exact Fh h
   ·exact (uj hx).trans h
   ·exact h.trans (uj hx).symm
   ·exact h
theorem DF:∀(rs:List fJ) (i:Nat) (L:Nat→Bool) (F:FS),(∀k,k<rs.length→L (i+k)=true)→oQ rs i L F=rs.foldl (fun F r=>r.app F) F
 | [],_,_,_,_=>rfl
 |r::rs,i,L,F,h=>by
  have h0:=h 0 (by simp)
  rw [Nat.add_zero] at h0
  rw [oQ,if_pos h0,List.foldl_cons]
  exact DF rs (i+1) L _ fun k hk=>by
   have:=h (k+1) (by simp;omega)
   rw [show i+(k+1)=i+1+k by omega] at this;exact this
theorem pB:∀(rs:List fJ) (i:Nat) (L:Nat→Bool) (F:FS),(∀k,k<rs.length→L (i+k)=false)→oQ rs i L F=F
 | [],_,_,_,_=>rfl
 |r::rs,i,L,F,h=>by
  have h0:=h 0 (by simp)
  rw [Nat.add_zero] at h0
  rw [oQ,if_neg (by rw [h0];simp)]
  exact pB rs (i+1) L _ fun k hk=>by
   have:=h (k+1) (by simp;omega)
   rw [show i+(k+1)=i+1+k by omega] at this;exact this
theorem Bd:∀(rs:List fJ) (i j:Nat) (F:FS),oQ rs i (fun x=>decide (x<i+j)) F=(rs.take j).foldl (fun F r=>r.app F) F
 | [],_,j,_=>by simp [oQ]
 |r::rs,i,0,F=>by
  rw [List.take_zero,List.foldl_nil]
  exact pB _ _ _ _ fun k _=>by simp
 |r::rs,i,j+1,F=>by
  rw [oQ,if_pos (by simp),List.take_succ_cons,List.foldl_cons]
  have:=Bd rs (i+1) j (r.app F)
  rw [show i+1+j=i+(j+1) by omega] at this
  exact this
theorem Ku {x y:dZ} (h:xJ x y=true):x=y:=by
 cases x<;>cases y<;>simp_all [xJ]
theorem Af (x:dZ):xJ x x=true:=by cases x<;>simp [xJ]
theorem qf (x:dZ):∀l:List dZ,Ki x l=true↔x∈l
 | []=>by simp [Ki]
 |y::r=>by
  unfold Ki
  split
  ·rename_i h;simp [Ku h]
  ·rename_i h
   rw [qf x r,List.mem_cons]
   refine ⟨.inr,?_⟩
   rintro (rfl|h1)
   ·rw [Af] at h;cases h
   ·exact h1
theorem mC:∀l m:List dZ,pq l m=true↔∃x∈l,x∈m
 | [],m=>by simp [pq]
 |x::r,m=>by
  unfold pq
  split
  ·rename_i h;rw [qf] at h;simp [h]
  ·rename_i h
   rw [mC r m]
   have hx:x ∉ m:=by rw [←qf];simp [h]
   simp [hx]
theorem th (a b:fJ):rr a b=true↔(∃x∈a.wr,x∈b.rd∨x∈b.wr)∨∃x∈a.rd,x∈b.wr:=by
 unfold rr
 split
 ·rename_i h;rw [mC] at h;simpa using .inl (by simpa using h)
 ·rename_i h
  have h':¬pq a.wr (b.rd++b.wr)=true:=by simp [h]
  rw [mC] at h' ⊢
  constructor
  ·exact .inr
  ·rintro (⟨x,h1,h2⟩|h1)
   ·exact absurd ⟨x,h1,by simpa using h2⟩ h'
   ·exact h1
theorem nE {an:List Nat} {r:fJ} {i:Nat}:∀ {l:List fJ} {j:Nat},kI an r i j l=true→∀k q,l[k]?=some q→rr r q=true→Nat.testBit (an.getD (j+k) 0) i=true
 | [],_,_,k,q,hk,_=>by simp at hk
 |q0::l,j,h,k,q,hk,hc=>by
  unfold kI at h
  cases k with
  |zero=>
   simp at hk;subst hk
   rw [hc] at h
   simp only at h
   cases e:Nat.testBit (an.getD j 0) i with
   |true=>rfl
   |false=>rw [e] at h;cases h
  |succ k=>
   have h2:kI an r i (j+1) l=true:=by
    cases e:rr r q0 with
    |false=>rw [e] at h;exact h
    |true=>
     rw [e] at h
     simp only at h
     cases e2:Nat.testBit (an.getD j 0) i with
     |true=>rw [e2] at h;exact h
     |false=>rw [e2] at h;cases h
   have:=nE h2 k q (by simpa using hk) hc
   rw [show j+(k+1)=j+1+k by omega];exact this
theorem kr {an:List Nat}:∀ {l:List fJ} {i:Nat},jD an i l=true→∀k m r q,k<m→l[k]?=some r→l[m]?=some q→rr r q=true→Nat.testBit (an.getD (i+m) 0) (i+k)=true
 | [],_,_,k,m,r,q,_,hk,_,_=>by simp at hk
 |r0::l,i,h,k,m,r,q,hlt,hk,hm,hc=>by
  unfold jD at h
  cases e:kI an r0 i (i+1) l with
  |false=>rw [e] at h;cases h
  |true=>
   rw [e] at h
   obtain ⟨m,rfl⟩:∃m',m=m'+1:=⟨m-1,by omega⟩
   cases k with
   |zero=>
    simp at hk;subst hk
    have:=nE e m q (by simpa using hm) hc
    rw [show i+(m+1)=i+1+m by omega,Nat.add_zero];exact this
   |succ k=>
    have:=kr h k m r q (by omega) (by simpa using hk) (by simpa using hm) hc
    rw [show i+(m+1)=i+1+m by omega,show i+(k+1)=i+1+k by omega];exact this
theorem zn (acc:List Nat) (i:Nat):∀(l:List Edge) (s:Nat),Nat.testBit (l.foldl (fun s e=>match Region.binds .any e with |true=>s|||2^e.on|||acc.getD e.on 0|false=>s) s) i=true→
  Nat.testBit s i=true∨∃e∈l,Region.binds .any e=true∧(e.on=i∨Nat.testBit (acc.getD e.on 0) i=true)
 | [],_,h=> .inl h
 |e::l,s,h=>by
  rw [List.foldl_cons] at h
  rcases zn acc i l _ h with h1|⟨e',h1,h2⟩
  ·cases hb:Region.binds .any e with
   |false=>rw [hb] at h1;exact .inl h1
   |true=>
    rw [hb] at h1
    simp only [Nat.testBit_or,Bool.or_eq_true,Nat.testBit_two_pow,decide_eq_true_eq] at h1
    rcases h1 with (h1|h1)|h1
    ·exact .inl h1
    ·exact .inr ⟨e,by simp,hb,.inl h1⟩
    ·exact .inr ⟨e,by simp,hb,.inr h1⟩
  ·exact .inr ⟨e',by simp [h1],h2⟩
theorem Du {L:Nat→Bool}:∀(r:List Oper) (all:List Oper) (acc:List Nat),all.drop acc.length=r→acc.length≤all.length→
  (∀j i,j<acc.length→Nat.testBit (acc.getD j 0) i=true→∃o,all[j]?=some o∧((∀e∈o.after,Region.binds .any e=true→L e.on=true)→(∀k d o',L k=true→all[k]?=some o'→(∃e∈o'.after,Region.binds .any e=true∧e.on=d)→L d=true)→L i=true))→
  ∀j i,Nat.testBit ((FT.go r acc).getD j 0) i=true→∃o,all[j]?=some o∧((∀e∈o.after,Region.binds .any e=true→L e.on=true)→(∀k d o',L k=true→all[k]?=some o'→(∃e∈o'.after,Region.binds .any e=true∧e.on=d)→L d=true)→L i=true)
 | [],all,acc,hr,hl,h,j,i,hb=>by
  rw [FT.go] at hb
  by_cases hj:j<acc.length
  ·exact h j i hj hb
  ·rw [List.getD_eq_getElem?_getD,List.getElem?_eq_none (by omega)] at hb;simp at hb
 |o::r,all,acc,hr,hl,h,j,i,hb=>by
  rw [FT.go] at hb
  have ho:all[acc.length]?=some o:=by
   have:(all.drop acc.length)[0]?=some o:=by rw [hr];rfl
   simpa using this
  have hlt:acc.length<all.length:=(List.getElem?_eq_some_iff.1 ho).1
  refine Du r all _ (by rw [List.length_append,List.length_singleton,←List.drop_drop,hr];rfl) (by simp;omega) ?_ j i hb
  intro j i hj hb
  by_cases hj2:j<acc.length
  ·rw [List.getD_eq_getElem?_getD,List.getElem?_append_left hj2,←List.getD_eq_getElem?_getD] at hb
   exact h j i hj2 hb
  ·obtain rfl:j=acc.length:=by simp at hj;omega
   rw [List.getD_eq_getElem?_getD,List.getElem?_append_right (Nat.le_refl _),Nat.sub_self] at hb
   refine ⟨o,ho,fun h1 h2=> ?_⟩
   rcases zn acc i _ _ hb with hb|⟨e,he,hbd,hb⟩
   ·simp at hb
   ·have he':e∈o.after:=by simpa using he
    have hL:=h1 e he' hbd
    rcases hb with rfl|hb
    ·exact hL
    ·have hlt2:e.on<acc.length:=by
      rcases Nat.lt_or_ge e.on acc.length with h3|h3
      ·exact h3
      ·rw [List.getD_eq_getElem?_getD,List.getElem?_eq_none h3] at hb;simp at hb
     obtain ⟨o',ho',h3⟩:=h e.on i hlt2 hb
     exact h3 (fun e' he' hb'=>h2 e.on e'.on o' hL ho' ⟨e',he',hb',rfl⟩) h2
theorem sf {L:Nat→Bool} {ops:List Oper} (hcl:∀k d o',L k=true→ops[k]?=some o'→(∃e∈o'.after,Region.binds .any e=true∧e.on=d)→L d=true) {j i:Nat} {o:Oper} (ho:ops[j]?=some o)
  (hd:∀e∈o.after,Region.binds .any e=true→L e.on=true) (hb:Nat.testBit ((FT ops).getD j 0) i=true):L i=true:=by
 obtain ⟨o',ho',h⟩:=Du (L:=L) ops ops [] (by simp) (by simp) (fun j i hj=>by simp at hj) j i hb
 rw [ho] at ho'
 cases ho'
 exact h hd hcl
theorem ck {α:Type} (n:Nat) (k:Nat→α):iJ n k=k n:=by cases n<;>rfl
theorem jW (t v:Nat) (a:List AV):∀l:List (Nat×Nat×List AV),∃l',(∀ {α:Type} (k:List (Nat×Nat×List AV)→α),E5 t v a l k=k l')∧bY l'=fun u=>if some t=some u then a else bY l u
 | []=>⟨[(t,v,a)],fun _=>rfl,by
  funext u;simp only [bY]
  cases e:Nat.beq t u with
  |true=>have e:=Nat.eq_of_beq_eq_true e;first |(simp [e];done)|(simp;omega)
  |false=>have e:=Nat.ne_of_beq_eq_false e;first |(simp [e];done)|(simp;omega)⟩
 |(u,w,b)::r=>by
  obtain ⟨l',h1,h2⟩:=jW t v a r
  cases e:Nat.beq u t with
  |true=>
   refine ⟨(t,v,a)::r,fun k=>by simp only [E5,e],?_⟩
   have e:=Nat.eq_of_beq_eq_true e;subst e
   funext x;simp only [bY]
   cases e2:Nat.beq u x with
   |true=>have e2:=Nat.eq_of_beq_eq_true e2;first |(simp [e2];done)|(simp;omega)
   |false=>have e2:=Nat.ne_of_beq_eq_false e2;first |(simp [e2];done)|(simp;omega)
  |false=>
   refine ⟨(u,w,b)::l',fun k=>by simp only [E5,e];exact h1 _,?_⟩
   have e:=Nat.ne_of_beq_eq_false e
   funext x;simp only [bY,h2]
   cases e2:Nat.beq u x with
   |true=>have e2:=Nat.eq_of_beq_eq_true e2;subst e2;first |(simp;done)|(simp;omega)|(simp;intro h;omega)
   |false=>simp
theorem ia (t v:Nat) (a:Ch):∀l:List (Nat×Nat×Ch),∃l',(∀ {α:Type} (k:List (Nat×Nat×Ch)→α),ym t v a l k=k l')∧aF l'=fun u=>if u=t then some a else aF l u
 | []=>⟨[(t,v,a)],fun _=>rfl,by
  funext u;simp only [aF]
  cases e:Nat.beq t u with
  |true=>have e:=Nat.eq_of_beq_eq_true e;first |(simp [e];done)|(simp;omega)
  |false=>have e:=Nat.ne_of_beq_eq_false e;first |(simp;done)|(simp;omega)|(simp;intro h;omega)⟩
 |(u,w,b)::r=>by
  obtain ⟨l',h1,h2⟩:=ia t v a r
  cases e:Nat.beq u t with
  |true=>
   refine ⟨(t,v,a)::r,fun k=>by simp only [ym,e],?_⟩
   have e:=Nat.eq_of_beq_eq_true e;subst e
   funext x;simp only [aF]
   cases e2:Nat.beq u x with
   |true=>have e2:=Nat.eq_of_beq_eq_true e2;first |(simp [e2];done)|(simp;omega)
   |false=>have e2:=Nat.ne_of_beq_eq_false e2;first |(simp;done)|(simp;omega)|(simp;intro h;omega)
  |false=>
   refine ⟨(u,w,b)::l',fun k=>by simp only [ym,e];exact h1 _,?_⟩
   have e:=Nat.ne_of_beq_eq_false e
   funext x;simp only [aF,h2]
   cases e2:Nat.beq u x with
   |true=>have e2:=Nat.eq_of_beq_eq_true e2;subst e2;first |(simp [e];done)|(simp;omega)
   |false=>simp
theorem jZ (t:Nat):∀l:List (Nat×Nat×Ch),∃l',(∀ {α:Type} (k:List (Nat×Nat×Ch)→α),zj t l k=k l')∧aF l'=fun u=>if u=t then none else aF l u
 | []=>⟨[],fun _=>rfl,by funext u;simp [aF]⟩
 |(u,w,b)::r=>by
  obtain ⟨l',h1,h2⟩:=jZ t r
  cases e:Nat.beq u t with
  |true=>
   refine ⟨l',fun k=>by simp only [zj,e];exact h1 _,?_⟩
   have e:=Nat.eq_of_beq_eq_true e;subst e
   funext x;simp only [aF,h2]
   cases e2:Nat.beq u x with
   |true=>have e2:=Nat.eq_of_beq_eq_true e2;first |(simp [e2];done)|(simp;omega)
   |false=>simp
  |false=>
   refine ⟨(u,w,b)::l',fun k=>by simp only [zj,e];exact h1 _,?_⟩
   have e:=Nat.ne_of_beq_eq_false e
   funext x;simp only [aF,h2]
   cases e2:Nat.beq u x with
   |true=>have e2:=Nat.eq_of_beq_eq_true e2;subst e2;first |(simp [e];done)|(simp;omega)
   |false=>simp
theorem fO (v:Nat):∀(u:List (Nat×Option Ch)) (l:List (Nat×Nat×Ch)),∃l',(∀ {α:Type} (k:List (Nat×Nat×Ch)→α),wc v u l k=k l')∧aF l'=bF u (aF l)
 | [],l=>⟨l,fun _=>rfl,rfl⟩
 |(b,c)::r,l=>by
  cases c with
  |some c=>
   obtain ⟨l1,h1,e1⟩:=ia b v c l
   obtain ⟨l2,h2,e2⟩:=fO v r l1
   exact ⟨l2,fun k=>by simp only [wc,h1,h2],by rw [e2,e1,bF]⟩
  |none=>
   obtain ⟨l1,h1,e1⟩:=jZ b l
   obtain ⟨l2,h2,e2⟩:=fO v r l1
   exact ⟨l2,fun k=>by simp only [wc,h1,h2],by rw [e2,e1,bF]⟩
theorem Fi.cons_ok {r:fJ} {e:Fi} {rs:List fJ} {S:AS} (h:e.cons r= .ok rs S):∃l,rs=r::l∧e= .ok l S:=by
 cases e with
 |ok l S'=>simp only [Fi.cons,Fi.ok.injEq] at h;exact ⟨l,h.1.symm,by rw [h.2]⟩
 |need i p=>cases h
 |fail=>cases h
def jf (rs:List fJ) (F:FS):FS:=rs.foldl (fun F r=>r.app F) F
theorem lr {ty:Nat→TE} {ct:Nat→Option CF} {all:List Oper} {ds:List (Nat×Bool)}:∀(ops:List Oper) (i:Nat) (sl:List (Nat×Nat×List AV)) (hp:List (Nat×Nat×Ch)) (nx:Nat) (rs:List fJ) (S:AS),
  dR ty ct all ds i ops sl hp nx= .ok rs S→
  rs.length=ops.length∧(∀k o r,ops[k]?=some o→rs[k]?=some r→r.dst=o.dst∧
   (iK ty ct all (i+k) o.guard o.op (nx+16*k)).run (jf (rs.take k) ⟨bY sl,aF hp⟩).s (jf (rs.take k) ⟨bY sl,aF hp⟩).h (iR (i+k) ds)= .ok ⟨r.out,r.upd,r.pre,r.fact⟩ r.rd r.qs)∧
  jf rs ⟨bY sl,aF hp⟩=⟨bY S.sl,aF S.hp⟩∧S.nx=nx+16*ops.length
 | [],i,sl,hp,nx,rs,S,h=>by
  simp only [dR,Fi.ok.injEq] at h
  obtain ⟨rfl,rfl⟩:=h
  exact ⟨rfl,fun k o r hk=>by simp at hk,rfl,by simp⟩
 |⟨dst,op,tp,pos,aft,g⟩::ops,i,sl,hp,nx,rs,S,h=>by
  unfold dR at h
  simp only at h
  cases e:(iK ty ct all i g op nx).run (bY sl) (aF hp) (iR i ds) with
  |need p=>rw [e] at h;cases h
  |fail=>rw [e] at h;cases h
  |ok res rd qs=>
   obtain ⟨out,upd,pre,fact⟩:=res
   rw [e] at h
   simp only at h
   obtain ⟨hp',h1,e1⟩:=fO nx upd hp
   rw [h1] at h
   have key:∀sl',bY sl'=(fun u=>if dst=some u then out else bY sl u)→(dR ty ct all ds (i+1) ops sl' hp' (nx+16)).cons ⟨dst,out,upd,pre,fact,rd,qs⟩= .ok rs S→
     rs.length=(⟨dst,op,tp,pos,aft,g⟩::ops:List Oper).length∧(∀k o r,(⟨dst,op,tp,pos,aft,g⟩::ops:List Oper)[k]?=some o→rs[k]?=some r→r.dst=o.dst∧
      (iK ty ct all (i+k) o.guard o.op (nx+16*k)).run (jf (rs.take k) ⟨bY sl,aF hp⟩).s (jf (rs.take k) ⟨bY sl,aF hp⟩).h (iR (i+k) ds)= .ok ⟨r.out,r.upd,r.pre,r.fact⟩ r.rd r.qs)∧
     jf rs ⟨bY sl,aF hp⟩=⟨bY S.sl,aF S.hp⟩∧S.nx=nx+16*(⟨dst,op,tp,pos,aft,g⟩::ops:List Oper).length:=by
    intro sl' hs h0
    obtain ⟨l,rfl,h9⟩:=Fi.cons_ok h0
    obtain ⟨a1,a2,a3,a4⟩:=lr ops _ _ _ _ _ _ h9
    have hF:(fJ.app ⟨dst,out,upd,pre,fact,rd,qs⟩ ⟨bY sl,aF hp⟩)=⟨bY sl',aF hp'⟩:=by
     unfold fJ.app;rw [hs,e1]
    refine ⟨by simp [a1],fun k o r hk hr=> ?_,?_,by rw [a4,List.length_cons];omega⟩
    ·cases k with
     |zero=>
      simp at hk hr
      subst hk hr
      exact ⟨rfl,e⟩
     |succ k=>
      have:=a2 k o r (by simpa using hk) (by simpa using hr)
      rw [List.take_succ_cons]
      unfold jf at this ⊢
      rw [List.foldl_cons,hF,show i+(k+1)=i+1+k by omega,show nx+16*(k+1)=nx+16+16*k by omega]
      exact this
    ·unfold jf at a3 ⊢
     rw [List.foldl_cons,hF];exact a3
   cases dst with
   |some t=>
    simp only at h
    obtain ⟨sl',h2,e2⟩:=jW t nx out sl
    rw [h2,ck] at h
    exact key sl' e2 h
   |none=>
    simp only [ck] at h
    exact key sl (by funext u;simp) h
def bn:Option Prop→Prop
 |none=>True
 |some p=>p
theorem mE:∀ {rs:List fJ} {k:Prop},E3 rs k→(∀r∈rs,bn r.pre)∧k
 | [],k,h=>⟨fun _ h=>(by cases h),h⟩
 |r::l,k,h=>by
  unfold E3 at h
  cases e:r.pre with
  |none=>
   rw [e] at h
   obtain ⟨h1,h2⟩:=mE h
   refine ⟨fun x hx=> ?_,h2⟩
   rcases List.mem_cons.1 hx with rfl|hx
   ·rw [e];trivial
   ·exact h1 x hx
  |some p=>
   rw [e] at h
   obtain ⟨h0,h⟩:=h
   obtain ⟨h1,h2⟩:=mE h
   refine ⟨fun x hx=> ?_,h2⟩
   rcases List.mem_cons.1 hx with rfl|hx
   ·rw [e];exact h0
   ·exact h1 x hx
theorem kM:∀ {rs:List fJ} {k:Prop},sV rs k→(∀r∈rs,bn r.fact)→k
 | [],_,h,_=>h
 |r::l,k,h,hf=>by
  unfold sV at h
  have h0:=hf r (by simp)
  cases e:r.fact with
  |none=>rw [e] at h;exact kM h fun x hx=>hf x (by simp [hx])
  |some p=>rw [e] at h h0;exact kM (h h0) fun x hx=>hf x (by simp [hx])
def X9 (P:Program) (ty:Nat→TE) (ct:Nat→Option CF) (all:List Oper) (N:Nat) (Q:Exit→Act→World→Prop) (i:Nat) (o:Oper):Prop:=
 ∀(nx:Nat) (F:FS) (ds:List Bool) (res:aU) (rd:List dZ) (qs:List (Bool×Bool)),(iK ty ct all i o.guard o.op nx).run F.s F.h ds= .ok res rd qs→(∀q∈qs,q.1=q.2)→bn res.pre→
  ∀η a w,gR F.s F.h N η a w→(∀b,nx≤b→b<nx+16→η b=none)→(∀t,o.dst=some t→t<N)→
  ∀K:Act→World→Prop,(∀a' w' η',gR (fun t=>if o.dst=some t then res.out else F.s t) (bF res.upd F.h) N η' a' w'→Fw F.h η w (bF res.upd F.h) η' w'→(∀b,b<nx∨nx+16≤b→η' b=η b)→bn res.fact→K a' w')→
   if Region.wanted o (yielded all.toArray a.tmps)=true then Oper.wp P o a w K Q else K (a.put o.dst undef) w
section region
variable {P:Program} {ty:Nat→TE} {ct:Nat→Option CF} {N:Nat} {Q:Exit→Act→World→Prop} {a0:Act} {w0:World} {η0:bx}
def vA (ops:List Oper) (rs:List fJ) (F0:FS) (N nx:Nat) (η0:bx) (w0:World) (L:Nat→Bool) (a:Act) (w:World):Prop:=
 (∀k d o',L k=true→ops[k]?=some o'→(∃e∈o'.after,Region.binds .any e=true∧e.on=d)→L d=true)∧
 ∃η,gR (oQ rs 0 L F0).s (oQ rs 0 L F0).h N η a w∧Fw F0.h η0 w0 (oQ rs 0 L F0).h η w∧
  (∀k b,L k=false→nx+16*k≤b→b<nx+16*k+16→η b=none)∧(∀b,nx+16*ops.length≤b→η b=none)∧(∀b,b<nx→η b=η0 b)∧∀k r,L k=true→rs[k]?=some r→bn r.fact
theorem vA.step {all:List Oper} {rs:List fJ} {F0:FS} {nx:Nat} {ds:List (Nat×Bool)}
  (hlen:rs.length=all.length)
  (hrun:∀k o r,all[k]?=some o→rs[k]?=some r→r.dst=o.dst∧(iK ty ct all k o.guard o.op (nx+16*k)).run (jf (rs.take k) F0).s (jf (rs.take k) F0).h (iR k ds)= .ok ⟨r.out,r.upd,r.pre,r.fact⟩ r.rd r.qs)
  (hq:∀r∈rs,∀q∈r.qs,q.1=q.2) (hpre:∀r∈rs,bn r.pre) (hdst:∀o∈all,∀t,o.dst=some t→t<N)
  {j:Nat} {o:Oper} (ho:all[j]?=some o) (hop:X9 P ty ct all N Q j o) {L:Nat→Bool} {a:Act} {w:World} (h:vA all rs F0 N nx η0 w0 L a w) (hL:L j=false)
  (hdep:∀e∈o.after,Region.binds .any e=true→L e.on=true)
  (hx:(∀k d o',L k=true→all[k]?=some o'→(∃e∈o'.after,Region.binds .any e=true∧e.on=d)→L d=true)→∀r,rs[j]?=some r→∀x,x∈r.rd∨x∈r.wr→∀k q,rs[k]?=some q→x∈q.wr→L k=decide (k<j))
  (K:Act→World→Prop) (hK:∀a w,vA all rs F0 N nx η0 w0 (dT L j) a w→K a w):
  if Region.wanted o (yielded all.toArray a.tmps)=true then Oper.wp P o a w K Q else K (a.put o.dst undef) w:=by
 obtain ⟨hcl,η,hS,hF,hfree,hend,hold,hfact⟩:=h
 have hj:j<all.length:=(List.getElem?_eq_some_iff.1 ho).1
 have hr:rs[j]?=some rs[j]:=List.getElem?_eq_getElem (by omega)
 have hmem:rs[j]∈rs:=List.getElem_mem _
 obtain ⟨hd,hrun⟩:=hrun j o _ ho hr
 have hx:=hx hcl _ hr
 have hAt:∀x,x∈rs[j].rd∨x∈rs[j].wr→(oQ rs 0 L F0).At (jf (rs.take j) F0) x:=fun x hx'=>by
  have e:=Bd rs 0 j F0
  unfold jf
  rw [←e]
  refine ug x rs 0 L _ F0 F0 (FS.At.refl _ _) fun k q hk hw=> ?_
  rw [Nat.zero_add]
  have:=hx x hx' k q hk hw
  rw [this,Nat.zero_add]
 have hrun':=R.run_same _ _ hrun (sl':=(oQ rs 0 L F0).s) (hp':=(oQ rs 0 L F0).h) (fun t ht=>hAt (.s t) (.inl ht)) (fun b hb=>hAt (.h b) (.inl hb))
 refine hop (nx+16*j) _ _ _ _ _ hrun' (hq _ hmem) (hpre _ hmem) η a w hS (fun b h1 h2=>hfree j b hL h1 h2) (hdst o (List.mem_of_getElem? ho)) K ?_
 intro a' w' η' hS' hF' hout hfa
 have eF:oQ rs 0 (dT L j) F0=fJ.app rs[j] (oQ rs 0 L F0):=by
  refine FS.ext_at fun x=> ?_
  by_cases hxw:x∈rs[j].wr
  ·have e:=Bd rs 0 (j+1) F0
   rw [List.take_succ_eq_append_getElem (show j<rs.length by omega),List.foldl_append,List.foldl_cons,List.foldl_nil] at e
   have h1:(oQ rs 0 (dT L j) F0).At (oQ rs 0 (fun x=>decide (x<0+(j+1))) F0) x:=by
    refine ug x rs 0 _ _ F0 F0 (FS.At.refl _ _) fun k q hk hw=> ?_
    have:=hx x (.inr hxw) k q hk hw
    rw [Nat.zero_add]
    by_cases hkj:k=j
    ·subst hkj;simp [cU]
    ·rw [bO hkj,this];simp;omega
   rw [e] at h1
   exact h1.trans (JD hxw)
  ·refine (ug x rs 0 _ L F0 F0 (FS.At.refl _ _) fun k q hk hw=> ?_).trans (uj hxw).symm
   rw [Nat.zero_add]
   by_cases hkj:k=j
   ·subst hkj;rw [hr] at hk;cases hk;exact absurd hw hxw
   ·exact bO hkj
 refine hK a' w' ⟨fun k d o' hk ho' he=> ?_,η',?_,?_,fun k b hk h1 h2=> ?_,fun b hb=> ?_,fun b hb=> ?_,fun k r hk hr'=> ?_⟩
 ·by_cases hkj:k=j
  ·subst hkj
   rw [ho] at ho';cases ho'
   obtain ⟨e,he,hb,rfl⟩:=he
   exact gm (hdep e he hb)
  ·rw [bO hkj] at hk
   exact gm (hcl k d o' hk ho' he)
 ·rw [eF];unfold fJ.app;rw [hd];exact hS'
 ·rw [eF];unfold fJ.app;exact hF.trans hF'
 ·have hkj:k≠j:=by rintro rfl;rw [cU] at hk;cases hk
  rw [bO hkj] at hk
  rw [hout b (by omega)]
  exact hfree k b hk h1 h2
 ·rw [hout b (by omega)];exact hend b hb
 ·rw [hout b (by omega)];exact hold b hb
 ·by_cases hkj:k=j
  ·subst hkj;rw [hr] at hr';cases hr';exact hfa
  ·rw [bO hkj] at hk;exact hfact k r hk hr'
end region
inductive Ex where
 |normal
 |exit (id:Nat)
 |ret
abbrev KK:=Ex→AS→Prop
structure Inv where
 sl:List (Nat×AV)
 hp:List (Nat×Ch)
structure ew where
 m:List (Nat×Option Nat)
 u:List Nat
def bI (x:Nat):List Nat→Bool
 | []=>false
 |y::r=>match Nat.beq x y with |true=>true|false=>bI x r
def bH:List (Nat×Option Nat)→Nat→Option (Option Nat)
 | [],_=>none
 |(b,a)::r,x=>match Nat.beq b x with |true=>some a|false=>bH r x
def dW:List (Nat×Option Nat)→Nat→Bool
 | [],_=>false
 |(_,a)::r,x=>match a with
  |some a=>match Nat.beq a x with |true=>true|false=>dW r x
  |none=>dW r x
def cX (b:Nat):Bool:=Nat.blt b 1000
def ja (k q:Kd) (l:List k.T) (m:List q.T):Prop:=
 match k,q,l,m with
 | .u8,.u8,l,m=>m=l| .u16,.u16,l,m=>m=l| .u32,.u32,l,m=>m=l| .u64,.u64,l,m=>m=l
 | .int,.int,l,m=>m=l| .bool,.bool,l,m=>m=l| .str,.str,l,m=>m=l
 | .x i,.x j,l,m=>∃h:j=i,h▸m=l
 |_,_,_,_=>False
def PK (kp:Nat→Bool) (σ:ew) (a b:Nat) (k:ew→Prop):Prop:=
 match kp a with
 |true=>False
 |false=>match dW σ.m a with
  |true=>False
  |false=>match bI a σ.u with
   |true=>False
   |false=>k ⟨(b,some a)::σ.m,σ.u⟩
def Gk (kp:Nat→Bool) (σ:ew) (a b:Nat) (k:ew→Prop):Prop:=
 match cX b with
 |true=>match bH σ.m b with
  |none=>PK kp σ a b k
  |some (some c)=>match Nat.beq a c with |true=>k σ|false=>False
  |some none=>False
 |false=>match Nat.beq a b with |true=>k σ|false=>False
def ud (kp:Nat→Bool) (σ:ew) (a:Nat) (k:ew→Prop):Prop:=
 match kp a with
 |true=>False
 |false=>match dW σ.m a with
  |true=>False
  |false=>k ⟨σ.m,a::σ.u⟩
def qT (H:Nat→Option Ch) (kp:Nat→Bool) (x y:Cl) (σ:ew) (k:ew→Prop):Prop:=
 match y with
 | .any=>match x with
  | .vec _ _ _=>False
  | .ob q _=>match Nat.beq q.n 1 with |true=>k σ|false=>False
  | .un=>False
  |_=>k σ
 | .un=>match x with | .un=>k σ|_=>False
 | .cv v=>match x with | .cv w=>v=w∧k σ|_=>False
 | .ob q y=>match x with
  | .ob p x=>ja p q [x] [y]∧k σ
  | .cv (.int .i64 z)=>ja .int q [z] [y]∧k σ
  | .cv (.bool z)=>ja .bool q [z] [y]∧k σ
  |_=>False
 | .vec q m l=>match x with
  | .vec p n i=>m=n∧ja p q i l∧k σ
  |_=>False
 | .ptr b j=>match x with
  | .ptr a i=>match Nat.beq i j with |true=>Gk kp σ a b k|false=>False
  |_=>False
 | .rw b=>match x with
  | .rw a=>Gk kp σ a b k
  | .cv (.slice none 0 0)=>match cX b with
   |true=>match bH σ.m b with
    |none=>k ⟨(b,none)::σ.m,σ.u⟩
    |some none=>k σ
    |_=>False
   |false=>False
  |_=>False
 | .sl b j n c=>match x with
  | .sl a i n' c'=>Gk kp σ a b fun σ=>j=i∧n=n'∧c=c'∧k σ
  |_=>False
 | .sub b j n=>match x with
  | .sub a i n'=>Gk kp σ a b fun σ=>j=i∧n=n'∧k σ
  |_=>False
 | .ro q l=>match x with
  | .ro p i=>ja p q i l∧k σ
  | .cv (.slice none 0 0)=>l= []∧k σ
  | .rw a=>match H a with
   |some (.row _ p i)=>ja p q i l∧ud kp σ a k
   |_=>False
  | .sub a lo n=>match H a with
   |some (.row _ p i)=>match Nat.beq p.n 1 with |true=>ja p q ((i.drop lo).take n) l∧ud kp σ a k|false=>False
   |_=>False
  |_=>False
 | .bb l=>match x with
  | .bb i=>l=i∧k σ
  |_=>False
 | .ln v n=>match x with
  | .ln u i=>(v=u∧n=i)∧k σ
  |_=>False
 | .mp v f=>match x with
  | .mp u i=>(v=u∧f=i)∧k σ
  |_=>False
 | .rv v l=>match x with
  | .rv u i=>(v=u∧l=i)∧k σ
  |_=>False
 |_=>False
def Oq (H:Nat→Option Ch) (kp:Nat→Bool):List Cl→List Cl→ew→(ew→Prop)→Prop
 | [],[],σ,k=>k σ
 |x::r,y::q,σ,k=>qT H kp x y σ fun σ=>Oq H kp r q σ k
 |_,_,_,_=>False
def Xv (H:Nat→Option Ch) (kp:Nat→Bool) (x:List AV) (y:AV) (σ:ew) (k:ew→Prop):Prop:=
 match x with
 | [.one x]=>match y with
  | .one y=>qT H kp x y σ k
  |_=>False
 | [.agg x]=>match y with
  | .agg y=>Oq H kp x y σ k
  |_=>False
 |_=>False
def Q5 (H:Nat→Option Ch) (kp:Nat→Bool) (sl:Nat→List AV):List (Nat×AV)→ew→(ew→Prop)→Prop
 | [],σ,k=>k σ
 |(t,y)::r,σ,k=>Xv H kp (sl t) y σ fun σ=>Q5 H kp sl r σ k
def T4 (H:Nat→Option Ch) (kp:Nat→Bool) (x:Option Ch) (y:Ch) (σ:ew) (k:ew→Prop):Prop:=
 match y with
 | .blk E l=>match x with
  |some (.blk F i)=>match Nat.beq E F with |true=>Oq H kp i l σ k|false=>False
  |_=>False
 | .row E q l=>match x with
  |some (.row F p i)=>match Nat.beq E F with |true=>ja p q i l∧k σ|false=>False
  |_=>False
def Gq (H:Nat→Option Ch) (kp:Nat→Bool):List (Nat×Ch)→ew→(ew→Prop)→Prop
 | [],σ,k=>k σ
 |(b,y)::r,σ,k=>match cX b with
  |true=>match bH σ.m b with
   |some (some a)=>T4 H kp (H a) y σ fun σ=>Gq H kp r σ k
   |some none=>match y with
    | .row _ _ l=>l= []∧Gq H kp r σ k
    |_=>False
   |none=>False
  |false=>T4 H kp (H b) y σ fun σ=>Gq H kp r σ k
def bX:List (Nat×Nat×Ch)→Nat→Nat
 | [],_=>0
 |(t,v,_)::r,u=>match Nat.beq t u with |true=>v|false=>bX r u
def dG {α:Type} (b:Nat):List (Nat×α)→Bool
 | []=>false
 |(c,_)::r=>match Nat.beq c b with |true=>true|false=>dG b r
def jL (I:List (Nat×Ch)) (hp:List (Nat×Nat×Ch)):List (Nat×Nat×Ch)→Prop→Prop
 | [],k=>k
 |(b,v,_)::r,k=>match dG b I with
  |true=>jL I hp r k
  |false=>match Nat.beq (bX hp b) v with
   |true=>jL I hp r k
   |false=>False
def Cl.lt (n:Nat):Cl→Bool
 | .ptr b _=>Nat.blt b n| .pix b _ _=>Nat.blt b n| .sl b _ _ _=>Nat.blt b n| .rw b=>Nat.blt b n| .sub b _ _=>Nat.blt b n
 |_=>true
def dw (n:Nat):List Cl→Bool
 | []=>true
 |x::r=>match x.lt n with |true=>dw n r|false=>false
def fI (n:Nat):List AV→Bool
 | []=>true
 | .one x::r=>match x.lt n with |true=>fI n r|false=>false
 | .agg l::r=>match dw n l with |true=>fI n r|false=>false
def xu (n:Nat):List (Nat×Nat×List AV)→Bool
 | []=>true
 |(_,_,a)::r=>match fI n a with |true=>xu n r|false=>false
def oF (n:Nat):List (Nat×Nat×Ch)→Bool
 | []=>true
 |(b,v,c)::r=>match Nat.blt b n,Nat.blt v n,Nat.blt 0 v,cX b with
  |true,true,true,false=>match c with
   | .blk _ l=>match dw n l with |true=>oF n r|false=>false
   | .row _ _ _=>oF n r
  |_,_,_,_=>false
def AV.lt (n:Nat):AV→Bool
 | .one x=>x.lt n
 | .agg l=>dw n l
def yy (n:Nat):List (Nat×AV)→Bool
 | []=>true
 |(_,y)::r=>match y.lt n with |true=>yy n r|false=>false
def Fd (n:Nat):List (Nat×Ch)→Bool
 | []=>true
 |(b,c)::r=>match Nat.blt b n with
  |true=>match c with
   | .blk _ l=>match dw n l with |true=>Fd n r|false=>false
   | .row _ _ _=>Fd n r
  |false=>false
def dQ:Code→List Nat
 | .region _ ops _=>ops.toList.filterMap (·.dst)
 | .seq a b=>dQ a++dQ b
 | .cond _ a b=>dQ a++dQ b
 | .block _ a=>dQ a
 | .loop a=>dQ a
 |_=> []
def sU {α:Type} (w:List Nat):List (Nat×Nat×List AV)→(List (Nat×Nat×List AV)→α)→α
 | [],k=>k []
 |(t,v,a)::r,k=>match bI t w with
  |true=>sU w r k
  |false=>sU w r fun r=>k ((t,v,a)::r)
def nC {α:Type} (σ:ew):List (Nat×Nat×Ch)→(List (Nat×Nat×Ch)→α)→α
 | [],k=>k []
 |(t,v,a)::r,k=>match dW σ.m t with
  |true=>nC σ r k
  |false=>match bI t σ.u with
   |true=>nC σ r k
   |false=>nC σ r fun r=>k ((t,v,a)::r)
def eL (n b:Nat):Nat:=match cX b with |true=>n+b|false=>b
def Cl.rn (n:Nat):Cl→Cl
 | .ptr b j=> .ptr (eL n b) j
 | .rw b=> .rw (eL n b)
 | .sl b j m c=> .sl (eL n b) j m c
 | .sub b j m=> .sub (eL n b) j m
 |x=>x
def AV.rn (n:Nat):AV→AV
 | .one x=> .one (x.rn n)
 | .agg l=> .agg (l.map (Cl.rn n))
def Ch.rn (n:Nat):Ch→Ch
 | .blk E l=> .blk E (l.map (Cl.rn n))
 | .row E k l=> .row E k l
def OX {α:Type} (x:Cl) (k:Cl→α):α:=match x with
 | .any=>k .any| .un=>k .un| .cv v=>k (.cv v)| .ob q x=>k (.ob q x)| .vec q n l=>k (.vec q n l)
 | .ptr b j=>iJ b fun b=>k (.ptr b j)| .pix b j i=>k (.pix b j i)| .pro q x=>k (.pro q x)
 | .sl b j n c=>iJ b fun b=>k (.sl b j n c)| .rw b=>iJ b fun b=>k (.rw b)| .sub b j n=>iJ b fun b=>k (.sub b j n)
 | .ro q l=>k (.ro q l)| .bb l=>k (.bb l)| .pbb l=>k (.pbb l)| .ln v n=>k (.ln v n)| .mp v f=>k (.mp v f)| .rv v l=>k (.rv v l)
def zc {α:Type} (l:List Cl) (k:List Cl→α):α:=match l with
 | []=>k []
 |x::r=>OX x fun x=>zc r fun r=>k (x::r)
def RP {α:Type} (x:AV) (k:AV→α):α:=match x with
 | .one x=>OX x fun x=>k (.one x)
 | .agg l=>zc l fun l=>k (.agg l)
def QT {α:Type} (x:Ch) (k:Ch→α):α:=match x with
 | .blk E l=>zc l fun l=>k (.blk E l)
 | .row E q l=>k (.row E q l)
theorem CP {α:Type} (x:Cl) (k:Cl→α):OX x k=k x:=by cases x<;>simp only [OX,ck]
theorem pZ {α:Type}:∀(l:List Cl) (k:List Cl→α),zc l k=k l
 | [],k=>rfl
 |x::r,k=>by simp only [zc,CP];exact pZ r _
theorem No {α:Type} (x:AV) (k:AV→α):RP x k=k x:=by cases x<;>simp only [RP,CP,pZ]
theorem MR {α:Type} (x:Ch) (k:Ch→α):QT x k=k x:=by cases x<;>simp only [QT,pZ]
def mL {α:Type} (n:Nat):List (Nat×AV)→List (Nat×Nat×List AV)→(List (Nat×Nat×List AV)→α)→α
 | [],l,k=>k l
 |(t,a)::r,l,k=>RP (a.rn n) fun a=>E5 t n [a] l fun l=>mL n r l k
def sq {α:Type} (n:Nat):List (Nat×Ch)→List (Nat×Nat×Ch)→(List (Nat×Nat×Ch)→α)→α
 | [],l,k=>k l
 |(b,c)::r,l,k=>QT (c.rn n) fun c=>iJ (eL n b) fun b=>ym b n c l fun l=>sq n r l k
def over (sl:List (Nat×Nat×List AV)) (hp:List (Nat×Nat×Ch)) (nx:Nat) (I:Inv) (k:AS→Prop):Prop:=
 iJ nx fun nx=>mL nx I.sl sl fun sl=>sq nx I.hp hp fun hp=>iJ (nx+1000) fun nx=>k ⟨sl,hp,nx⟩
def jC (I:List (Nat×Ch)) (hp:List (Nat×Nat×Ch)) (b:Nat):Bool:=match dG b I with |true=>true|false=>dG b hp
def k7 (w:List Nat):List (Nat×AV)→Bool
 | []=>true
 |(t,_)::r=>match bI t w with |true=>k7 w r|false=>false
def g_ (S:AS) (nx:Nat) (w:List Nat) (I:Inv) (hp0:List (Nat×Nat×Ch)) (k:ew→Prop):Prop:=
 match yy nx I.sl,Fd nx I.hp,k7 w I.sl with
 |true,true,true=>Q5 (aF S.hp) (jC I.hp hp0) (bY S.sl) I.sl ⟨[],[]⟩ fun σ=>Gq (aF S.hp) (jC I.hp hp0) I.hp σ k
 |_,_,_=>False
def Jg (w:List Nat) (S:AS) (body:AS→KK→Prop) (K:KK):Prop:=
 ∃(ι:Type) (I:ι→Inv) (μ:ι→Nat) (i:ι),g_ S S.nx w (I i) [] fun σ=>sU w S.sl fun sl=>nC σ S.hp fun hp=>match xu S.nx sl,oF S.nx hp,Nat.ble 1000 S.nx with
  |true,true,true=>∀i,over sl hp S.nx (I i) fun T=>body T fun e S'=>match e with
   | .normal=>∃j,μ j<μ i∧g_ S' S.nx w (I j) hp fun _=>jL (I j).hp S'.hp hp True
   |e=>K e S'
  |_,_,_=>False
def Bq (body:AS→KK→Prop) (K:KK):Nat→AS→Prop
 |0,_=>False
 |m+1,S=>body S fun e S'=>match e with
  | .normal=>Bq body K m S'
  |e=>K e S'
def pM (N:Nat) (S:AS) (η:bx) (a:Act) (w:World):Prop:=gR (bY S.sl) (aF S.hp) N η a w∧∀b,S.nx≤b→η b=none
def y_ (S S':AS):Prop:=S.nx≤S'.nx∧∀b,(bX S'.hp b=bX S.hp b∧aF S'.hp b=aF S.hp b)∨S.nx≤bX S'.hp b∨bX S'.hp b=0
theorem y_.refl (S:AS):y_ S S:=⟨Nat.le_refl _,fun _=> .inl ⟨rfl,rfl⟩⟩
theorem y_.trans {S1 S2 S3:AS} (h:y_ S1 S2) (k:y_ S2 S3):y_ S1 S3:=⟨Nat.le_trans h.1 k.1,fun b=>by
 rcases k.2 b with ⟨k1,k2⟩|k1|k1
 ·rcases h.2 b with ⟨h1,h2⟩|h1|h1
  ·exact .inl ⟨k1.trans h1,k2.trans h2⟩
  ·exact .inr (.inl (by rw [k1];exact h1))
  ·exact .inr (.inr (by rw [k1];exact h1))
 ·exact .inr (.inl (Nat.le_trans h.1 k1))
 ·exact .inr (.inr k1)⟩
def nj:Exit→Option Ex
 | .normal=>some .normal
 | .exit id=>some (.exit id)
 | .ret=>some .ret
 |_=>none
def ju (N:Nat) (W:List Nat) (S:AS) (η:bx) (w:World) (K:KK):Exit→Act→World→Prop:=fun e a' w'=>
 ∃e' S' η',nj e=some e'∧K e' S'∧pM N S' η' a' w'∧Fw (aF S.hp) η w (aF S'.hp) η' w'∧y_ S S'∧(∀b,b<S.nx→η' b=η b)∧∀t,bI t W=false→bY S'.sl t=bY S.sl t
def JK (N:Nat) (c:Code) (S:AS) (K:KK):Prop:=∀η a w,pM N S η a w→c.wp Tryz.prog (ju N (dQ c) S η w K) a w
def yD:Nat→List Oper→Bool
 |_,[]=>true
 |i,o::r=>match o.after.toList.all fun e=> !Region.binds .any e||Nat.blt e.on i with
  |true=>yD (i+1) r
  |false=>false
def mU (N:Nat):List Oper→Bool
 | []=>true
 |o::r=>match o.dst with
  |some t=>match Nat.blt t N with |true=>mU N r|false=>false
  |none=>mU N r
def QP {α β:Type} (l:List α) (k:List α→β):β:=match l with | []=>k []|x::r=>k (x::r)
theorem Ok {α β:Type} (l:List α) (k:List α→β):QP l k=k l:=by cases l<;>rfl
def Sw {α:Type} (S:AS) (k:List (Nat×Nat×List AV)→List (Nat×Nat×Ch)→Nat→α):α:=match S with
 |⟨sl,hp,nx⟩=>iJ nx fun nx=>QP hp fun hp=>QP sl fun sl=>k sl hp nx
theorem Ml {α:Type} (S:AS) (k:List (Nat×Nat×List AV)→List (Nat×Nat×Ch)→Nat→α):Sw S k=k S.sl S.hp S.nx:=by
 obtain ⟨sl,hp,nx⟩:=S
 simp only [Sw,ck,Ok]
def xe (ty:Nat→TE) (ct:Nat→Option CF) (N:Nat) (c:Code) (ops:List Oper) (dr:Bool) (S:AS) (K:KK):Nat→List (Nat×Bool)→Prop
 |0,_=>JK N c S K
 |m+1,ds=>match Sw S (dR ty ct ops ds 0 ops) with
  | .ok rs S'=>match (match dr with |true=>jD (FT ops) 0 rs|false=>true),yD 0 ops,mU N ops with
   |true,true,true=>yO rs (E3 rs (sV rs (K .normal S')))
   |_,_,_=>JK N c S K
  | .need i p=>(p=true→xe ty ct N c ops dr S K m (ds++ [(i,true)]))∧(p=false→xe ty ct N c ops dr S K m (ds++ [(i,false)]))
  | .fail=>JK N c S K
def I8 (c:Operand):R (Option Bool×Bool):=eK c fun x=>match x with
 | .one (.cv (.bool v))=> .pure (some v,true)
 | .one (.ob .bool p)=> .pure (none,p)
 |_=> .fail
def vc (ty:Nat→TE) (ct:Nat→Option CF) (N:Nat):Code→AS→KK→Prop
 | .skip,S,K=>K .normal S
 | .region id ops dr,S,K=>xe ty ct N (.region id ops dr) ops.toList dr S K 12 []
 | .seq a b,S,K=>vc ty ct N a S fun e S'=>match e with
  | .normal=>vc ty ct N b S' K
  |e=>K e S'
 | .cond c a b,S,K=>match (I8 c).run (bY S.sl) (aF S.hp) [] with
  | .ok (some true,_) _ _=>vc ty ct N a S K
  | .ok (some false,_) _ _=>vc ty ct N b S K
  | .ok (none,p) _ _=>(p=true→vc ty ct N a S K)∧(p=false→vc ty ct N b S K)
  |_=>JK N (.cond c a b) S K
 | .block id c,S,K=>vc ty ct N c S fun e S'=>match e with
  | .exit j=>match Nat.beq j id with
   |true=>K .normal S'
   |false=>K e S'
  |e=>K e S'
 | .loop c,S,K=>(∃m,Bq (vc ty ct N c) K m S)∨Jg (dQ c) S (vc ty ct N c) K
 | .exit id,S,K=>K (.exit id) S
 | .label _,S,K=>K .normal S
 | .ret,S,K=>K .ret S
 |c,S,K=>JK N c S K
theorem dH (x:Nat):∀l:List Nat,bI x l=true↔x∈l
 | []=>by simp [bI]
 |y::r=>by
  unfold bI
  split
  ·rename_i h;simp [Nat.eq_of_beq_eq_true h]
  ·rename_i h
   have h2:=Nat.ne_of_beq_eq_false h
   rw [dH x r,List.mem_cons]
   simp [h2]
theorem zg {x:Nat} {a b:List Nat} (h:bI x (a++b)=false):bI x a=false∧bI x b=false:=by
 have h1:x ∉ a++b:=by rw [←dH];simp [h]
 simp only [List.mem_append,not_or] at h1
 constructor
 ·cases e:bI x a with
  |true=>rw [dH] at e;exact absurd e h1.1
  |false=>rfl
 ·cases e:bI x b with
  |true=>rw [dH] at e;exact absurd e h1.2
  |false=>rfl
theorem ju.mono {N:Nat} {W W':List Nat} {S S0:AS} {η η0:bx} {w w0:World} {K K':KK} (hF:Fw (aF S0.hp) η0 w0 (aF S.hp) η w) (hH:y_ S0 S) (hE:∀b,b<S0.nx→η b=η0 b) (hT:∀t,bI t W'=false→bY S.sl t=bY S0.sl t) (hW:∀t,bI t W'=false→bI t W=false)
  (hK:∀e S,K e S→K' e S) {e:Exit} {a':Act} {w':World} (h:ju N W S η w K e a' w'):ju N W' S0 η0 w0 K' e a' w':=by
 obtain ⟨e',S',η',h1,h2,h3,h4,h5,h6,h7⟩:=h
 exact ⟨e',S',η',h1,hK _ _ h2,h3,hF.trans h4,hH.trans h5,fun b hb=>(h6 b (Nat.lt_of_lt_of_le hb hH.1)).trans (hE b hb),fun t ht=>(h7 t (hW t ht)).trans (hT t ht)⟩
def az (ty:Nat→TE) (ct:Nat→Option CF):Prop:=∀(all:List Oper) (N:Nat) (Q:Exit→Act→World→Prop) (i:Nat) (o:Oper),all[i]?=some o→X9 Tryz.prog ty ct all N Q i o
theorem qh:∀ {l:List Oper} {i:Nat},yD i l=true→∀k o,l[k]?=some o→∀e∈o.after,Region.binds .any e=true→e.on<i+k
 | [],_,_,k,o,hk=>by simp at hk
 |x::r,i,h,k,o,hk=>by
  unfold yD at h
  cases e:(x.after.toList.all fun e=> !Region.binds .any e||Nat.blt e.on i) with
  |false=>rw [e] at h;cases h
  |true=>
   rw [e] at h
   cases k with
   |zero=>
    simp at hk;subst hk
    intro ed he hb
    rw [List.all_eq_true] at e
    have:=e ed (by simpa using he)
    simp only [hb,Bool.not_true,Bool.false_or,Nat.blt_eq] at this
    exact this
   |succ k=>
    intro ed he hb
    have:=qh h k o (by simpa using hk) ed he hb
    omega
theorem jj {N:Nat}:∀ {l:List Oper},mU N l=true→∀o∈l,∀t,o.dst=some t→t<N
 | [],_,o,ho=>by cases ho
 |x::r,h,o,ho=>by
  intro t ht
  unfold mU at h
  cases e:x.dst with
  |none=>
   rw [e] at h
   rcases List.mem_cons.1 ho with rfl|ho
   ·rw [e] at ht;cases ht
   ·exact jj h o ho t ht
  |some u=>
   rw [e] at h
   simp only at h
   cases e2:Nat.blt u N with
   |false=>rw [e2] at h;cases h
   |true=>
    rw [e2] at h
    rcases List.mem_cons.1 ho with rfl|ho
    ·rw [e] at ht;cases ht;simpa using e2
    ·exact jj h o ho t ht
theorem sL:∀ {l:List (Bool×Bool)} {k:Prop},O3 l k→(∀q∈l,q.1=q.2)∧k
 | [],k,h=>⟨fun _ h=>(by cases h),h⟩
 |(p,v)::r,k,⟨h0,h⟩=>by
  obtain ⟨h1,h2⟩:=sL h
  refine ⟨fun q hq=> ?_,h2⟩
  rcases List.mem_cons.1 hq with rfl|hq
  ·exact h0
  ·exact h1 q hq
theorem qp:∀ {l:List fJ} {k:Prop},yO l k→(∀r∈l,∀q∈r.qs,q.1=q.2)∧k
 | [],k,h=>⟨fun _ h=>(by cases h),h⟩
 |r::l,k,h=>by
  obtain ⟨h0,h⟩:=sL (show O3 r.qs (yO l k) from h)
  obtain ⟨h1,h2⟩:=qp h
  refine ⟨fun x hx=> ?_,h2⟩
  rcases List.mem_cons.1 hx with rfl|hx
  ·exact h0
  ·exact h1 x hx
theorem wX:∀(rs:List fJ) (F:FS) (t:Nat),(∀r∈rs,r.dst≠some t)→(jf rs F).s t=F.s t
 | [],_,_,_=>rfl
 |r::rs,F,t,h=>by
  unfold jf
  rw [List.foldl_cons]
  have:=wX rs (r.app F) t fun x hx=>h x (by simp [hx])
  unfold jf at this
  rw [this]
  unfold fJ.app
  simp [h r (by simp)]
def ki (n:Nat) (hp hp':List (Nat×Nat×Ch)):Prop:=∀b,(bX hp' b=bX hp b∧aF hp' b=aF hp b)∨n≤bX hp' b∨bX hp' b=0
theorem ki.trans {n m:Nat} (hnm:n≤m) {h1 h2 h3:List (Nat×Nat×Ch)} (h:ki n h1 h2) (k:ki m h2 h3):ki n h1 h3:=fun b=>by
 rcases k b with ⟨k1,k2⟩|k1|k1
 ·rcases h b with ⟨h1,h2⟩|h1|h1
  ·exact .inl ⟨k1.trans h1,k2.trans h2⟩
  ·exact .inr (.inl (by rw [k1];exact h1))
  ·exact .inr (.inr (by rw [k1];exact h1))
 ·exact .inr (.inl (Nat.le_trans hnm k1))
 ·exact .inr (.inr k1)
theorem ki.refl (n:Nat) (h:List (Nat×Nat×Ch)):ki n h h:=fun _=> .inl ⟨rfl,rfl⟩
theorem qo (t v:Nat) (a:Ch):∀l l':List (Nat×Nat×Ch),(∀ {α:Type} (k:List (Nat×Nat×Ch)→α),ym t v a l k=k l')→ki v l l'
 | [],l',h=>by
  have e: [(t,v,a)]=l':=h id
  subst e
  intro b
  simp only [bX,aF]
  cases e:Nat.beq t b with
  |true=>exact .inr (.inl (Nat.le_refl _))
  |false=>exact .inl ⟨rfl,rfl⟩
 |(u,w,c)::r,l',h=>by
  have e:=h id
  unfold ym at e
  cases e1:Nat.beq u t with
  |true=>
   rw [e1] at e
   simp only [id] at e
   subst e
   have:=Nat.eq_of_beq_eq_true e1
   subst this
   intro b
   simp only [bX,aF]
   cases e2:Nat.beq u b with
   |true=>exact .inr (.inl (Nat.le_refl _))
   |false=>exact .inl ⟨rfl,rfl⟩
  |false=>
   rw [e1] at e
   simp only at e
   obtain ⟨l2,h2,_⟩:=ia t v a r
   rw [h2] at e
   simp only [id] at e
   subst e
   have ih:=qo t v a r l2 h2
   intro b
   simp only [bX,aF]
   cases e2:Nat.beq u b with
   |true=>exact .inl ⟨rfl,rfl⟩
   |false=>exact ih b
theorem xR (t v:Nat):∀l l':List (Nat×Nat×Ch),(∀ {α:Type} (k:List (Nat×Nat×Ch)→α),zj t l k=k l')→ki v l l'∧bX l' t=0
 | [],l',h=>by
  have e: []=l':=h id
  subst e
  exact ⟨ki.refl _ _,rfl⟩
 |(u,w,c)::r,l',h=>by
  have e:=h id
  unfold zj at e
  obtain ⟨l2,h2,h3⟩:=jZ t r
  obtain ⟨ih,ih0⟩:=xR t v r l2 h2
  cases e1:Nat.beq u t with
  |true=>
   rw [e1] at e
   simp only at e
   rw [h2] at e
   simp only [id] at e
   subst e
   have:=Nat.eq_of_beq_eq_true e1
   subst this
   refine ⟨fun b=> ?_,ih0⟩
   simp only [bX,aF]
   cases e2:Nat.beq u b with
   |true=>have:=Nat.eq_of_beq_eq_true e2;subst this;exact .inr (.inr ih0)
   |false=>exact ih b
  |false=>
   rw [e1] at e
   simp only at e
   rw [h2] at e
   simp only [id] at e
   subst e
   refine ⟨fun b=> ?_,?_⟩
   ·simp only [bX,aF]
    cases e2:Nat.beq u b with
    |true=>exact .inl ⟨rfl,rfl⟩
    |false=>exact ih b
   ·simp only [bX,e1];exact ih0
theorem oW (v:Nat):∀(u:List (Nat×Option Ch)) (l l':List (Nat×Nat×Ch)),(∀ {α:Type} (k:List (Nat×Nat×Ch)→α),wc v u l k=k l')→ki v l l'
 | [],l,l',h=>by
  have e:l=l':=h id
  subst e;exact ki.refl _ _
 |(b,c)::r,l,l',h=>by
  have e:=h id
  cases c with
  |some c=>
   obtain ⟨l1,h1,_⟩:=ia b v c l
   obtain ⟨l2,h2,_⟩:=fO v r l1
   simp only [wc,h1,h2,id] at e
   subst e
   exact (qo b v c l l1 h1).trans (Nat.le_refl _) (oW v r l1 l2 h2)
  |none=>
   obtain ⟨l1,h1,_⟩:=jZ b l
   obtain ⟨l2,h2,_⟩:=fO v r l1
   simp only [wc,h1,h2,id] at e
   subst e
   exact (xR b v l l1 h1).1.trans (Nat.le_refl _) (oW v r l1 l2 h2)
theorem jn {ty:Nat→TE} {ct:Nat→Option CF} {all:List Oper} {ds:List (Nat×Bool)}:∀(ops:List Oper) (i:Nat) (sl:List (Nat×Nat×List AV)) (hp:List (Nat×Nat×Ch)) (nx:Nat) (rs:List fJ) (S:AS),
  dR ty ct all ds i ops sl hp nx= .ok rs S→ki nx hp S.hp
 | [],i,sl,hp,nx,rs,S,h=>by
  simp only [dR,Fi.ok.injEq] at h
  obtain ⟨rfl,rfl⟩:=h
  exact ki.refl _ _
 |⟨dst,op,tp,pos,aft,g⟩::ops,i,sl,hp,nx,rs,S,h=>by
  unfold dR at h
  simp only at h
  cases e:(iK ty ct all i g op nx).run (bY sl) (aF hp) (iR i ds) with
  |need p=>rw [e] at h;cases h
  |fail=>rw [e] at h;cases h
  |ok res rd qs=>
   obtain ⟨out,upd,pre,fact⟩:=res
   rw [e] at h
   simp only at h
   obtain ⟨hp',h1,e1⟩:=fO nx upd hp
   rw [h1] at h
   have hv:=oW nx upd hp hp' h1
   cases dst with
   |some t=>
    simp only at h
    obtain ⟨sl',h2,e2⟩:=jW t nx out sl
    rw [h2,ck] at h
    obtain ⟨l,rfl,h9⟩:=Fi.cons_ok h
    exact hv.trans (by omega) (jn ops _ _ _ _ _ _ h9)
   |none=>
    simp only [ck] at h
    obtain ⟨l,rfl,h9⟩:=Fi.cons_ok h
    exact hv.trans (by omega) (jn ops _ _ _ _ _ _ h9)
section
variable {ty:Nat→TE} {ct:Nat→Option CF} {N:Nat}
theorem Gy (hm:Tryz.prog.follows .mixedOrders=true) (hO:az ty ct) {id:Nat} {ops:Array Oper} {dr:Bool} {S S':AS} {K:KK} {ds:List (Nat×Bool)} {rs:List fJ}
  (he:dR ty ct ops.toList ds 0 ops.toList S.sl S.hp S.nx= .ok rs S') (hord:dr=true→jD (FT ops.toList) 0 rs=true) (hea:yD 0 ops.toList=true) (hd:mU N ops.toList=true)
  (hv:yO rs (E3 rs (sV rs (K .normal S')))):JK N (.region id ops dr) S K:=by
 intro η a w ⟨hS,hfree⟩
 obtain ⟨hlen,hrun,hfin,hnx⟩:=lr _ _ _ _ _ _ _ he
 have hver:=jn _ _ _ _ _ _ _ he
 obtain ⟨hq,hv⟩:=qp hv
 obtain ⟨hpre,hv⟩:=mE hv
 have hearl:=qh hea
 have hdst:=jj hd
 have hsz:ops.toList.length=ops.size:=by simp
 have hop:∀ {j:Nat} {o:Oper},ops[j]?=some o→ops.toList[j]?=some o:=fun h=>by simpa using h
 have hend:∀(a':Act) (w':World) (L:Nat→Bool),(∀i,i<ops.size→L i=true)→vA ops.toList rs ⟨bY S.sl,aF S.hp⟩ N S.nx η w L a' w'→ju N (dQ (.region id ops dr)) S η w K .normal a' w':=by
  rintro a' w' L hall ⟨_,η',h1,h2,h3,h4,h5,h6⟩
  have e:=DF rs 0 L ⟨bY S.sl,aF S.hp⟩ fun k hk=>by rw [Nat.zero_add];exact hall k (by omega)
  have hfin':rs.foldl (fun F r=>r.app F) ⟨bY S.sl,aF S.hp⟩=⟨bY S'.sl,aF S'.hp⟩:=hfin
  rw [e,hfin'] at h1 h2
  refine ⟨.normal,S',η',rfl,kM hv fun r hr=> ?_,⟨h1,fun b hb=>h4 b (by omega)⟩,h2,⟨by omega,fun b=>hver b⟩,h5,fun t ht=> ?_⟩
  ·obtain ⟨k,hk,rfl⟩:=List.mem_iff_getElem.1 hr
   exact h6 k _ (hall k (by omega)) (List.getElem?_eq_getElem hk)
  ·have hs:=wX rs ⟨bY S.sl,aF S.hp⟩ t fun r hr=>by
    obtain ⟨k,hk,rfl⟩:=List.mem_iff_getElem.1 hr
    have ho:ops.toList[k]?=some (ops.toList[k]'(by omega)):=List.getElem?_eq_getElem (by omega)
    have:=(hrun k _ _ ho (List.getElem?_eq_getElem hk)).1
    rw [this]
    intro e2
    have hmem:t∈dQ (.region id ops dr):=by
     unfold dQ
     rw [List.mem_filterMap]
     exact ⟨_,List.getElem_mem (by omega),e2⟩
    rw [←dH,ht] at hmem
    cases hmem
   rw [hfin] at hs
   exact hs
 have hrun':∀k o r,ops.toList[k]?=some o→rs[k]?=some r→r.dst=o.dst∧(iK ty ct ops.toList k o.guard o.op (S.nx+16*k)).run (jf (rs.take k) ⟨bY S.sl,aF S.hp⟩).s (jf (rs.take k) ⟨bY S.sl,aF S.hp⟩).h (iR k ds)= .ok ⟨r.out,r.upd,r.pre,r.fact⟩ r.rd r.qs:=fun k o r h1 h2=>by
  have:=hrun k o r h1 h2
  rw [Nat.zero_add] at this;exact this
 have h0:∀w1:World,Fw (aF S.hp) η w (aF S.hp) η w1→gR (bY S.sl) (aF S.hp) N η a w1→vA ops.toList rs ⟨bY S.sl,aF S.hp⟩ N S.nx η w (fun _=>false) a w1:=fun w1 hF hS1=>by
  have e:oQ rs 0 (fun _=>false) ⟨bY S.sl,aF S.hp⟩=⟨bY S.sl,aF S.hp⟩:=pB _ _ _ _ fun _ _=>rfl
  refine ⟨fun k d o' hk=>(by cases hk),η,?_,?_,fun k b _ h1 _=>hfree b (by omega),fun b hb=>hfree b (by omega),fun _ _=>rfl,fun k r hk=>(by cases hk)⟩
  ·rw [e];exact hS1
  ·rw [e];exact hF
 cases dr with
 |true=>
  have hanc:=kr (hord rfl)
  refine wp_region_any hm (sO ?_ (vA ops.toList rs ⟨bY S.sl,aF S.hp⟩ N S.nx η w) ?_ (fun L a' w' hall h=>hend a' w' L hall h) _ _ _ _ (by simp) (by simp) ?_)
  ·unfold fh
   rw [List.all_eq_true]
   intro i hi
   simp only [List.mem_range] at hi
   have ho:ops[i]?=some ops[i]:=by simp [hi]
   simp only [ho,Option.map_some,Option.getD_some,Array.all_eq_true_iff_forall_mem,Bool.or_eq_true,Bool.not_eq_true',decide_eq_true_eq]
   intro e he'
   cases hb:Region.binds .any e with
   |false=>exact .inl rfl
   |true=>have:=hearl i _ (hop ho) e he' hb;exact .inr (by omega)
  ·intro i o ho L a' w' hM hL hdep
   refine wpOp_step ho (fun K' hK'=> ?_)
   have:=vA.step (P:=Tryz.prog) (ty:=ty) (ct:=ct) (Q:=ju N (dQ (.region id ops true)) S η w K) hlen hrun' hq hpre hdst (hop ho) (hO _ _ _ _ _ (hop ho)) hM hL hdep ?_ K' (fun a2 w2 h2=>hK' _ _ h2)
   ·simpa using this
   ·intro hcl r hr x hx k q hk hxq
    have hoj:=hop ho
    have hLj:=hL
    have hdj:=hdep
    have hkl:k<rs.length:=(List.getElem?_eq_some_iff.1 hk).1
    rcases Nat.lt_trichotomy k i with hkj|hkj|hkj
    ·have hb:=hanc k i q r hkj hk hr (by rw [th];exact .inl ⟨x,hxq,hx⟩)
     rw [Nat.zero_add,Nat.zero_add] at hb
     rw [sf hcl hoj hdj hb];simp [hkj]
    ·subst hkj;rw [hLj];simp
    ·have hb:=hanc i k r q hkj hr hk (by
      rw [th]
      rcases hx with hx|hx
      ·exact .inr ⟨x,hx,hxq⟩
      ·exact .inl ⟨x,hx,.inr hxq⟩)
     rw [Nat.zero_add,Nat.zero_add] at hb
     have hok:ops.toList[k]?=some (ops.toList[k]'(by omega)):=List.getElem?_eq_getElem (by omega)
     cases hLk:L k with
     |false=>simp;omega
     |true=>
      have:=sf hcl hok (fun e he' hb'=>hcl k e.on _ hLk hok ⟨e,he',hb',rfl⟩) hb
      rw [this] at hLj;cases hLj
  ·rw [yZ]
   exact h0 w.drew (Fw.drew _ _ _) ⟨hS.df,hS.sz,fun t=>(hS.slot t).later (Fw.drew (aF S.hp) η w).lt,fun b c hb=>(hS.chunk b c hb).later (Fw.drew (aF S.hp) η w).lt fun _ _=>rfl,hS.apart⟩
 |false=>
  have key:∀(m i:Nat) (a':Act) (w':World),i+m=ops.size→vA ops.toList rs ⟨bY S.sl,aF S.hp⟩ N S.nx η w (fun j=>decide (j<i)) a' w'→wpOps Tryz.prog ops (ju N (dQ (.region id ops false)) S η w K) (List.range' i m) a' w':=by
   intro m
   induction m with
   |zero=>
    intro i a' w' hi hM
    exact hend a' w' _ (fun j hj=>by simp;omega) hM
   |succ m ih=>
    intro i a' w' hi hM
    have hlt:i<ops.size:=by omega
    have ho:ops[i]?=some ops[i]:=by simp [hlt]
    rw [List.range'_succ,wpOps_cons]
    refine wpOp_step ho (fun K' hK'=> ?_)
    have hdep:∀e∈(ops[i]).after,Region.binds .any e=true→decide (e.on<i)=true:=fun e he' hb=>by
     have:=hearl i _ (hop ho) e he' hb
     rw [Nat.zero_add] at this
     simpa using this
    have e:dT (fun j=>decide (j<i)) i=fun j=>decide (j<i+1):=by
     funext j;unfold dT;split
     ·subst_vars;simp
     ·rw [decide_eq_decide];omega
    have:=vA.step (P:=Tryz.prog) (ty:=ty) (ct:=ct) (Q:=ju N (dQ (.region id ops false)) S η w K) hlen hrun' hq hpre hdst (hop ho) (hO _ _ _ _ _ (hop ho)) hM (by simp) hdep (fun _ _ _ _ _ _ _ _ _=>rfl) K' (fun a2 w2 h2=>hK' _ _ (ih (i+1) a2 w2 (by omega) (by rw [←e];exact h2)))
    simpa using this
  refine wp_region ?_
  rw [List.range_eq_range']
  refine key _ 0 a w (by simp) ?_
  have e:(fun j:Nat=>decide (j<0))=fun _=>false:=by funext j;simp
  rw [e]
  exact h0 w (Fw.refl _ _ _) hS
end
section loops
variable {P:Program} {Q:Exit→Act→World→Prop}
def BL (P:Program) (c:Code) (Q:Exit→Act→World→Prop):Nat→Act→World→Prop
 |0,_,_=>False
 |m+1,a,w=>c.wp P (Exit.then (BL P c Q m) Q) a w
theorem Dc {c:Code} {a:Act} {w:World} (m:Nat) (h:BL P c Q m a w):(Code.loop c).wp P Q a w:=by
 intro b k cs
 have key:∀m a w,BL P c Q m a w→∃e a' w',Q e a' w'∧Arrives P (lone (b.at a (.code c:: .inLoop c::k)) cs w) b k cs e a' w':=by
  intro m
  induction m with
  |zero=>intro a w h;exact h.elim
  |succ m ih=>
   intro a w h
   obtain ⟨e,a₁,w₁,hq,harr⟩:=h b (.inLoop c::k) cs
   cases e with
   |normal=>
    obtain ⟨e₂,a₂,w₂,hq₂,harr₂⟩:=ih a₁ w₁ hq
    exact ⟨e₂,a₂,w₂,hq₂,.of_steps (Steps.trans harr (.one step_inLoop)) harr₂⟩
   |exit id=>exact ⟨_,a₁,w₁,hq,.pass (x:= .inLoop c) rfl (fun _ _=> .inl (by simp)) harr⟩
   |goto l=>exact ⟨_,a₁,w₁,hq,.pass (x:= .inLoop c) rfl (fun _ _=> .inl (by simp)) harr⟩
   |ret=>exact ⟨_,a₁,w₁,hq,.pass (x:= .inLoop c) rfl (fun _ _=> .inl (by simp)) harr⟩
   |panic ch=>exact ⟨_,a₁,w₁,hq,.pass (x:= .inLoop c) rfl (fun _ _=> .inl (by simp)) harr⟩
   |outgrown=>exact ⟨_,a₁,w₁,hq,.pass (x:= .inLoop c) rfl (fun _ _=> .inl (by simp)) harr⟩
 obtain ⟨e,a',w',hq,harr⟩:=key m a w h
 exact ⟨e,a',w',hq,.of_steps (.one step_loop) harr⟩
theorem EU {ι:Type} {c:Code} {a:Act} {w:World} (I:ι→Act→World→Prop) (μ:ι→Nat) (i:ι) (h₀:I i a w)
  (round:∀i a w,I i a w→c.wp P (Exit.then (fun a' w'=>∃j,μ j<μ i∧I j a' w') Q) a w):(Code.loop c).wp P Q a w:=by
 have key:∀n i a w,μ i=n→I i a w→BL P c Q (n+1) a w:=by
  intro n
  induction n using Nat.strongRecOn with
  |_ n ih=>
   intro i a w hn hI
   have mono:∀m m' a w,m≤m'→BL P c Q m a w→BL P c Q m' a w:=by
    intro m
    induction m with
    |zero=>intro m' a w _ h;exact h.elim
    |succ m ihm=>
     intro m' a w hle h
     obtain ⟨m',rfl⟩:∃k,m'=k+1:=⟨m'-1,by omega⟩
     exact wp_mono h fun e a w hq=>by
      cases e with
      |normal=>exact ihm m' a w (by omega) hq
      |_=>exact hq
   exact wp_mono (round i a w hI) fun e a w hq=>by
    cases e with
    |normal=>
     obtain ⟨j,hlt,hj⟩:=hq
     exact mono (μ j+1) n a w (by omega) (ih (μ j) (by omega) j a w rfl hj)
    |_=>exact hq
 exact Dc _ (key _ i a w rfl h₀)
end loops
theorem aQ {a b:Nat} (h:Nat.beq a b=true):a=b:=Nat.eq_of_beq_eq_true h
def fH (σ τ:ew):Prop:=(∀b a,bH σ.m b=some a→bH τ.m b=some a)∧∀a,bI a σ.u=true→bI a τ.u=true
theorem fH.refl (σ:ew):fH σ σ:=⟨fun _ _ h=>h,fun _ h=>h⟩
theorem fH.trans {a b c:ew} (h:fH a b) (k:fH b c):fH a c:=⟨fun x y e=>k.1 x y (h.1 x y e),fun x e=>k.2 x (h.2 x e)⟩
theorem g9 (a:Nat):∀m:List (Nat×Option Nat),dW m a=true↔∃p∈m,p.2=some a
 | []=>by simp [dW]
 |(b,none)::r=>by
  have e:dW ((b,none)::r) a=dW r a:=rfl
  rw [e,g9 a r]
  constructor
  ·rintro ⟨p,h1,h2⟩;exact ⟨p,.tail _ h1,h2⟩
  ·rintro ⟨p,h1,h2⟩
   rcases List.mem_cons.1 h1 with h1|h1
   ·subst h1;cases h2
   ·exact ⟨p,h1,h2⟩
 |(b,some c)::r=>by
  cases e:Nat.beq c a with
  |true=>
   have e1:dW ((b,some c)::r) a=true:=by simp only [dW,e]
   rw [e1]
   exact ⟨fun _=>⟨(b,some c),.head _,by rw [aQ e]⟩,fun _=>rfl⟩
  |false=>
   have e1:dW ((b,some c)::r) a=dW r a:=by simp only [dW,e]
   have hne:=Nat.ne_of_beq_eq_false e
   rw [e1,g9 a r]
   constructor
   ·rintro ⟨p,h1,h2⟩;exact ⟨p,.tail _ h1,h2⟩
   ·rintro ⟨p,h1,h2⟩
    rcases List.mem_cons.1 h1 with h1|h1
    ·subst h1;simp at h2;exact absurd h2 hne
    ·exact ⟨p,h1,h2⟩
structure fA (H:Nat→Option Ch) (kp:Nat→Bool) (σ:ew):Prop where
 inj:∀b b' a,bH σ.m b=some (some a)→bH σ.m b'=some (some a)→b=b'
 used:∀b a,bH σ.m b=some (some a)→dW σ.m a=true
 kept:∀b a,bH σ.m b=some (some a)→kp a=false
 ukept:∀a,bI a σ.u=true→kp a=false
 shut:∀b a,bH σ.m b=some (some a)→bI a σ.u=false
 live:∀a,bI a σ.u=true→H a≠none
theorem fA.nil (H:Nat→Option Ch) (kp:Nat→Bool):fA H kp ⟨[],[]⟩:=⟨fun _ _ _ h=>(by cases h),fun _ _ h=>(by cases h),fun _ _ h=>(by cases h),fun _ h=>(by cases h),fun _ _ h=>(by cases h),fun _ h=>(by cases h)⟩
section mt
variable {H:Nat→Option Ch} {kp:Nat→Bool} {η:bx} {A:Nat→Prop} {w:World}
structure jF (nx:Nat) (kp:Nat→Bool) (η:bx) (A:Nat→Prop) (σ:ew) (η':bx) (A':Nat→Prop):Prop where
 old:∀b,cX b=false→b<nx→∀v,η b=some v→η' b=some v
 new:∀b a,cX b=true→bH σ.m b=some (some a)→η' (nx+b)=η a
 nil:∀b,cX b=true→bH σ.m b=some none→η' (nx+b)=some (.slice none 0 0)
 anon:∀g,A g→A' g
 shared:∀a g,bI a σ.u=true→bu η a=some g→A' g
def jb (H:Nat→Option Ch) (nx:Nat) (kp:Nat→Bool) (η:bx) (A:Nat→Prop) (σ:ew) (k:ew→Prop) (X:bx→(Nat→Prop)→Prop):Prop:=
 ∃τ,fH σ τ∧fA H kp τ∧k τ∧∀υ,fH τ υ→∀η' A',jF nx kp η A υ η' A'→X η' A'
theorem l5 {k q:Kd} {l:List k.T} {m:List q.T} (h:ja k q l m) {cs:List Value} (hl:bj k.rp l cs):bj q.rp m cs∧k.n=q.n∧l.length=m.length:=by
 cases k<;>cases q<;>simp only [ja] at h
 all_goals first |(subst h;exact ⟨hl,rfl,rfl⟩)|skip
 obtain ⟨h1,h2⟩:=h
 subst h1
 subst h2
 exact ⟨hl,rfl,rfl⟩
theorem nX {nx:Nat} {σ:ew} (hσ:fA H kp σ) {a b:Nat} (hlt:Nat.blt b nx=true) {k:ew→Prop} (h:Gk kp σ a b k):jb H nx kp η A σ k fun η' _=>∀v,η a=some v→η' (eL nx b)=some v:=by
 unfold Gk at h
 cases hb:cX b with
 |false=>
  rw [hb] at h
  simp only at h
  cases e:Nat.beq a b with
  |false=>rw [e] at h;exact h.elim
  |true=>
   rw [e] at h
   have:=aQ e
   subst this
   refine ⟨σ,fH.refl _,hσ,h,fun υ _ η' A' hM v hv=> ?_⟩
   unfold eL;rw [hb];exact hM.old _ hb (by simpa using hlt) v hv
 |true=>
  rw [hb] at h
  simp only at h
  cases e:bH σ.m b with
  |some c=>
   rw [e] at h
   cases c with
   |none=>exact h.elim
   |some c=>
    simp only at h
    cases e2:Nat.beq a c with
    |false=>rw [e2] at h;exact h.elim
    |true=>
     rw [e2] at h
     have:=aQ e2
     subst this
     refine ⟨σ,fH.refl _,hσ,h,fun υ hle η' A' hM v hv=> ?_⟩
     unfold eL;rw [hb]
     simp only
     rw [hM.new b a hb (hle.1 _ _ e)];exact hv
  |none=>
   rw [e] at h
   simp only [PK] at h
   cases e1:kp a with
   |true=>rw [e1] at h;exact h.elim
   |false=>
    rw [e1] at h
    cases e2:dW σ.m a with
    |true=>rw [e2] at h;exact h.elim
    |false=>
     rw [e2] at h
     cases e3:bI a σ.u with
     |true=>rw [e3] at h;exact h.elim
     |false=>
      rw [e3] at h
      simp only at h
      have hnew:∀x y,bH ((b,some a)::σ.m) x=some y→(x=b∧y=some a)∨(x≠b∧bH σ.m x=some y):=fun x y hx=>by
       unfold bH at hx
       cases e4:Nat.beq b x with
       |true=>rw [e4] at hx;simp at hx;exact .inl ⟨(aQ e4).symm,hx.symm⟩
       |false=>rw [e4] at hx;exact .inr ⟨fun e=>Nat.ne_of_beq_eq_false e4 e.symm,hx⟩
      have hne:∀x,bH σ.m x≠some (some a):=fun x hx=>by rw [hσ.used x a hx] at e2;cases e2
      refine ⟨⟨(b,some a)::σ.m,σ.u⟩,⟨fun x y hx=> ?_,fun _ h=>h⟩,⟨fun x x' y hx hx'=> ?_,fun x y hx=> ?_,fun x y hx=> ?_,hσ.ukept,fun x y hx=> ?_,hσ.live⟩,h,fun υ hle η' A' hM v hv=> ?_⟩
      ·unfold bH
       cases e4:Nat.beq b x with
       |true=>have:=aQ e4;subst this;rw [e] at hx;cases hx
       |false=>exact hx
      ·rcases hnew x _ hx with ⟨h1,h2⟩|⟨h1,h2⟩
       ·simp at h2;subst h2
        rcases hnew x' _ hx' with ⟨h3,h4⟩|⟨h3,h4⟩
        ·rw [h1,h3]
        ·exact absurd h4 (hne _)
       ·rcases hnew x' _ hx' with ⟨h3,h4⟩|⟨h3,h4⟩
        ·simp at h4;subst h4;exact absurd h2 (hne _)
        ·exact hσ.inj _ _ _ h2 h4
      ·rw [g9]
       rcases hnew x _ hx with ⟨h1,h2⟩|⟨h1,h2⟩
       ·exact ⟨(b,some a),by simp,h2.symm⟩
       ·have:=hσ.used x y h2
        rw [g9] at this
        obtain ⟨p,h3,h4⟩:=this
        exact ⟨p,by simp [h3],h4⟩
      ·rcases hnew x _ hx with ⟨h1,h2⟩|⟨h1,h2⟩
       ·simp at h2;subst h2;exact e1
       ·exact hσ.kept x y h2
      ·rcases hnew x _ hx with ⟨h1,h2⟩|⟨h1,h2⟩
       ·simp at h2;subst h2;exact e3
       ·exact hσ.shut x y h2
      ·unfold eL;rw [hb]
       simp only
       rw [hM.new b a hb (hle.1 b (some a) (by unfold bH;simp))];exact hv
theorem tu {nx:Nat} {σ:ew} (hσ:fA H kp σ) {a:Nat} (hne:H a≠none) {k:ew→Prop} (h:ud kp σ a k):jb H nx kp η A σ k fun _ A'=>∀g,bu η a=some g→A' g:=by
 unfold ud at h
 cases e1:kp a with
 |true=>rw [e1] at h;exact h.elim
 |false=>
  rw [e1] at h
  cases e2:dW σ.m a with
  |true=>rw [e2] at h;exact h.elim
  |false=>
   rw [e2] at h
   have hme:∀x,bI x (a::σ.u)=true→x=a∨bI x σ.u=true:=fun x hx=>by
    rw [dH] at hx ⊢
    rcases List.mem_cons.1 hx with h|h
    ·exact .inl h
    ·exact .inr h
   refine ⟨⟨σ.m,a::σ.u⟩,⟨fun _ _ h=>h,fun x hx=>by rw [dH] at hx ⊢;simp [hx]⟩,⟨hσ.inj,hσ.used,hσ.kept,fun x hx=> ?_,fun x y hx=> ?_,fun x hx=> ?_⟩,h,fun υ hle η' A' hM g hg=>hM.shared a g (hle.2 a (by rw [dH];simp)) hg⟩
   ·rcases hme x hx with rfl|hx
    ·exact e1
    ·exact hσ.ukept x hx
   ·cases e3:bI y (a::σ.u) with
    |false=>rfl
    |true=>
     rcases hme y e3 with rfl|h3
     ·rw [hσ.used x y hx] at e2;cases e2
     ·rw [hσ.shut x y hx] at h3;cases h3
   ·rcases hme x hx with rfl|hx
    ·exact hne
    ·exact hσ.live x hx
theorem jb.pure {nx:Nat} {σ:ew} (hσ:fA H kp σ) {k:ew→Prop} (h:k σ) {X:bx→(Nat→Prop)→Prop} (hX:∀υ η' A',fH σ υ→jF nx kp η A υ η' A'→X η' A'):jb H nx kp η A σ k X:=
 ⟨σ,fH.refl _,hσ,h,fun υ hle η' A' hM=>hX υ η' A' hle hM⟩
theorem jb.imp {nx:Nat} {σ:ew} {k:ew→Prop} {X Y:bx→(Nat→Prop)→Prop} (h:jb H nx kp η A σ k X) (hXY:∀υ η' A',jF nx kp η A υ η' A'→X η' A'→Y η' A'):jb H nx kp η A σ k Y:=by
 obtain ⟨τ,h1,h2,h3,h4⟩:=h
 exact ⟨τ,h1,h2,h3,fun υ hle η' A' hM=>hXY υ η' A' hM (h4 υ hle η' A' hM)⟩
end mt
section mt
variable {H:Nat→Option Ch} {kp:Nat→Bool} {η:bx} {A:Nat→Prop} {w:World} {nx:Nat}
theorem jb.bind {σ:ew} {k:ew→Prop} {f:ew→Prop} {X Y:bx→(Nat→Prop)→Prop} (h:jb H nx kp η A σ f X) (hf:∀τ,fA H kp τ→f τ→jb H nx kp η A τ k Y):jb H nx kp η A σ k fun η' A'=>X η' A'∧Y η' A':=by
 obtain ⟨τ,h1,h2,h3,h4⟩:=h
 obtain ⟨υ,g1,g2,g3,g4⟩:=hf τ h2 h3
 exact ⟨υ,h1.trans g1,g2,g3,fun ρ hle η' A' hM=>⟨h4 ρ (g1.trans hle) η' A' hM,g4 ρ hle η' A' hM⟩⟩
theorem jB {E:Nat} {k:Kd} {l:List k.T} {v:Value} {cs:List Value} (hl:bj k.rp l cs) (ho:w.ownsRow 0 E k.n v l.length cs):
  (v= .slice none 0 0∧l= [])∨∃g c,v= .slice (some ⟨g,0,none⟩) l.length c∧l.length≤c∧c≤maxLen∧w.rangeAt g 0 cs:=by
 rcases ho.2 with ⟨h1,h2⟩|⟨g,cap,cur,h1,_,h2,h3,h4,h5,h6⟩
 ·exact .inl ⟨h1,List.eq_nil_of_length_eq_zero h2⟩
 ·refine .inr ⟨g,cap,h1,h3,h4,fun j u hu=> ?_⟩
  rw [Nat.zero_add,←h6,List.getElem?_take] at*
  split at hu
  ·simp only [World.cell?,h2,Option.isSome_none,Bool.false_eq_true,if_false]
   simpa using hu
  ·cases hu
theorem uO {E:Nat} {k:Kd} {l:List k.T} {b:Nat} (h:(Ch.row E k l).H η A w b) {A':Nat→Prop} (hA:∀g,bu η b=some g→A' g):∃v,η b=some v∧dU A' w k l v:=by
 obtain ⟨v,cs,h1,h2,h3⟩:=h
 refine ⟨v,h1,?_⟩
 rcases jB h2 h3 with ⟨e,rfl⟩|⟨g,c,e,h4,h5,h6⟩
 ·exact ⟨none,0,e,Nat.le_refl _,by simp,fun _=>rfl,fun h=>by simp at h⟩
 ·exact ⟨_,c,e,h4,h5,fun h=>(by cases h),fun _=>⟨g,0,cs,rfl,hA g (by unfold bu;rw [h1,e];rfl),h2,h6⟩⟩
theorem dU.cast {A':Nat→Prop} {k q:Kd} {l:List k.T} {m:List q.T} {v:Value} (he:ja k q l m) (hA:∀g,A g→A' g) (h:dU A w k l v):dU A' w q m v:=by
 obtain ⟨a,c,h1,h2,h3,h4,h5⟩:=h
 have hlen:l.length=m.length:=by
  cases k<;>cases q<;>simp only [ja] at he
  all_goals first |(subst he;rfl)|skip
  obtain ⟨e1,e2⟩:=he
  subst e1;subst e2;rfl
 refine ⟨a,c,by rw [←hlen];exact h1,by omega,h3,h4,fun hn=> ?_⟩
 obtain ⟨g,o,cs,e,hg,hc,hr⟩:=h5 (by omega)
 exact ⟨g,o,cs,e,hA g hg,(l5 he hc).1,hr⟩
theorem zH {E:Nat} {k:Kd} {l:List k.T} {b lo n:Nat} (hk:k.n=1) (h:(Ch.row E k l).H η A w b) {cs:List Value} (hs:(Cl.sub b lo n).H η A w cs) {A':Nat→Prop} (hA:∀g,bu η b=some g→A' g):
  ∃v,cs= [v]∧dU A' w k ((l.drop lo).take n) v:=by
 obtain ⟨v,cs',h1,h2,h3⟩:=h
 obtain ⟨v',a,c,g1,g2,g3,g4,g5,g6⟩:=hs
 rw [h1] at g1;cases g1
 have hlen:((l.drop lo).take n).length=n:=by
  rcases Nat.eq_zero_or_pos n with h0|h0
  ·subst h0;simp
  ·obtain ⟨g,N,C,e1,_,e3⟩:=g6 h0
   rcases jB h2 h3 with ⟨e,rfl⟩|⟨g',c',e,h4,h5,h6⟩
   ·rw [e] at e1;cases e1
   ·rw [e] at e1;cases e1
    rw [List.length_take,List.length_drop];omega
 refine ⟨_,g2,a,c,by rw [hlen],by omega,g4,g5,fun hn0=> ?_⟩
 obtain ⟨g,N,C,e1,e2,_⟩:=g6 (by omega)
 rcases jB h2 h3 with ⟨e,rfl⟩|⟨g',c',e,h4,h5,h6⟩
 ·rw [e] at e1;cases e1
 ·rw [e] at e1;cases e1
  have hd:=(h2.drop lo).take n
  rw [k.rp_n,hk,Nat.one_mul,Nat.one_mul] at hd
  refine ⟨g,lo,_,e2,hA g (by unfold bu;rw [h1,e];rfl),hd,fun j u hu=> ?_⟩
  have hu2:cs'[lo+j]?=some u:=by
   rw [List.getElem?_take] at hu
   split at hu
   ·rw [List.getElem?_drop] at hu;exact hu
   ·cases hu
  have:=h6 (lo+j) u hu2
  rw [Nat.zero_add] at this;exact this
theorem Kd.one_rep {k:Kd} (hk:k.n=1) {x:k.T} {cs:List Value} (h:k.rp.rep x cs):∃v,cs= [v]∧v.oneCell'=true:=by
 have h1:=k.rp.len _ _ h
 rw [k.rp_n,hk] at h1
 obtain ⟨v,rfl⟩:=List.length_eq_one_iff.1 h1
 exact ⟨v,rfl,k.rp.one _ _ h v (by simp)⟩
theorem zJ (k:Kd):dU A w k [] (.slice none 0 0):=⟨none,0,rfl,Nat.le_refl _,by simp,fun _=>rfl,fun h=>by simp at h⟩
theorem J2 (hH:∀b c,H b=some c→c.H η A w b) {x y:Cl} (hy:y.lt nx=true) {cs:List Value} (hx:x.H η A w cs) {σ:ew} (hσ:fA H kp σ) {k:ew→Prop} (h:qT H kp x y σ k):jb H nx kp η A σ k fun η' A'=>(y.rn nx).H η' A' w cs:=by
 cases y with
 |any=>
  have key:(∃v,cs= [v]∧v.oneCell'=true)→k σ→jb H nx kp η A σ k fun η' A'=>(Cl.any.rn nx).H η' A' w cs:=fun h1 h2=> .pure hσ h2 fun _ _ _ _ _=>h1
  cases x<;>simp only [qT] at h
  ·exact key hx h
  ·exact key ⟨_,hx⟩ h
  ·rename_i q z
   cases e:Nat.beq q.n 1 with
   |false=>rw [e] at h;exact h.elim
   |true=>rw [e] at h;exact key (Kd.one_rep (aQ e) hx) h
  ·obtain ⟨g,_,e⟩:=hx;exact key ⟨_,e,rfl⟩ h
  ·obtain ⟨g,_,e⟩:=hx;exact key ⟨_,e,rfl⟩ h
  ·obtain ⟨g,o,us,e,_⟩:=hx;exact key ⟨_,e,rfl⟩ h
  ·obtain ⟨_,g,_,e⟩:=hx;exact key ⟨_,e,rfl⟩ h
  ·obtain ⟨v,_,e⟩:=hx;exact key ⟨_,e⟩ h
  ·obtain ⟨v,a,c,_,e,_⟩:=hx;exact key ⟨_,e,rfl⟩ h
  ·obtain ⟨v,e,a,c,e2,_⟩:=hx;exact key ⟨_,e,by rw [e2];rfl⟩ h
  ·obtain ⟨a,c,e,_⟩:=hx;exact key ⟨_,e,rfl⟩ h
  ·obtain ⟨g,o,v,e,_⟩:=hx;exact key ⟨_,e,rfl⟩ h
  ·obtain ⟨e,⟨a,c,e2⟩,_⟩:=hx;exact key ⟨_,e,by rw [e2];rfl⟩ h
  ·obtain ⟨e,g,m,D,e2,_⟩:=hx;exact key ⟨_,e,by rw [e2];rfl⟩ h
  ·obtain ⟨e,a,c,e2,_⟩:=hx;exact key ⟨_,e,by rw [e2];rfl⟩ h
 |un=>
  cases x<;>simp only [qT] at h
  exact .pure hσ h fun _ _ _ _ _=>hx
 |cv v=>
  cases x<;>simp only [qT] at h
  obtain ⟨rfl,h⟩:=h
  exact .pure hσ h fun _ _ _ _ _=>hx
 |ob q y=>
  have key:∀ {p:Kd} {x:p.T},p.rp.rep x cs→ja p q [x] [y]→k σ→jb H nx kp η A σ k fun η' A'=>((Cl.ob q y).rn nx).H η' A' w cs:=fun h1 h2 h3=>
   .pure hσ h3 fun _ _ _ _ _=>((l5 h2 (bj.single h1)).1).of_single
  unfold qT at h
  cases x
  case ob p x=>exact key hx h.1 h.2
  case cv v=>
   simp only at h
   split at h
   ·rename_i z he;cases he
   ·rename_i z he;cases he;exact key (p:= .int) (x:=z) hx.1 h.1 h.2
   ·rename_i z he;cases he;exact key (p:= .bool) (x:=z) hx.1 h.1 h.2
   ·exact h.elim
  all_goals exact h.elim
 |vec q m l=>
  cases x<;>simp only [qT] at h
  obtain ⟨rfl,h1,h2⟩:=h
  exact .pure hσ h2 fun _ _ _ _ _=>by
   obtain ⟨e1,e2⟩:=hx
   obtain ⟨g1,g2,g3⟩:=l5 h1 e2
   exact ⟨by omega,g1⟩
 |ptr b j=>
  cases x<;>simp only [qT] at h
  rename_i a i
  cases e:Nat.beq i j with
  |false=>rw [e] at h;exact h.elim
  |true=>
   rw [e] at h
   have:=aQ e
   subst this
   obtain ⟨g,e1,e2⟩:=hx
   exact (nX hσ hy h).imp fun _ _ _ _ hM=>⟨g,hM _ e1,e2⟩
 |pix b j i=>cases x<;>simp only [qT] at h
 |pro q z=>cases x<;>simp only [qT] at h
 |pbb l=>cases x<;>simp only [qT] at h
 |ln v n=>
  cases x<;>simp only [qT] at h
  obtain ⟨⟨rfl,rfl⟩,h⟩:=h
  exact .pure hσ h fun _ _ _ _ _=>hx
 |mp v f=>
  cases x<;>simp only [qT] at h
  obtain ⟨⟨rfl,rfl⟩,h⟩:=h
  obtain ⟨e,hm⟩:=hx
  exact .pure hσ h fun υ η' A' hle hM=>⟨e,hm.mono hM.anon⟩
 |rv v l=>
  cases x<;>simp only [qT] at h
  obtain ⟨⟨rfl,rfl⟩,h⟩:=h
  obtain ⟨e,hr⟩:=hx
  exact .pure hσ h fun υ η' A' hle hM=>⟨e,hr.cast (k:= .u8) (q:= .u8) (show ja .u8 .u8 _ _ from rfl) hM.anon⟩
 |sl b j n c=>
  cases x<;>simp only [qT] at h
  rename_i a i n' c'
  obtain ⟨hn,g,e1,e2⟩:=hx
  obtain ⟨τ,h1,h2,⟨rfl,rfl,rfl,h3⟩,h4⟩:=nX (A:=A) (η:=η) hσ hy h
  exact ⟨τ,h1,h2,h3,fun υ hle η' A' hM=>⟨hn,g,h4 υ hle η' A' hM _ e1,e2⟩⟩
 |sub b j n=>
  cases x<;>simp only [qT] at h
  rename_i a i n'
  obtain ⟨v,ad,c,e1,e2⟩:=hx
  obtain ⟨τ,h1,h2,⟨rfl,rfl,h3⟩,h4⟩:=nX (A:=A) (η:=η) hσ hy h
  exact ⟨τ,h1,h2,h3,fun υ hle η' A' hM=>⟨v,ad,c,h4 υ hle η' A' hM _ e1,e2⟩⟩
 |rw b=>
  unfold qT at h
  cases x
  case rw a=>
   obtain ⟨v,e1,e2⟩:=hx
   exact (nX hσ hy h).imp fun _ _ _ _ hM=>⟨v,hM _ e1,e2⟩
  case cv v=>
   simp only at h
   split at h
   ·rename_i he;cases he
   ·rename_i he;cases he
    cases hb:cX b with
    |false=>rw [hb] at h;exact h.elim
    |true=>
     rw [hb] at h
     simp only at h
     have hfin:∀υ,bH υ.m b=some none→∀η' A',jF nx kp η A υ η' A'→((Cl.rw b).rn nx).H η' A' w cs:=fun υ hs η' A' hM=>by
      obtain ⟨e1,e2⟩:=hx
      show (Cl.rw (eL nx b)).H η' A' w cs
      unfold eL;rw [hb]
      exact ⟨_,hM.nil b hb hs,e1,e2⟩
     cases e:bH σ.m b with
     |some c=>
      rw [e] at h
      cases c with
      |none=>exact .pure hσ h fun υ η' A' hle hM=>hfin υ (hle.1 _ _ e) η' A' hM
      |some c=>exact h.elim
     |none=>
      rw [e] at h
      simp only at h
      have hnew:∀x y,bH ((b,none)::σ.m) x=some (some y)→bH σ.m x=some (some y):=fun x y hx=>by
       unfold bH at hx
       cases e4:Nat.beq b x with
       |true=>rw [e4] at hx;simp at hx
       |false=>rw [e4] at hx;exact hx
      refine ⟨⟨(b,none)::σ.m,σ.u⟩,⟨fun x y hx=> ?_,fun _ h=>h⟩,⟨fun x x' y hx hx'=>hσ.inj _ _ _ (hnew _ _ hx) (hnew _ _ hx'),fun x y hx=> ?_,fun x y hx=>hσ.kept _ _ (hnew _ _ hx),hσ.ukept,fun x y hx=>hσ.shut _ _ (hnew _ _ hx),hσ.live⟩,h,fun υ hle η' A' hM=>hfin υ (hle.1 b none (by unfold bH;simp)) η' A' hM⟩
      ·unfold bH
       cases e4:Nat.beq b x with
       |true=>have:=aQ e4;subst this;rw [e] at hx;cases hx
       |false=>exact hx
      ·have:=hσ.used x y (hnew _ _ hx)
       rw [g9] at this ⊢
       obtain ⟨p,h3,h4⟩:=this
       exact ⟨p,by simp [h3],h4⟩
   ·exact h.elim
  all_goals exact h.elim
 |ro q l=>
  unfold qT at h
  cases x
  case ro p i=>
   obtain ⟨v,e,hr⟩:=hx
   exact .pure hσ h.2 fun υ η' A' hle hM=>⟨v,e,hr.cast h.1 hM.anon⟩
  case cv v=>
   simp only at h
   split at h
   ·rename_i he;cases he
   ·rename_i he;cases he
    obtain ⟨rfl,h⟩:=h
    obtain ⟨e1,e2⟩:=hx
    exact .pure hσ h fun υ η' A' hle hM=>⟨_,e1,zJ q⟩
   all_goals first |exact h.elim|(rename_i he;cases he)
  case rw a=>
   simp only at h
   cases e:H a with
   |none=>rw [e] at h;exact h.elim
   |some c=>
    rw [e] at h
    cases c with
    |blk E i=>exact h.elim
    |row E p i=>
     simp only at h
     obtain ⟨v,e1,e2,_⟩:=hx
     refine (tu hσ (by rw [e];simp) h.2).imp fun υ η' A' hM hA=> ?_
     obtain ⟨v',e3,hr⟩:=uO (hH _ _ e) hA
     rw [e1] at e3;cases e3
     exact ⟨v,e2,hr.cast h.1 fun _ h=>h⟩
  case sub a lo n=>
   simp only at h
   cases e:H a with
   |none=>rw [e] at h;exact h.elim
   |some c=>
    rw [e] at h
    cases c with
    |blk E i=>exact h.elim
    |row E p i=>
     simp only at h
     cases e2:Nat.beq p.n 1 with
     |false=>rw [e2] at h;exact h.elim
     |true=>
      rw [e2] at h
      refine (tu hσ (by rw [e];simp) h.2).imp fun υ η' A' hM hA=> ?_
      obtain ⟨v,e3,hr⟩:=zH (aQ e2) (hH _ _ e) hx hA
      exact ⟨v,e3,hr.cast h.1 fun _ h=>h⟩
  all_goals exact h.elim
 |bb l=>
  cases x<;>simp only [qT] at h
  obtain ⟨rfl,h⟩:=h
  refine .pure hσ h fun υ η' A' hle hM=> ?_
  obtain ⟨a,c,h1,h2,h3,h4,h5⟩:=hx
  refine ⟨a,c,h1,h2,h3,h4,fun hn=> ?_⟩
  obtain ⟨g,q,us,e,hA,hr,hlen,hall⟩:=h5 hn
  exact ⟨g,q,us,e,hM.anon g hA,hr,hlen,fun i hi hi'=>dU.cast (k:= .u8) (q:= .u8) (show ja .u8 .u8 l[i] l[i] from rfl) hM.anon (hall i hi hi')⟩
theorem kH {n:Nat} {x:Cl} {l:List Cl} (h:dw n (x::l)=true):x.lt n=true∧dw n l=true:=by
 unfold dw at h
 cases e:x.lt n with
 |false=>rw [e] at h;cases h
 |true=>rw [e] at h;exact ⟨rfl,h⟩
theorem ut (hH:∀b c,H b=some c→c.H η A w b):∀ {l m:List Cl},dw nx m=true→∀ {cs:List Value},aK η A w l cs→∀ {σ:ew},fA H kp σ→∀ {k:ew→Prop},Oq H kp l m σ k→jb H nx kp η A σ k fun η' A'=>aK η' A' w (m.map (Cl.rn nx)) cs
 | [],[],_,_,hc,_,hσ,_,h=> .pure hσ h fun _ _ _ _ _=>hc
 | [],_::_,_,_,_,_,_,_,h=>h.elim
 |_::_,[],_,_,_,_,_,_,h=>h.elim
 |x::r,y::q,hy,_,⟨h1,t,e,hx,hr⟩,_,hσ,_,h=>by
  obtain ⟨hy1,hy2⟩:=kH hy
  refine ((J2 hH hy1 hx hσ (show qT H kp x y _ _ from h)).bind fun τ hτ hf=>ut hH hy2 hr hτ hf).imp fun υ η' A' hM hXY=> ?_
  exact ⟨h1,t,e,hXY.1,hXY.2⟩
theorem QI (hH:∀b c,H b=some c→c.H η A w b) {l:List AV} {y:AV} (hy:y.lt nx=true) {v:Value} (hl:bz η A w l v) {σ:ew} (hσ:fA H kp σ) {k:ew→Prop} (h:Xv H kp l y σ k):jb H nx kp η A σ k fun η' A'=>bz η' A' w [y.rn nx] v:=by
 match l,h with
 | [.one x],h=>
  cases y with
  |one y=>exact J2 hH hy hl hσ h
  |agg y=>exact h.elim
 | [.agg x],h=>
  cases y with
  |one y=>exact h.elim
  |agg y=>
   obtain ⟨cs,e,hc,h1⟩:=hl
   exact (ut hH hy hc hσ h).imp fun _ _ _ _ hX=>⟨cs,e,hX,h1⟩
 | [],h=>exact h.elim
 | .one _::_::_,h=>exact h.elim
 | .agg _::_::_,h=>exact h.elim
theorem DJ (hH:∀b c,H b=some c→c.H η A w b) {sl:Nat→List AV} {val:Nat→Value} (hs:∀t,bz η A w (sl t) (val t)):∀ {I:List (Nat×AV)},yy nx I=true→∀ {σ:ew},fA H kp σ→∀ {k:ew→Prop},Q5 H kp sl I σ k→
  jb H nx kp η A σ k fun η' A'=>∀p∈I,bz η' A' w [p.2.rn nx] (val p.1)
 | [],_,_,hσ,_,h=> .pure hσ h fun _ _ _ _ _ _ hp=>(by cases hp)
 |(t,y)::r,hl,_,hσ,_,h=>by
  unfold yy at hl
  cases e:y.lt nx with
  |false=>rw [e] at hl;cases hl
  |true=>
   rw [e] at hl
   refine ((QI hH e (hs t) hσ (show Xv H kp (sl t) y _ _ from h)).bind fun τ hτ hf=>DJ hH hs hl hτ hf).imp fun υ η' A' hM hXY=> ?_
   intro p hp
   rcases List.mem_cons.1 hp with rfl|hp
   ·exact hXY.1
   ·exact hXY.2 p hp
theorem Ll (hH:∀b c,H b=some c→c.H η A w b) {a b:Nat} {y:Ch} (hl:∀E l,y= .blk E l→dw nx l=true) {σ:ew} (hσ:fA H kp σ) {k:ew→Prop} (h:T4 H kp (H a) y σ k):
  H a≠none∧jb H nx kp η A σ k fun η' A'=>(∀v,η a=some v→η' b=some v)→(y.rn nx).H η' A' w b:=by
 cases e:H a with
 |none=>rw [e] at h;cases y<;>exact h.elim
 |some c=>
  refine ⟨by simp,?_⟩
  have hc:=hH a c e
  rw [e] at h
  cases y with
  |blk E l=>
   cases c with
   |row F p i=>exact h.elim
   |blk F i=>
    unfold T4 at h
    simp only at h
    cases e2:Nat.beq E F with
    |false=>rw [e2] at h;exact h.elim
    |true=>
     rw [e2] at h
     have:=aQ e2
     subst this
     obtain ⟨g,cs,h1,h2,h3,h4⟩:=hc
     exact (ut hH (hl _ _ rfl) h3 hσ h).imp fun υ η' A' hM hX hv=>⟨g,cs,hv _ h1,h2,hX,h4⟩
  |row E q l=>
   cases c with
   |blk F i=>exact h.elim
   |row F p i=>
    unfold T4 at h
    simp only at h
    cases e2:Nat.beq E F with
    |false=>rw [e2] at h;exact h.elim
    |true=>
     rw [e2] at h
     have:=aQ e2
     subst this
     obtain ⟨v,cs,h1,h2,h3⟩:=hc
     refine .pure hσ h.2 fun υ η' A' hle hM hv=> ?_
     obtain ⟨g1,g2,g3⟩:=l5 h.1 h2
     exact ⟨v,cs,hv _ h1,g1,by rw [←g2,←g3];exact h3⟩
def A0 (nx:Nat) (H:Nat→Option Ch) (w:World) (υ:ew) (p:Nat×Ch) (η':bx) (A':Nat→Prop):Prop:=
 (p.2.rn nx).H η' A' w (eL nx p.1)∧(cX p.1=false→H p.1≠none)∧(cX p.1=true→∃d,bH υ.m p.1=some d∧∀a,d=some a→H a≠none)
theorem oh (hH:∀b c,H b=some c→c.H η A w b):∀ {I:List (Nat×Ch)},Fd nx I=true→∀ {σ:ew},fA H kp σ→∀ {k:ew→Prop},Gq H kp I σ k→
  ∃τ,fH σ τ∧fA H kp τ∧k τ∧∀υ,fH τ υ→∀η' A',jF nx kp η A υ η' A'→∀p∈I,A0 nx H w υ p η' A'
 | [],_,σ,hσ,_,h=>⟨σ,fH.refl _,hσ,h,fun _ _ _ _ _ _ hp=>(by cases hp)⟩
 |(b,y)::r,hl,σ,hσ,k,h=>by
  have hl2:Nat.blt b nx=true∧(∀E l,y= .blk E l→dw nx l=true)∧Fd nx r=true:=by
   unfold Fd at hl
   cases e:Nat.blt b nx with
   |false=>rw [e] at hl;cases hl
   |true=>
    rw [e] at hl
    refine ⟨rfl,?_⟩
    cases y with
    |row E q l=>exact ⟨fun _ _ h=>(by cases h),hl⟩
    |blk E l=>
     simp only at hl
     cases e2:dw nx l with
     |false=>rw [e2] at hl;cases hl
     |true=>rw [e2] at hl;exact ⟨fun _ _ h=>(by cases h;exact e2),hl⟩
  obtain ⟨hb1,hb2,hb3⟩:=hl2
  unfold Gq at h
  cases hb:cX b with
  |false=>
   rw [hb] at h
   obtain ⟨hne,hok⟩:=Ll (nx:=nx) (b:=b) hH hb2 hσ h
   obtain ⟨τ,h1,h2,h3,h4⟩:=hok
   obtain ⟨ρ,g1,g2,g3,g4⟩:=oh hH hb3 h2 h3
   refine ⟨ρ,h1.trans g1,g2,g3,fun υ hle η' A' hM p hp=> ?_⟩
   rcases List.mem_cons.1 hp with rfl|hp
   ·refine ⟨?_,fun _=>hne,fun h=>by simp [hb] at h⟩
    unfold eL;simp only [hb]
    exact h4 υ (g1.trans hle) η' A' hM fun v hv=>hM.old b hb (by simpa using hb1) v hv
   ·exact g4 υ hle η' A' hM p hp
  |true=>
   rw [hb] at h
   simp only at h
   cases e:bH σ.m b with
   |none=>rw [e] at h;exact h.elim
   |some d=>
    rw [e] at h
    cases d with
    |some a=>
     simp only at h
     obtain ⟨hne,hok⟩:=Ll (nx:=nx) (b:=nx+b) hH hb2 hσ h
     obtain ⟨τ,h1,h2,h3,h4⟩:=hok
     obtain ⟨ρ,g1,g2,g3,g4⟩:=oh hH hb3 h2 h3
     refine ⟨ρ,h1.trans g1,g2,g3,fun υ hle η' A' hM p hp=> ?_⟩
     rcases List.mem_cons.1 hp with rfl|hp
     ·have hsub:=hle.1 _ _ (g1.1 _ _ (h1.1 _ _ e))
      refine ⟨?_,fun h=>by simp [hb] at h,fun _=>⟨some a,hsub,fun a' ha=>by cases ha;exact hne⟩⟩
      unfold eL;simp only [hb]
      exact h4 υ (g1.trans hle) η' A' hM fun v hv=>by rw [hM.new b a hb hsub];exact hv
     ·exact g4 υ hle η' A' hM p hp
    |none=>
     cases y with
     |blk E l=>exact h.elim
     |row E q l=>
      simp only at h
      obtain ⟨rfl,h⟩:=h
      obtain ⟨ρ,g1,g2,g3,g4⟩:=oh hH hb3 hσ h
      refine ⟨ρ,g1,g2,g3,fun υ hle η' A' hM p hp=> ?_⟩
      rcases List.mem_cons.1 hp with rfl|hp
      ·have hsub:=hle.1 _ _ (g1.1 _ _ e)
       refine ⟨?_,fun h=>by simp [hb] at h,fun _=>⟨none,hsub,fun a' ha=>by cases ha⟩⟩
       unfold eL;simp only [hb]
       exact ⟨_,[],hM.nil b hb hsub,rfl,World.ownsRow_nil w 0 E q.n⟩
      ·exact g4 υ hle η' A' hM p hp
end mt
theorem nH (n:Nat):∀(I:List (Nat×AV)) (l:List (Nat×Nat×List AV)),∃l',(∀ {α:Type} (k:List (Nat×Nat×List AV)→α),mL n I l k=k l')∧∀t,(∃y,(t,y)∈I∧bY l' t= [y.rn n])∨bY l' t=bY l t
 | [],l=>⟨l,fun _=>rfl,fun _=> .inr rfl⟩
 |(u,a)::r,l=>by
  obtain ⟨l1,h1,e1⟩:=jW u n [a.rn n] l
  obtain ⟨l2,h2,e2⟩:=nH n r l1
  refine ⟨l2,fun k=>by simp only [mL,No,h1,h2],fun t=> ?_⟩
  rcases e2 t with ⟨y,h3,h4⟩|h3
  ·exact .inl ⟨y,by simp [h3],h4⟩
  ·rw [h3,e1]
   by_cases h:u=t
   ·subst h;exact .inl ⟨a,by simp,by simp⟩
   ·exact .inr (by simp [h])
theorem pG (n:Nat):∀(I:List (Nat×Ch)) (l:List (Nat×Nat×Ch)),∃l',(∀ {α:Type} (k:List (Nat×Nat×Ch)→α),sq n I l k=k l')∧
  (∀b c,aF l' b=some c→(∃p∈I,b=eL n p.1∧c=p.2.rn n)∨(aF l b=some c∧∀p∈I,eL n p.1≠b))∧(∀b,aF l b≠none→aF l' b≠none)∧ki n l l'
 | [],l=>⟨l,fun _=>rfl,fun b c h=> .inr ⟨h,fun _ h=>(by cases h)⟩,fun _ h=>h,ki.refl _ _⟩
 |(u,a)::r,l=>by
  obtain ⟨l1,h1,e1⟩:=ia (eL n u) n (a.rn n) l
  obtain ⟨l2,h2,e2,e3,e4⟩:=pG n r l1
  refine ⟨l2,fun k=>by simp only [sq,MR,ck,h1,h2],fun b c h=> ?_,fun b hb=>e3 b ?_,(qo _ _ _ _ _ h1).trans (Nat.le_refl _) e4⟩
  ·rcases e2 b c h with ⟨p,h3,h4⟩|⟨h3,h4⟩
   ·exact .inl ⟨p,by simp [h3],h4⟩
   ·rw [e1] at h3
    simp only at h3
    by_cases hb:b=eL n u
    ·rw [if_pos hb] at h3
     exact .inl ⟨(u,a),by simp,hb,by cases h3;rfl⟩
    ·rw [if_neg hb] at h3
     refine .inr ⟨h3,fun p hp=> ?_⟩
     rcases List.mem_cons.1 hp with rfl|hp
     ·exact fun e=>hb e.symm
     ·exact h4 p hp
  ·rw [e1];simp only;split
   ·simp
   ·exact hb
theorem gV {α:Type} (b:Nat):∀l:List (Nat×α),dG b l=true↔∃p∈l,p.1=b
 | []=>by simp [dG]
 |(c,x)::r=>by
  cases e:Nat.beq c b with
  |true=>
   have e1:dG b ((c,x)::r)=true:=by simp only [dG,e]
   rw [e1];exact ⟨fun _=>⟨(c,x),.head _,aQ e⟩,fun _=>rfl⟩
  |false=>
   have e1:dG b ((c,x)::r)=dG b r:=by simp only [dG,e]
   have hne:=Nat.ne_of_beq_eq_false e
   rw [e1,gV b r]
   constructor
   ·rintro ⟨p,h1,h2⟩;exact ⟨p,.tail _ h1,h2⟩
   ·rintro ⟨p,h1,h2⟩
    rcases List.mem_cons.1 h1 with h1|h1
    ·subst h1;exact absurd h2 hne
    ·exact ⟨p,h1,h2⟩
theorem lT {b:Nat}:∀ {l:List (Nat×Nat×Ch)} {c:Ch},aF l b=some c→dG b l=true
 | [],_,h=>by cases h
 |(u,v,x)::r,c,h=>by
  unfold aF at h
  unfold dG
  cases e:Nat.beq u b with
  |true=>rfl
  |false=>rw [e] at h;exact lT h
section
variable {n:Nat} {η η':bx} {A A':Nat→Prop} {w:World}
theorem Cl.H.names (he:∀b,b<n→η' b=η b) (hA:∀g,A g→A' g) {x:Cl} (hx:x.lt n=true) {cs:List Value} (h:x.H η A w cs):x.H η' A' w cs:=by
 cases x
 case any=>exact h
 case un=>exact h
 case cv=>exact h
 case ob=>exact h
 case vec=>exact h
 case ptr b j=>
  obtain ⟨g,h1,h2⟩:=h
  exact ⟨g,by rw [he b (by simpa [Cl.lt] using hx)];exact h1,h2⟩
 case pix b j i=>
  obtain ⟨g,h1,h2⟩:=h
  exact ⟨g,by unfold bu at *;rw [he b (by simpa [Cl.lt] using hx)];exact h1,h2⟩
 case pro k x=>
  obtain ⟨g,q,us,h1,h2,h3⟩:=h
  exact ⟨g,q,us,h1,hA g h2,h3⟩
 case sl b j m c=>
  obtain ⟨hn,g,h1,h2⟩:=h
  exact ⟨hn,g,by rw [he b (by simpa [Cl.lt] using hx)];exact h1,h2⟩
 case rw b=>
  obtain ⟨v,h1,h2⟩:=h
  exact ⟨v,by rw [he b (by simpa [Cl.lt] using hx)];exact h1,h2⟩
 case sub b j m=>
  obtain ⟨v,a,c,h1,h2⟩:=h
  exact ⟨v,a,c,by rw [he b (by simpa [Cl.lt] using hx)];exact h1,h2⟩
 case ro k l=>
  obtain ⟨v,h1,a,c,g1,g2,g3,g4,g5⟩:=h
  exact ⟨v,h1,a,c,g1,g2,g3,g4,fun hn=>by obtain ⟨g,q,cs,e1,e2,e3⟩:=g5 hn;exact ⟨g,q,cs,e1,hA g e2,e3⟩⟩
 case bb l=>
  obtain ⟨a,c,h1,h2,h3,h4,h5⟩:=h
  refine ⟨a,c,h1,h2,h3,h4,fun hn=> ?_⟩
  obtain ⟨g,q,us,e,e2,hr,hlen,hall⟩:=h5 hn
  exact ⟨g,q,us,e,hA g e2,hr,hlen,fun i hi hi'=>dU.cast (k:= .u8) (q:= .u8) (show ja .u8 .u8 l[i] l[i] from rfl) hA (hall i hi hi')⟩
 case pbb l=>
  obtain ⟨g,q,v,h1,h2,h3,h4⟩:=h
  exact ⟨g,q,v,h1,hA g h2,h3,dU.cast (k:= .u8) (q:= .u8) (show ja .u8 .u8 l l from rfl) hA h4⟩
 case ln=>exact h
 case mp v f=>exact ⟨h.1,h.2.mono hA⟩
 case rv v l=>exact ⟨h.1,dU.cast (k:= .u8) (q:= .u8) (show ja .u8 .u8 l l from rfl) hA h.2⟩
theorem aK.names (he:∀b,b<n→η' b=η b) (hA:∀g,A g→A' g):∀ {l:List Cl},dw n l=true→∀ {cs:List Value},aK η A w l cs→aK η' A' w l cs
 | [],_,_,h=>h
 |_::_,hl,_,⟨h,t,e,hx,hr⟩=>by
  obtain ⟨h1,h2⟩:=kH hl
  exact ⟨h,t,e,hx.names he hA h1,hr.names he hA h2⟩
theorem oX {x:AV} {l:List AV} (h:fI n (x::l)=true):x.lt n=true∧fI n l=true:=by
 cases x with
 |one x=>
  unfold fI at h
  cases e:x.lt n with
  |false=>rw [e] at h;cases h
  |true=>rw [e] at h;exact ⟨e,h⟩
 |agg q=>
  unfold fI at h
  cases e:dw n q with
  |false=>rw [e] at h;cases h
  |true=>rw [e] at h;exact ⟨e,h⟩
theorem AV.H.names (he:∀b,b<n→η' b=η b) (hA:∀g,A g→A' g) {x:AV} (hx:x.lt n=true) {v:Value} (h:x.H η A w v):x.H η' A' w v:=by
 cases x with
 |one x=>exact Cl.H.names he hA hx h
 |agg l=>obtain ⟨cs,e,h,h1⟩:=h;exact ⟨cs,e,h.names he hA hx,h1⟩
theorem bQ.names (he:∀b,b<n→η' b=η b) (hA:∀g,A g→A' g):∀ {l:List AV},fI n l=true→∀ {vs:List Value},bQ η A w l vs→bQ η' A' w l vs
 | [],_,_,h=>h
 |_::_,hl,_,⟨v,t,e,hx,hr⟩=>by
  obtain ⟨h1,h2⟩:=oX hl
  exact ⟨v,t,e,hx.names he hA h1,hr.names he hA h2⟩
theorem bz.names (he:∀b,b<n→η' b=η b) (hA:∀g,A g→A' g):∀ {l:List AV},fI n l=true→∀ {v:Value},bz η A w l v→bz η' A' w l v
 | [],_,_,_=>trivial
 | [_],hl,_,h=>AV.H.names he hA (oX hl).1 h
 |_::_::_,hl,_,⟨vs,e,h⟩=>⟨vs,e,h.names he hA hl⟩
theorem zo:∀ {l:List (Nat×Nat×List AV)},xu n l=true→∀t,fI n (bY l t)=true
 | [],_,_=>rfl
 |(u,v,a)::r,h,t=>by
  unfold xu at h
  cases e:fI n a with
  |false=>rw [e] at h;cases h
  |true=>
   rw [e] at h
   unfold bY
   cases e2:Nat.beq u t with
   |true=>exact e
   |false=>exact zo h t
theorem ji:∀ {l:List (Nat×Nat×Ch)},oF n l=true→∀ {b:Nat} {c:Ch},aF l b=some c→b<n∧(∀E q,c= .blk E q→dw n q=true)∧0<bX l b∧bX l b<n∧cX b=false
 | [],_,_,_,h=>by cases h
 |(u,v,a)::r,h,b,c,hb=>by
  unfold oF at h
  cases e1:Nat.blt u n<;>cases e2:Nat.blt v n<;>cases e3:Nat.blt 0 v<;>cases e6:cX u<;>rw [e1,e2,e3,e6] at h<;>first |(cases h;done)|skip
  simp only at h
  have hr:oF n r=true∧∀E q,a= .blk E q→dw n q=true:=by
   cases a with
   |row E k l=>exact ⟨h,fun _ _ h=>(by cases h)⟩
   |blk E l=>
    simp only at h
    cases e4:dw n l with
    |false=>rw [e4] at h;cases h
    |true=>rw [e4] at h;exact ⟨h,fun _ _ h=>(by cases h;exact e4)⟩
  unfold aF at hb
  unfold bX
  cases e5:Nat.beq u b with
  |true=>
   rw [e5] at hb
   simp only [Option.some.injEq] at hb
   subst hb
   have:=aQ e5
   subst this
   exact ⟨by simpa using e1,hr.2,by simpa using e3,by simpa using e2,e6⟩
  |false=>rw [e5] at hb;exact ji hr.1 hb
theorem Ch.H.names (he:∀b,b<n→η' b=η b) (hA:∀g,A g→A' g) {b:Nat} (hb:b<n) {c:Ch} (hc:∀E q,c= .blk E q→dw n q=true) (h:c.H η A w b):c.H η' A' w b:=by
 cases c with
 |blk E l=>obtain ⟨g,cs,h1,h2,h3,h4⟩:=h;exact ⟨g,cs,by rw [he b hb];exact h1,h2,h3.names he hA (hc _ _ rfl),h4⟩
 |row E k l=>obtain ⟨v,cs,h1,h2⟩:=h;exact ⟨v,cs,by rw [he b hb];exact h1,h2⟩
end
theorem eI {b:Nat} (h:cX b=true):b<1000:=by simpa [cX] using h
def cB (nx:Nat) (τ:ew) (η:bx):bx:=fun b=>if b<nx then η b else if b<nx+1000 then (match bH τ.m (b-nx) with |some (some a)=>η a|some none=>some (.slice none 0 0)|none=>none) else none
theorem dK {nx:Nat} {τ:ew} {η:bx} {b:Nat} (h:b<nx):cB nx τ η b=η b:=by simp [cB,h]
theorem co {nx:Nat} {τ:ew} {η:bx} {b:Nat} (h:b<1000):cB nx τ η (nx+b)=(match bH τ.m b with |some (some a)=>η a|some none=>some (.slice none 0 0)|none=>none):=by
 unfold cB
 rw [if_neg (by omega),if_pos (by omega),show nx+b-nx=b by omega]
theorem Yf {S':AS} {N nx:Nat} {η:bx} {a:Act} {w:World} (hS:gR (bY S'.sl) (aF S'.hp) N η a w) {sl0:List (Nat×Nat×List AV)} {hp0:List (Nat×Nat×Ch)} {I:Inv} {kp:Nat→Bool} {τ:ew} (hnx:1000≤nx)
  (hI:∀η' A',jF nx kp η (ay (aF S'.hp) η) τ η' A'→(∀p∈I.sl,bz η' A' w [p.2.rn nx] (a.tmps.getD p.1 undef))∧∀p∈I.hp,A0 nx (aF S'.hp) w τ p η' A') (hτ:fA (aF S'.hp) kp τ) (hIl:∀p∈I.hp,p.1<nx)
  (hd:∀b c,bH τ.m b=some (some c)→dG c hp0=false∧dG c I.hp=false) (hu:∀c,bI c τ.u=true→dG c hp0=false∧dG c I.hp=false)
  (h1:∀t,bY sl0 t= []∨bY S'.sl t=bY sl0 t) (h2:xu nx sl0=true) (h3:oF nx hp0=true) (h4:∀b c,aF hp0 b=some c→dG b I.hp=true∨aF S'.hp b=some c)
  {sl1:List (Nat×Nat×List AV)} {hp1:List (Nat×Nat×Ch)} (e1:∀t,(∃y,(t,y)∈I.sl∧bY sl1 t= [y.rn nx])∨bY sl1 t=bY sl0 t)
  (e2:∀b c,aF hp1 b=some c→(∃p∈I.hp,b=eL nx p.1∧c=p.2.rn nx)∨(aF hp0 b=some c∧∀p∈I.hp,eL nx p.1≠b)):
  gR (bY sl1) (aF hp1) N (cB nx τ η) a w∧∀g,ay (aF S'.hp) η g→ay (aF hp1) (cB nx τ η) g:=by
 have hold:∀b,b<nx→cB nx τ η b=η b:=fun b hb=>dK hb
 have hM0:∀A':Nat→Prop,(∀g,ay (aF S'.hp) η g→A' g)→(∀a g,bI a τ.u=true→bu η a=some g→A' g)→jF nx kp η (ay (aF S'.hp) η) τ (cB nx τ η) A':=fun A' hA hsh=>
  ⟨fun b _ hlt v hv=>by rw [hold b hlt];exact hv,fun b c hb hs=>by rw [co (eI hb),hs],fun b hb hs=>by rw [co (eI hb),hs],hA,hsh⟩
 have hX:=hI _ _ (hM0 (fun _=>True) (fun _ _=>trivial) (fun _ _ _ _=>trivial))
 have h5:∀b c,aF hp0 b=some c→aF S'.hp b≠none:=fun b c hb=>by
  rcases h4 b c hb with h6|h6
  ·rw [gV] at h6
   obtain ⟨p,hp,rfl⟩:=h6
   exact (hX.2 p hp).2.1 (ji h3 hb).2.2.2.2
  ·rw [h6];simp
 have href:∀b c,aF hp1 b=some c→bu (cB nx τ η) b=none∨∃r,aF S'.hp r≠none∧bu (cB nx τ η) b=bu η r∧((∃q,cX q=true∧b=nx+q∧bH τ.m q=some (some r))∨(r=b∧(dG b hp0=true∨dG b I.hp=true))):=fun b c hb=>by
  rcases e2 b c hb with ⟨p,hp,rfl,rfl⟩|⟨hb,_⟩
  ·obtain ⟨_,g1,g2⟩:=hX.2 p hp
   cases hbn:cX p.1 with
   |true=>
    obtain ⟨d,hd1,hd2⟩:=g2 hbn
    have er:eL nx p.1=nx+p.1:=by unfold eL;rw [hbn]
    rw [er]
    have eh:=co (nx:=nx) (τ:=τ) (η:=η) (eI hbn)
    rw [hd1] at eh
    cases d with
    |none=>left;unfold bu;rw [eh];rfl
    |some r=>right;exact ⟨r,hd2 r rfl,by unfold bu;rw [eh],.inl ⟨p.1,hbn,rfl,hd1⟩⟩
   |false=>
    have er:eL nx p.1=p.1:=by unfold eL;rw [hbn]
    rw [er]
    exact .inr ⟨p.1,g1 hbn,by unfold bu;rw [hold _ (hIl p hp)],.inr ⟨rfl,.inr (by rw [gV];exact ⟨p,hp,rfl⟩)⟩⟩
  ·exact .inr ⟨b,h5 b c hb,by unfold bu;rw [hold b (ji h3 hb).1],.inr ⟨rfl,.inl (lT hb)⟩⟩
 have hanon:∀g,ay (aF S'.hp) η g→ay (aF hp1) (cB nx τ η) g:=fun g hg b hb=>by
  cases e:aF hp1 b with
  |none=>exact absurd e hb
  |some c=>
   rcases href b c e with h|⟨r,hr,e3,_⟩
   ·rw [h];simp
   ·rw [e3];exact hg r hr
 have hshare:∀a g,bI a τ.u=true→bu η a=some g→ay (aF hp1) (cB nx τ η) g:=fun x g hx hg b hb=>by
  cases e:aF hp1 b with
  |none=>exact absurd e hb
  |some c=>
   rcases href b c e with h|⟨r,hr,e3,h⟩
   ·rw [h];simp
   ·rw [e3]
    have hne:x≠r:=by
     rintro rfl
     rcases h with ⟨q,_,_,hq⟩|⟨rfl,hk|hk⟩
     ·rw [hτ.shut q x hq] at hx;cases hx
     ·rw [(hu x hx).1] at hk;cases hk
     ·rw [(hu x hx).2] at hk;cases hk
    exact hS.apart x r g hne (hτ.live x hx) hr hg
 have hY:=hI _ _ (hM0 _ hanon hshare)
 refine ⟨⟨hS.df,hS.sz,fun t=> ?_,fun b c hb=> ?_,fun b b' g hne hb hb' hg=> ?_⟩,hanon⟩
 ·rcases e1 t with ⟨y,h6,h7⟩|h6
  ·rw [h7];exact hY.1 (t,y) h6
  ·rw [h6]
   rcases h1 t with h7|h7
   ·rw [h7];trivial
   ·have:=hS.slot t
    rw [h7] at this
    exact this.names hold hanon (zo h2 t)
 ·rcases e2 b c hb with ⟨p,hp,rfl,rfl⟩|⟨hb,hn⟩
  ·exact (hY.2 p hp).1
  ·obtain ⟨g1,g2,_,_,g5⟩:=ji h3 hb
   rcases h4 b c hb with h6|h6
   ·rw [gV] at h6
    obtain ⟨p,hp,rfl⟩:=h6
    exact absurd (by unfold eL;rw [g5]) (hn p hp)
   ·exact (hS.chunk b c h6).names hold hanon g1 g2
 ·cases e:aF hp1 b with
  |none=>exact absurd e hb
  |some c=>
   cases e':aF hp1 b' with
   |none=>exact absurd e' hb'
   |some c'=>
    rcases href b c e with h|⟨r,hr,e3,h⟩
    ·rw [h] at hg;cases hg
    ·rcases href b' c' e' with h'|⟨r',hr',e3',h'⟩
     ·rw [h'];simp
     ·rw [e3']
      rw [e3] at hg
      refine hS.apart r r' g ?_ hr hr' hg
      rintro rfl
      rcases h with ⟨q,hq,rfl,hs⟩|⟨rfl,hk⟩
      ·rcases h' with ⟨q',hq',rfl,hs'⟩|⟨rfl,hk'⟩
       ·exact hne (by rw [hτ.inj q q' r hs hs'])
       ·obtain ⟨d1,d2⟩:=hd q r hs
        rcases hk' with hk'|hk'
        ·rw [d1] at hk';cases hk'
        ·rw [d2] at hk';cases hk'
      ·rcases h' with ⟨q',hq',rfl,hs'⟩|⟨h9,hk'⟩
       ·obtain ⟨d1,d2⟩:=hd q' r hs'
        rcases hk with hk|hk
        ·rw [d1] at hk;cases hk
        ·rw [d2] at hk;cases hk
       ·exact hne h9
section
variable {sl:Nat→List AV} {hp:Nat→Option Ch}
theorem jQ {α:Type} {t:Nat} {k:List AV→R α} {ds:List Bool} {a:α} {rd:List dZ} {qs:List (Bool×Bool)} (h:(R.slot t k).run sl hp ds= .ok a rd qs):∃rd',(k (sl t)).run sl hp ds= .ok a rd' qs:=by
 unfold R.run at h
 cases e:(k (sl t)).run sl hp ds with
 |ok a' r' q'=>rw [e] at h;simp only [RR.rd,RR.ok.injEq] at h;obtain ⟨rfl,_,rfl⟩:=h;exact ⟨r',rfl⟩
 |need p=>rw [e] at h;cases h
 |fail=>rw [e] at h;cases h
theorem cg {α:Type} {b:Nat} {k:Option Ch→R α} {ds:List Bool} {a:α} {rd:List dZ} {qs:List (Bool×Bool)} (h:(R.hp b k).run sl hp ds= .ok a rd qs):∃rd',(k (hp b)).run sl hp ds= .ok a rd' qs:=by
 unfold R.run at h
 cases e:(k (hp b)).run sl hp ds with
 |ok a' r' q'=>rw [e] at h;simp only [RR.rd,RR.ok.injEq] at h;obtain ⟨rfl,_,rfl⟩:=h;exact ⟨r',rfl⟩
 |need p=>rw [e] at h;cases h
 |fail=>rw [e] at h;cases h
theorem Eb {α:Type} {p:Bool} {k:Bool→R α} {ds:List Bool} {a:α} {rd:List dZ} {qs:List (Bool×Bool)} (h:(R.dec p k).run sl hp ds= .ok a rd qs):∃d ds' qs',qs=(p,d)::qs'∧(k d).run sl hp ds'= .ok a rd qs':=by
 cases ds with
 |nil=>cases h
 |cons d ds=>
  unfold R.run at h
  cases e:(k d).run sl hp ds with
  |ok a' r' q'=>rw [e] at h;simp only [RR.asm,RR.ok.injEq] at h;obtain ⟨rfl,rfl,rfl⟩:=h;exact ⟨d,ds,q',rfl,e⟩
  |need p=>rw [e] at h;cases h
  |fail=>rw [e] at h;cases h
theorem A1 {v:Value} {x:Cl} (h:ze v=some x) {η:bx} {A:Nat→Prop} {w:World}:x.H η A w [v]∧v.oneCell'=true:=by
 unfold ze at h
 cases v
 case int k z=>
  cases k<;>simp only at h<;>first |(cases h;done)|skip
  ·cases h;exact ⟨⟨rfl,rfl⟩,rfl⟩
  all_goals
   cases z with
   |negSucc _=>cases h
   |ofNat n=>
    simp only at h
    split at h
    ·rename_i hn
     simp only [Nat.blt_eq] at hn
     cases h
     refine ⟨?_,rfl⟩
     simp only [Cl.H,Kd.rp,wZ,UInt8.toNat_ofNat',UInt16.toNat_ofNat',UInt32.toNat_ofNat',UInt64.toNat_ofNat']
     rw [Nat.mod_eq_of_lt hn];rfl
    ·cases h
 case bool b=>cases h;exact ⟨⟨rfl,rfl⟩,rfl⟩
 case string s=>cases h;exact ⟨rfl,rfl⟩
 case pointer a=>cases a<;>simp only at h<;>cases h;exact ⟨⟨rfl,rfl⟩,rfl⟩
 case slice a n c=>
  split at h<;>first |(cases h;done)|skip
  all_goals first |(cases h;exact ⟨⟨rfl,rfl⟩,rfl⟩)|(rename_i he;cases he;done)|(rename_i he;cases he;cases h;exact ⟨⟨rfl,rfl⟩,rfl⟩)
 case map r=>cases r<;>simp only at h<;>cases h;exact ⟨⟨rfl,rfl⟩,rfl⟩
 case nilFunc=>cases h;exact ⟨⟨rfl,rfl⟩,rfl⟩
 all_goals cases h
theorem uf {η:bx} {A:Nat→Prop} {w:World}:∀ {vs:List Value} {l:List Cl},pA vs=some l→aK η A w l vs∧∀v∈vs,v.oneCell'=true
 | [],l,h=>by cases h;exact ⟨rfl,fun _ h=>(by cases h)⟩
 |v::r,l,h=>by
  unfold pA at h
  cases e:ze v with
  |none=>rw [e] at h;cases h
  |some x=>
   rw [e] at h
   simp only at h
   cases e2:pA r with
   |none=>rw [e2] at h;cases h
   |some l'=>
    rw [e2] at h;cases h
    obtain ⟨g1,g2⟩:=uf (η:=η) (A:=A) (w:=w) e2
    refine ⟨⟨[v],r,rfl,(A1 e).1,g1⟩,fun u hu=> ?_⟩
    rcases List.mem_cons.1 hu with rfl|hu
    ·exact (A1 (η:=η) (A:=A) (w:=w) e).2
    ·exact g2 u hu
theorem bt {α:Type} {x:Operand} {k:AV→R α} {ds:List Bool} {r:α} {rd:List dZ} {qs:List (Bool×Bool)} (h:(eK x k).run sl hp ds= .ok r rd qs) {η:bx} {A:Nat→Prop} {w:World} {a:Act} (hs:∀t,bz η A w (sl t) (a.tmps.getD t undef)):
  ∃av rd',(k av).run sl hp ds= .ok r rd' qs∧av.H η A w (a.eval x):=by
 cases x with
 |tmp t=>
  obtain ⟨rd',h⟩:=jQ (show (R.slot t _).run sl hp ds=_ from h)
  have h1:=hs t
  split at h
  ·rename_i av e
   rw [e] at h1
   exact ⟨av,rd',h,h1⟩
  ·cases h
 |const v=>
  unfold eK at h
  simp only at h
  split at h
  ·rename_i cs
   split at h
   ·rename_i l e
    exact ⟨_,rd,h,cs.toList,by simp [Act.eval],(uf e).1,(uf (η:=η) (A:=A) (w:=w) e).2⟩
   ·cases h
  ·split at h
   ·rename_i a e
    exact ⟨_,rd,h,(A1 e).1⟩
   ·cases h
 |global g=>cases h
 |func f=>cases h
end
section
variable {ty:Nat→TE} {ct:Nat→Option CF} {N:Nat}
theorem jq (hm:Tryz.prog.follows .mixedOrders=true) (hO:az ty ct) {id:Nat} {ops:Array Oper} {dr:Bool} {S:AS} {K:KK}:∀(m:Nat) (ds:List (Nat×Bool)),
  xe ty ct N (.region id ops dr) ops.toList dr S K m ds→JK N (.region id ops dr) S K
 |0,_,h=>h
 |m+1,ds,h=>by
  unfold xe at h
  rw [Ml] at h
  cases e:dR ty ct ops.toList ds 0 ops.toList S.sl S.hp S.nx with
  |fail=>rw [e] at h;exact h
  |need i p=>
   rw [e] at h
   cases p with
   |true=>exact jq hm hO m _ (h.1 rfl)
   |false=>exact jq hm hO m _ (h.2 rfl)
  |ok rs S'=>
   rw [e] at h
   simp only at h
   split at h
   ·rename_i h1 h2 h3
    exact Gy hm hO e (fun hd=>by subst hd;exact h1) h2 h3 h
   ·exact h
theorem pg (w:List Nat):∀l:List (Nat×Nat×List AV),∃l',(∀ {α:Type} (k:List (Nat×Nat×List AV)→α),sU w l k=k l')∧∀t,bY l' t=if bI t w=true then [] else bY l t
 | []=>⟨[],fun _=>rfl,fun t=>by simp [bY]⟩
 |(u,v,a)::r=>by
  obtain ⟨l',h1,h2⟩:=pg w r
  cases e:bI u w with
  |true=>
   refine ⟨l',fun k=>by simp only [sU,e];exact h1 k,fun t=> ?_⟩
   rw [h2 t];simp only [bY]
   cases e2:Nat.beq u t with
   |true=>have:=aQ e2;subst this;simp [e]
   |false=>rfl
  |false=>
   refine ⟨(u,v,a)::l',fun k=>by simp only [sU,e];exact h1 _,fun t=> ?_⟩
   simp only [bY]
   cases e2:Nat.beq u t with
   |true=>have:=aQ e2;subst this;simp [e]
   |false=>exact h2 t
theorem pK (σ:ew):∀l:List (Nat×Nat×Ch),∃l',(∀ {α:Type} (k:List (Nat×Nat×Ch)→α),nC σ l k=k l')∧(∀b c,aF l' b=some c→aF l b=some c∧bX l' b=bX l b)∧∀b,dG b l'=true→dW σ.m b=false∧bI b σ.u=false
 | []=>⟨[],fun _=>rfl,fun _ _ h=>(by cases h),fun _ h=>(by cases h)⟩
 |(u,v,a)::r=>by
  obtain ⟨l',h1,h2,h3⟩:=pK σ r
  have hskip:dW σ.m u=true∨bI u σ.u=true→(∀b c,aF l' b=some c→aF ((u,v,a)::r) b=some c∧bX l' b=bX ((u,v,a)::r) b):=fun hu b c hb=>by
   have hk:=h3 b (lT hb)
   have hne:Nat.beq u b=false:=by
    cases e:Nat.beq u b with
    |false=>rfl
    |true=>
     have:=aQ e;subst this
     rcases hu with hu|hu
     ·rw [hk.1] at hu;cases hu
     ·rw [hk.2] at hu;cases hu
   simp only [aF,bX,hne]
   exact h2 b c hb
  cases e:dW σ.m u with
  |true=>exact ⟨l',fun k=>by simp only [nC,e];exact h1 k,hskip (.inl e),h3⟩
  |false=>
   cases e2:bI u σ.u with
   |true=>exact ⟨l',fun k=>by simp only [nC,e,e2];exact h1 k,hskip (.inr e2),h3⟩
   |false=>
    refine ⟨(u,v,a)::l',fun k=>by simp only [nC,e,e2];exact h1 _,fun b c hb=> ?_,fun b hb=> ?_⟩
    ·simp only [aF,bX] at hb ⊢
     cases e3:Nat.beq u b with
     |true=>rw [e3] at hb;exact ⟨hb,rfl⟩
     |false=>rw [e3] at hb;exact h2 b c hb
    ·simp only [dG] at hb
     cases e3:Nat.beq u b with
     |true=>have:=aQ e3;subst this;exact ⟨e,e2⟩
     |false=>rw [e3] at hb;exact h3 b hb
theorem jJ {I:List (Nat×Ch)} {hp:List (Nat×Nat×Ch)}:∀ {l:List (Nat×Nat×Ch)} {k:Prop},jL I hp l k→(∀b c,aF l b=some c→dG b I=true∨bX hp b=bX l b)∧k
 | [],k,h=>⟨fun _ _ h=>(by cases h),h⟩
 |(u,v,a)::r,k,h=>by
  unfold jL at h
  have hh:(dG u I=true∨bX hp u=v)∧jL I hp r k:=by
   cases e:dG u I with
   |true=>rw [e] at h;exact ⟨.inl rfl,h⟩
   |false=>
    rw [e] at h
    simp only at h
    cases e2:Nat.beq (bX hp u) v with
    |true=>rw [e2] at h;exact ⟨.inr (aQ e2),h⟩
    |false=>rw [e2] at h;exact h.elim
  obtain ⟨h1,h2⟩:=jJ hh.2
  refine ⟨fun b c hb=> ?_,h2⟩
  simp only [aF,bX] at hb ⊢
  cases e3:Nat.beq u b with
  |true=>have:=aQ e3;subst this;exact hh.1
  |false=>rw [e3] at hb;exact h1 b c hb
theorem Dv {n:Nat}:∀ {I:List (Nat×Ch)},Fd n I=true→∀p∈I,p.1<n
 | [],_,_,hp=>by cases hp
 |(b,c)::r,h,p,hp=>by
  unfold Fd at h
  cases e:Nat.blt b n with
  |false=>rw [e] at h;cases h
  |true=>
   rw [e] at h
   have hr:Fd n r=true:=by
    cases c with
    |row E k l=>exact h
    |blk E l=>
     simp only at h
     cases e2:dw n l with
     |false=>rw [e2] at h;cases h
     |true=>rw [e2] at h;exact h
   rcases List.mem_cons.1 hp with rfl|hp
   ·simpa using e
   ·exact Dv hr p hp
theorem jN {S:AS} {nx:Nat} {η:bx} {a:Act} {w:World} (hS:gR (bY S.sl) (aF S.hp) N η a w) {I:Inv} {hp0:List (Nat×Nat×Ch)} {W:List Nat} {k:ew→Prop} (h:g_ S nx W I hp0 k):
  ∃τ,fA (aF S.hp) (jC I.hp hp0) τ∧k τ∧(∀p∈I.hp,p.1<nx)∧k7 W I.sl=true∧∀η' A',jF nx (jC I.hp hp0) η (ay (aF S.hp) η) τ η' A'→(∀p∈I.sl,bz η' A' w [p.2.rn nx] (a.tmps.getD p.1 undef))∧∀p∈I.hp,A0 nx (aF S.hp) w τ p η' A':=by
 unfold g_ at h
 cases e1:yy nx I.sl with
 |false=>rw [e1] at h;exact h.elim
 |true=>
  cases e2:Fd nx I.hp with
  |false=>rw [e1,e2] at h;exact h.elim
  |true=>
   cases e3:k7 W I.sl with
   |false=>rw [e1,e2,e3] at h;exact h.elim
   |true=>
   rw [e1,e2,e3] at h
   obtain ⟨τ1,g1,g2,g3,g4⟩:=DJ (nx:=nx) hS.chunk hS.slot e1 (fA.nil _ _) h
   obtain ⟨τ,h1,h2,h3,h4⟩:=oh hS.chunk e2 g2 g3
   exact ⟨τ,h2,h3,Dv e2,rfl,fun η' A' hM=>⟨g4 τ h1 η' A' hM,h4 τ (fH.refl _) η' A' hM⟩⟩
end
section
variable {ty:Nat→TE} {ct:Nat→Option CF} {N:Nat}
theorem p_ {w:List Nat}:∀ {I:List (Nat×AV)},k7 w I=true→∀ {t:Nat} {y:AV},(t,y)∈I→bI t w=true
 | [],_,_,_,h=>by cases h
 |(u,a)::r,h,t,y,hm=>by
  unfold k7 at h
  cases e:bI u w with
  |false=>rw [e] at h;cases h
  |true=>
   rw [e] at h
   rcases List.mem_cons.1 hm with h1|h1
   ·cases h1;exact e
   ·exact p_ h h1
theorem tk {b:Nat}:∀ {l:List (Nat×Nat×Ch)},aF l b=none→bX l b=0
 | [],_=>rfl
 |(u,v,a)::r,h=>by
  unfold aF at h
  unfold bX
  cases e:Nat.beq u b with
  |true=>rw [e] at h;cases h
  |false=>rw [e] at h;exact tk h
theorem eQ {I:List (Nat×Ch)} {hp:List (Nat×Nat×Ch)} {b:Nat} (h:jC I hp b=false):dG b I=false∧dG b hp=false:=by
 unfold jC at h
 cases e:dG b I with
 |true=>rw [e] at h;cases h
 |false=>rw [e] at h;exact ⟨rfl,h⟩
theorem BB {c:Code} (ih:∀S K,vc ty ct N c S K→JK N c S K) {S:AS} {K:KK} (h:Jg (dQ c) S (vc ty ct N c) K):JK N (.loop c) S K:=by
 intro η a w ⟨hS,hfree⟩
 obtain ⟨ι,I,μ,i0,h⟩:=h
 obtain ⟨τ0,hτ0,h,hIl0,hk0,hX0⟩:=jN hS h
 obtain ⟨sl0,d1,d2⟩:=pg (dQ c) S.sl
 obtain ⟨hp0,d3,d4,d5⟩:=pK τ0 S.hp
 rw [d1,d3] at h
 split at h
 rotate_left
 ·exact h.elim
 rename_i g1 g2 g3
 have hnx:1000≤S.nx:=by simpa using g3
 let slT:ι→List (Nat×Nat×List AV):=fun i=>mL S.nx (I i).sl sl0 id
 let hpT:ι→List (Nat×Nat×Ch):=fun i=>sq S.nx (I i).hp hp0 id
 have hsl:∀i,(∀ {α:Type} (k:List (Nat×Nat×List AV)→α),mL S.nx (I i).sl sl0 k=k (slT i))∧∀t,(∃y,(t,y)∈(I i).sl∧bY (slT i) t= [y.rn S.nx])∨bY (slT i) t=bY sl0 t:=fun i=>by
  obtain ⟨l,h1,h2⟩:=nH S.nx (I i).sl sl0
  have e:slT i=l:=h1 id
  rw [e];exact ⟨h1,h2⟩
 have hhp:∀i,(∀ {α:Type} (k:List (Nat×Nat×Ch)→α),sq S.nx (I i).hp hp0 k=k (hpT i))∧(∀b c,aF (hpT i) b=some c→(∃p∈(I i).hp,b=eL S.nx p.1∧c=p.2.rn S.nx)∨(aF hp0 b=some c∧∀p∈(I i).hp,eL S.nx p.1≠b))∧ki S.nx hp0 (hpT i):=fun i=>by
  obtain ⟨l,h1,h2,_,h4⟩:=pG S.nx (I i).hp hp0
  have e:hpT i=l:=h1 id
  rw [e];exact ⟨h1,h2,h4⟩
 have hT:∀i,y_ S ⟨slT i,hpT i,S.nx+1000⟩:=fun i=>⟨Nat.le_add_right _ _,fun b=>by
  have hb:=(hhp i).2.2 b
  cases e:aF hp0 b with
  |none=>
   rcases hb with ⟨h1,h2⟩|hb|hb
   ·exact .inr (.inr (by show bX (hpT i) b=0;rw [h1];exact tk e))
   ·exact .inr (.inl hb)
   ·exact .inr (.inr hb)
  |some c=>
   obtain ⟨e1,e2⟩:=d4 b c e
   rcases hb with ⟨h1,h2⟩|hb|hb
   ·exact .inl ⟨by show bX (hpT i) b=_;rw [h1,e2],by show aF (hpT i) b=_;rw [h2,e,e1]⟩
   ·exact .inr (.inl hb)
   ·exact .inr (.inr hb)⟩
 let J:ι→Act→World→Prop:=fun i a' w'=>k7 (dQ c) (I i).sl=true∧∃η',gR (bY (slT i)) (aF (hpT i)) N η' a' w'∧(∀b,S.nx+1000≤b→η' b=none)∧Fw (aF S.hp) η w (aF (hpT i)) η' w'∧∀b,b<S.nx→η' b=η b
 have hlt:∀b v,η b=some v→b<S.nx:=fun b v hv=>by
  rcases Nat.lt_or_ge b S.nx with h1|h1
  ·exact h1
  ·rw [hfree b h1] at hv;cases hv
 have hhead:∀(τ:ew) (η':bx) (b:Nat),S.nx+1000≤b→cB S.nx τ η' b=none:=fun τ η' b hb=>by
  unfold cB;rw [if_neg (by omega),if_neg (by omega)]
 refine EU J μ i0 ⟨hk0,cB S.nx τ0 η,?_⟩ ?_
 ·obtain ⟨q1,q2⟩:=Yf (kp:=jC (I i0).hp []) (τ:=τ0) (sl1:=slT i0) (hp1:=hpT i0) hS hnx hX0 hτ0 hIl0
   (fun b c hb=>by
    refine ⟨?_,(eQ (hτ0.kept b c hb)).1⟩
    cases e:dG c hp0 with
    |false=>rfl
    |true=>have:=(d5 c e).1;rw [hτ0.used b c hb] at this;cases this)
   (fun c hc=>by
    refine ⟨?_,(eQ (hτ0.ukept c hc)).1⟩
    cases e:dG c hp0 with
    |false=>rfl
    |true=>have:=(d5 c e).2;rw [hc] at this;cases this)
   (fun t=>by
    rw [d2 t];split
    ·exact .inl rfl
    ·exact .inr rfl) g1 g2 (fun b c hb=> .inr (d4 b c hb).1) (hsl i0).2 (hhp i0).2.1
  exact ⟨q1,hhead _ _,⟨rfl,rfl,rfl,Nat.le_refl _,fun b v hv=>by rw [dK (hlt b v hv)];exact hv,fun g _ hg=>⟨rfl,q2 g hg⟩⟩,fun b hb=>dK hb⟩
 ·rintro i a1 w1 ⟨hki,η1,hS1,hf1,hF1,hE1⟩
  have hv:=h i
  unfold over at hv
  rw [ck] at hv
  rw [(hsl i).1,(hhp i).1,ck] at hv
  have hw:=ih _ _ hv η1 a1 w1 ⟨hS1,hf1⟩
  have hslK:∀t,bI t (dQ c)=false→bY (slT i) t=bY S.sl t:=fun t ht=>by
   rcases (hsl i).2 t with ⟨y,h1,_⟩|h1
   ·rw [p_ hki h1] at ht;cases ht
   ·rw [h1,d2 t,if_neg (by rw [ht];simp)]
  refine wp_mono hw fun e a2 w2 hP=> ?_
  obtain ⟨e',S',η2,x1,x2,⟨hS2,hf2⟩,hF2,hH2,hE2,hT2⟩:=hP
  have hother:e'≠ .normal→K e' S'→ju N (dQ (.loop c)) S η w K e a2 w2:=fun _ hK=>
   ⟨e',S',η2,x1,hK,⟨hS2,hf2⟩,hF1.trans hF2,(hT i).trans hH2,fun b hb=>(hE2 b (by show b<S.nx+1000;omega)).trans (hE1 b hb),fun t ht=>(hT2 t ht).trans (hslK t ht)⟩
  cases e with
  |normal=>
   simp only [nj,Option.some.injEq] at x1
   subst x1
   obtain ⟨j,hj,x2⟩:=x2
   obtain ⟨τ,hτ,x2,hIl,hkj,hX⟩:=jN hS2 x2
   obtain ⟨hr,_⟩:=jJ x2
   obtain ⟨q1,q2⟩:=Yf (kp:=jC (I j).hp hp0) (τ:=τ) (sl1:=slT j) (hp1:=hpT j) hS2 hnx hX hτ hIl
    (fun b c hb=>⟨(eQ (hτ.kept b c hb)).2,(eQ (hτ.kept b c hb)).1⟩)
    (fun c hc=>⟨(eQ (hτ.ukept c hc)).2,(eQ (hτ.ukept c hc)).1⟩)
    (fun t=>by
     rw [d2 t]
     cases ht:bI t (dQ c) with
     |true=>left;simp
     |false=>right;rw [hT2 t ht];simp only [Bool.false_eq_true,if_false];exact hslK t ht) g1 g2
    (fun b c hb=>by
     rcases hr b c hb with h1|h1
     ·exact .inl h1
     ·obtain ⟨_,_,h3,h4,_⟩:=ji g2 hb
      right
      rcases hH2.2 b with ⟨h5,h6⟩|h5|h5
      ·rw [h6]
       have h5':bX (hpT i) b=bX hp0 b:=h5.symm.trans h1
       rcases (hhp i).2.2 b with ⟨_,h7⟩|h7|h7
       ·exact h7.trans hb
       ·omega
       ·omega
      ·have:S.nx+1000≤bX S'.hp b:=h5
       omega
      ·omega) (hsl j).2 (hhp j).2.1
   have hF:=hF1.trans hF2
   refine ⟨j,hj,hkj,cB S.nx τ η2,q1,hhead _ _,⟨hF.os,hF.tape,hF.output,hF.size,fun b v hv=> ?_,fun g hg hA=> ?_⟩,fun b hb=> ?_⟩
   ·rw [dK (hlt b v hv)];exact hF.env b v hv
   ·obtain ⟨z1,z2⟩:=hF.anon g hg hA
    exact ⟨z1,q2 g z2⟩
   ·rw [dK hb];exact (hE2 b (by show b<S.nx+1000;omega)).trans (hE1 b hb)
  |exit id=>
   simp only [nj,Option.some.injEq] at x1
   subst x1
   exact hother (by simp) x2
  |ret=>
   simp only [nj,Option.some.injEq] at x1
   subst x1
   exact hother (by simp) x2
  |goto l=>cases x1
  |panic ch=>cases x1
  |outgrown=>cases x1
theorem pP {c:Code} (ih:∀S K,vc ty ct N c S K→JK N c S K) {K:KK} {S0:AS} {η0:bx} {w0:World}:∀(m:Nat) (S:AS),Bq (vc ty ct N c) K m S→∀η a w,pM N S η a w→Fw (aF S0.hp) η0 w0 (aF S.hp) η w→y_ S0 S→(∀b,b<S0.nx→η b=η0 b)→(∀t,bI t (dQ c)=false→bY S.sl t=bY S0.sl t)→
  BL Tryz.prog c (ju N (dQ (.loop c)) S0 η0 w0 K) m a w
 |0,_,h,_,_,_,_,_,_,_,_=>h
 |m+1,S,h,η,a,w,hS,hF,hH,hE,hT=>by
  refine wp_mono (ih _ _ h η a w hS) fun e a' w' hP=> ?_
  obtain ⟨e',S',η',x1,x2,hS',hF',hH',hE',hT'⟩:=hP
  have hother:K e' S'→ju N (dQ (.loop c)) S0 η0 w0 K e a' w':=fun hK=>
   ⟨e',S',η',x1,hK,hS',hF.trans hF',hH.trans hH',fun b hb=>(hE' b (Nat.lt_of_lt_of_le hb hH.1)).trans (hE b hb),fun t ht=>(hT' t ht).trans (hT t ht)⟩
  cases e with
  |normal=>
   simp only [nj,Option.some.injEq] at x1
   subst x1
   exact pP ih m S' x2 η' a' w' hS' (hF.trans hF') (hH.trans hH') (fun b hb=>(hE' b (Nat.lt_of_lt_of_le hb hH.1)).trans (hE b hb)) (fun t ht=>(hT' t ht).trans (hT t ht))
  |exit id=>
   simp only [nj,Option.some.injEq] at x1
   subst x1
   exact hother x2
  |ret=>
   simp only [nj,Option.some.injEq] at x1
   subst x1
   exact hother x2
  |goto l=>cases x1
  |panic ch=>cases x1
  |outgrown=>cases x1
theorem tR {c:Operand} {S:AS} {r:Option Bool×Bool} {rd:List dZ} {qs:List (Bool×Bool)} (h:(I8 c).run (bY S.sl) (aF S.hp) []= .ok r rd qs) {η:bx} {a:Act} {w:World} (hS:pM N S η a w):
  a.eval c= .bool (r.1.getD r.2):=by
 obtain ⟨av,rd',h,hv⟩:=bt h hS.1.slot
 split at h
 ·rename_i v
  simp only [R.run,RR.ok.injEq] at h
  obtain ⟨rfl,_⟩:=h
  have:=hv.1
  simpa using this
 ·rename_i p
  simp only [R.run,RR.ok.injEq] at h
  obtain ⟨rfl,_⟩:=h
  have: [a.eval c]= [Value.bool p]:=hv
  simpa using this
 ·cases h
theorem js (hm:Tryz.prog.follows .mixedOrders=true) (hO:az ty ct):∀(c:Code) (S:AS) (K:KK),vc ty ct N c S K→JK N c S K:=by
 intro c
 induction c with
 |skip=>exact fun S K h η a w hS=>wp_skip ⟨.normal,S,η,rfl,h,hS,Fw.refl _ _ _,y_.refl _,fun _ _=>rfl,fun _ _=>rfl⟩
 |label l=>exact fun S K h η a w hS=>wp_label ⟨.normal,S,η,rfl,h,hS,Fw.refl _ _ _,y_.refl _,fun _ _=>rfl,fun _ _=>rfl⟩
 |exit id=>exact fun S K h η a w hS=>wp_exit ⟨.exit id,S,η,rfl,h,hS,Fw.refl _ _ _,y_.refl _,fun _ _=>rfl,fun _ _=>rfl⟩
 |ret=>exact fun S K h η a w hS=>wp_ret ⟨.ret,S,η,rfl,h,hS,Fw.refl _ _ _,y_.refl _,fun _ _=>rfl,fun _ _=>rfl⟩
 |region id ops dr=>exact fun S K h=>jq hm hO 12 [] h
 |seq a b iha ihb=>
  intro S K h η ac w hS
  refine wp_seq (wp_mono (iha S _ h η ac w hS) fun e a' w' hP=> ?_)
  obtain ⟨e',S',η',x1,x2,hS',hF',hH',hE',hT'⟩:=hP
  have hsub:∀t,bI t (dQ (.seq a b))=false→bI t (dQ a)=false∧bI t (dQ b)=false:=fun t ht=>zg ht
  have hother:K e' S'→ju N (dQ (.seq a b)) S η w K e a' w':=fun hK=>⟨e',S',η',x1,hK,hS',hF',hH',hE',fun t ht=>hT' t (hsub t ht).1⟩
  cases e with
  |normal=>
   simp only [nj,Option.some.injEq] at x1
   subst x1
   exact wp_mono (ihb S' K x2 η' a' w' hS') fun e a w hP=>ju.mono hF' hH' hE' (fun t ht=>hT' t (hsub t ht).1) (fun t ht=>(hsub t ht).2) (fun _ _ h=>h) hP
  |exit id=>
   simp only [nj,Option.some.injEq] at x1
   subst x1
   exact hother x2
  |ret=>
   simp only [nj,Option.some.injEq] at x1
   subst x1
   exact hother x2
  |goto l=>cases x1
  |panic ch=>cases x1
  |outgrown=>cases x1
 |cond cn a b iha ihb=>
  intro S K h
  have hsub:∀t,bI t (dQ (.cond cn a b))=false→bI t (dQ a)=false∧bI t (dQ b)=false:=fun t ht=>zg ht
  have ha:vc ty ct N a S K→∀η ac w,pM N S η ac w→ac.eval cn= .bool true→(Code.cond cn a b).wp Tryz.prog (ju N (dQ (.cond cn a b)) S η w K) ac w:=fun h η ac w hS he=>
   wp_cond_true he (wp_mono (iha S K h η ac w hS) fun e a w hP=>ju.mono (Fw.refl _ _ _) (y_.refl _) (fun _ _=>rfl) (fun _ _=>rfl) (fun t ht=>(hsub t ht).1) (fun _ _ h=>h) hP)
  have hb:vc ty ct N b S K→∀η ac w,pM N S η ac w→ac.eval cn= .bool false→(Code.cond cn a b).wp Tryz.prog (ju N (dQ (.cond cn a b)) S η w K) ac w:=fun h η ac w hS he=>
   wp_cond_false he (wp_mono (ihb S K h η ac w hS) fun e a w hP=>ju.mono (Fw.refl _ _ _) (y_.refl _) (fun _ _=>rfl) (fun _ _=>rfl) (fun t ht=>(hsub t ht).2) (fun _ _ h=>h) hP)
  unfold vc at h
  split at h
  ·rename_i e
   exact fun η ac w hS=>ha h η ac w hS (tR e hS)
  ·rename_i e
   exact fun η ac w hS=>hb h η ac w hS (tR e hS)
  ·rename_i p _ _ e
   intro η ac w hS
   have he:=tR e hS
   cases p with
   |true=>exact ha (h.1 rfl) η ac w hS he
   |false=>exact hb (h.2 rfl) η ac w hS he
  ·exact h
 |block id c ih=>
  intro S K h η a w hS
  refine wp_block (wp_mono (ih S _ h η a w hS) fun e a' w' hP=> ?_)
  obtain ⟨e',S',η',x1,x2,hR⟩:=hP
  cases e with
  |normal=>
   simp only [nj,Option.some.injEq] at x1
   subst x1
   exact ⟨.normal,S',η',rfl,x2,hR⟩
  |exit j=>
   simp only [nj,Option.some.injEq] at x1
   subst x1
   simp only [Exit.inBlock]
   simp only at x2
   split at x2
   ·rename_i hj
    rw [if_pos (aQ hj)]
    exact ⟨.normal,S',η',rfl,x2,hR⟩
   ·rename_i hj
    rw [if_neg (Nat.ne_of_beq_eq_false hj)]
    exact ⟨.exit j,S',η',rfl,x2,hR⟩
  |ret=>
   simp only [nj,Option.some.injEq] at x1
   subst x1
   exact ⟨.ret,S',η',rfl,x2,hR⟩
  |goto l=>cases x1
  |panic ch=>cases x1
  |outgrown=>cases x1
 |loop c ih=>
  intro S K h
  rcases h with ⟨m,h⟩|h
  ·intro η a w hS
   exact Dc m (pP ih m S h η a w hS (Fw.refl _ _ _) (y_.refl _) (fun _ _=>rfl) (fun _ _=>rfl))
  ·exact BB ih h
 |_=>exact fun S K h=>h
end
end Go.Proofs.YtknlbpjcjdenbaaGreat
